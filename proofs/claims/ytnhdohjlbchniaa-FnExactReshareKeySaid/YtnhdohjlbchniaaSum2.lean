/- A contract for the reference's sum of dealings. (Printed by tools/gen_sum.py.) -/
import Derived.Test.YtnhdohjlbchniaaProg
import Derived.Test.YtnhdohjlbchniaaSum
namespace Go.Proofs.Ytnhdohjlbchniaa
open Go.RowKit

end Go.Proofs.Ytnhdohjlbchniaa

/- Contracts for votes of a contest: the program's test. -/
import Derived.Test.YtpfccboighdcbaaProg
import Derived.Test.YtpfccboighdcbaaVote
import Derived.RegionTactic
import Derived.ChangeAlike
namespace Go.Proofs.Ytpfccboighdcbaa
open Go.RowKit

end Go.Proofs.Ytpfccboighdcbaa

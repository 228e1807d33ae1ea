/- Contracts for the laws' own functions on lists of lists: comparisons, marks. -/
import Derived.Test.YtpfccboighdcbaaProg
import Derived.Test.YtpfccboighdcbaaMem
namespace Go.Proofs.Ytpfccboighdcbaa
open Go.RowKit



end Go.Proofs.Ytpfccboighdcbaa

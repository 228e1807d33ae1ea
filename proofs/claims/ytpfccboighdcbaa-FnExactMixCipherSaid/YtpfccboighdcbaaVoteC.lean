/- Contracts for IsValidVote: the program's and the reference's. -/
import Derived.Test.YtpfccboighdcbaaProg
import Derived.Test.YtpfccboighdcbaaVote2
namespace Go.Proofs.Ytpfccboighdcbaa
open Go.RowKit

def ivB (a b c d f : Int) (v : List Int) : Bool := validCt a b c d f && voteB a b c d f v
end Go.Proofs.Ytpfccboighdcbaa

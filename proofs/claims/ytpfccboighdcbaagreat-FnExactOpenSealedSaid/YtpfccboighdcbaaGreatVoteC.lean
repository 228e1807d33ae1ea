/- Contracts for IsValidVote: the program's and the reference's. -/
import Derived.Test.YtpfccboighdcbaaGreatProg
import Derived.Test.YtpfccboighdcbaaGreatVote2
namespace Go.Proofs.YtpfccboighdcbaaGreat
open Go.RowKit

def ivB (a b c d f : Int) (v : List Int) : Bool := validCt a b c d f && voteB a b c d f v
end Go.Proofs.YtpfccboighdcbaaGreat

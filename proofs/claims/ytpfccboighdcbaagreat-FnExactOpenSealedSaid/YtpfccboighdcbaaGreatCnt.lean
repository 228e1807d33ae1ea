/- Contracts for CountVotes: the program's and the reference's. -/
import Derived.Test.YtpfccboighdcbaaGreatProg
import Derived.Test.YtpfccboighdcbaaGreatCntP
import Derived.Test.YtpfccboighdcbaaGreatPmat
import Derived.Test.YtpfccboighdcbaaGreatApp
import Derived.Deep.RegionHeld3
import Derived.IntWalk
namespace Go.Proofs.YtpfccboighdcbaaGreat
open Go.RowKit

theorem getD_at {l : List Int} {i : Nat} (h : i < l.length) : l[i] = l.getD i 0 := by simp [List.getD, h]






end Go.Proofs.YtpfccboighdcbaaGreat

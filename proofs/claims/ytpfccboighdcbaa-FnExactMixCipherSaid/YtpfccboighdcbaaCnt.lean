/- Contracts for CountVotes: the program's and the reference's. -/
import Derived.Test.YtpfccboighdcbaaProg
import Derived.Test.YtpfccboighdcbaaCntP
import Derived.Test.YtpfccboighdcbaaPmat
import Derived.Test.YtpfccboighdcbaaApp
import Derived.Deep.RegionHeld3
import Derived.IntWalk
namespace Go.Proofs.Ytpfccboighdcbaa
open Go.RowKit

theorem getD_at {l : List Int} {i : Nat} (h : i < l.length) : l[i] = l.getD i 0 := by simp [List.getD, h]






end Go.Proofs.Ytpfccboighdcbaa

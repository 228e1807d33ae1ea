/- Contracts for the tests of digests. -/
import Derived.Test.YtnhdohjlbchniaaGreatProg
import Derived.Test.YtnhdohjlbchniaaGreatLab
namespace Go.Proofs.YtnhdohjlbchniaaGreat
open Go.RowKit

theorem l3Digest_any (k : Int) (w : World) : Calls Tryz.prog 79 #[.int .i64 k] w fun e w' => e = .returned (.bool (inR k 0 4611686018427387903)) ∧ w = w' := by
  go_enter Tryz.func79, Tryz.ntmps79
  go_wp2_with fail
  refine (l1In_any _ _ _ _).mono ?_
  rintro e w1 ⟨rfl, rfl⟩
  go_wp2
  go_ret
  exact ⟨rfl, rfl⟩
theorem isDigest_any (k : Int) (w : World) : Calls Tryz.prog 122 #[.int .i64 k] w fun e w' => e = .returned (.bool (inR k 0 4611686018427387903)) ∧ Ext w w' :=
  (isDigest_ans w [k]).2 k (by simp) w (Ext.refl w)
end Go.Proofs.YtnhdohjlbchniaaGreat

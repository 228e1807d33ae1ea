/- Contracts for the tests of digests. -/
import Derived.Test.YtnhdohjlbchniaaProg
import Derived.Test.YtnhdohjlbchniaaLab
namespace Go.Proofs.Ytnhdohjlbchniaa
open Go.RowKit

theorem l3Digest_any (k : Int) (w : World) : Calls Try.prog 125 #[.int .i64 k] w fun e w' => e = .returned (.bool (inR k 0 4611686018427387903)) ∧ w = w' := by
  go_enter Try.func125, Try.ntmps125
  go_wp2_with fail
  refine (l1In_any _ _ _ _).mono ?_
  rintro e w1 ⟨rfl, rfl⟩
  go_wp2
  go_ret
  exact ⟨rfl, rfl⟩
theorem isDigest_any (k : Int) (w : World) : Calls Try.prog 151 #[.int .i64 k] w fun e w' => e = .returned (.bool (inR k 0 4611686018427387903)) ∧ Ext w w' :=
  (isDigest_ans w [k]).2 k (by simp) w (Ext.refl w)
end Go.Proofs.Ytnhdohjlbchniaa

/- Contracts for the tests of digests. -/
import Derived.Test.YtpfccboighdcbaaProg
import Derived.Test.YtpfccboighdcbaaLab
namespace Go.Proofs.Ytpfccboighdcbaa
open Go.RowKit

theorem l3Digest_any (k : Int) (w : World) : Calls Try.prog 212 #[.int .i64 k] w fun e w' => e = .returned (.bool (inR k 0 4611686018427387903)) ∧ w = w' := by
  go_enter Try.func212, Try.ntmps212
  go_wp2_with fail
  refine (l1In_any _ _ _ _).mono ?_
  rintro e w1 ⟨rfl, rfl⟩
  go_wp2
  go_ret
  exact ⟨rfl, rfl⟩
theorem isDigest_any (k : Int) (w : World) : Calls Try.prog 235 #[.int .i64 k] w fun e w' => e = .returned (.bool (inR k 0 4611686018427387903)) ∧ Ext w w' :=
  (isDigest_ans w [k]).2 k (by simp) w (Ext.refl w)
end Go.Proofs.Ytpfccboighdcbaa

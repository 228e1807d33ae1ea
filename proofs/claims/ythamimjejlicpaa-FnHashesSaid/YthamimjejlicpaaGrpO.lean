/- Contracts for the exported functions of a group. (Printed by tools/gen_grpo.py.) -/
import Derived.Test.YthamimjejlicpaaProg
import Derived.Test.YthamimjejlicpaaGrpC
namespace Go.Proofs.Ythamimjejlicpaa
open Go.RowKit

theorem el_rng {p q x : Int} (h : elB p q x = true) : 1 ≤ x ∧ x ≤ p - 1 := (elB_iff.1 h).1




set_option maxHeartbeats 1000000 in
theorem iIsElement_any (p q g x : Int) (w : World) :
    Calls Try.prog 16 #[.agg #[.int .i64 p, .int .i64 q, .int .i64 g], .int .i64 x] w fun e w' => e = .returned (.tuple #[.bool (grpB p q g && elB p q x), .bool (grpB p q g)]) ∧ Ext w w' := by
  have E := (Ext.refl w).alloc (.cells #[.int .i64 p, .int .i64 q, .int .i64 g] 25)
  have B := Blk.new w 25 #[.int .i64 p, .int .i64 q, .int .i64 g]
  cases h1 : grpB p q g
  · have hk : (false && elB p q x) = false := rfl
    rw [hk]; clear hk
    go_enter Try.func16, Try.ntmps16
    go_wp2_with fail
    refine (IsValidGroup_any p q g _).mono ?_
    rintro e w1 ⟨he, hb⟩
    rw [h1] at he; subst he
    go_wp2
    go_ret2
    exact ⟨rfl, E.trans hb⟩
  · have hG := (grpB_in h1).bd
    have H1 := Lib.hid h1
    rw [Bool.true_and]
    clear h1
    go_enter Try.func16, Try.ntmps16
    go_wp2_with fail
    refine (IsValidGroup_any p q g _).mono ?_
    rintro e w1 ⟨he, hb⟩
    rw [H1.out] at he; subst he
    replace E := E.trans hb
    have C := (B.ext hb).cells
    clear hb
    go_wp2_with fail
    refine (has_any p q g x _ hG).mono ?_
    rintro e w2 ⟨rfl, hb⟩
    go_wp2
    go_ret2
    exact ⟨rfl, E.trans hb⟩

end Go.Proofs.Ythamimjejlicpaa

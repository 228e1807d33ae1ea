/- Contracts for copies of lists: slices.Clone, and the reference's own. -/
import Derived.Test.YtpdlcbgenimmcaaProg
import Derived.Test.YtpdlcbgenimmcaaApp
import Derived.Test.YtpdlcbgenimmcaaEq
namespace Go.Proofs.Ytpdlcbgenimmcaa
open Go.RowKit

set_option maxHeartbeats 400000 in
theorem Clone_any (A : Option Addr) (n c : Nat) (l : List Int) (w : World) (ha : RdI w A l) (hl : l.length = n) (hn : n ≤ 1000000) :
    Calls Try.prog 85 #[.slice A n c] w fun e w' => ∃ A' c', e = .returned (.slice A' n c') ∧ OwnI w' w.heap.size 3 A' n c' l ∧ Ext w w' := by
  have hq : ∀ w, (binOp .eql 28 (.slice A n c) (.slice none 0 0)).run Try.prog w = .ok (.bool A.isNone) w := fun w => Lib.run_eql_slice_nil w _ _ A n c 0 0 Try.underlying28
  cases A with
  | none =>
    have hl0 : l = [] := by
      rcases ha with h | ⟨ad, h, _⟩
      · simpa [ints] using h
      · cases h
    subst hl0
    obtain rfl : n = 0 := hl.symm
    clear hn hl
    go_enter Try.func85, Try.ntmps85
    go_wp2
    go_ret
    exact ⟨_, _, rfl, OwnI.nil _ _ _, Ext.refl _⟩
  | some ad =>
    have hO0 : OwnI (w.alloc (.cells #[] 3)) w.heap.size 3 (some ⟨w.heap.size, 0, none⟩) 0 0 [] := ownI_lit [] rfl rfl (Nat.le_refl _) (Nat.zero_le _)
    have hE := (Ext.refl w).alloc (.cells #[] 3)
    go_enter Try.func85, Try.ntmps85
    go_wp2_with (at_builtin; refine wpList_appL intSl rfl _ _ rfl hO0 rfl (ha.ext hE) hl rfl (by omega) hE.size ?_; intro A2 d2 w2 hO2 hb2)
    go_ret
    rw [List.nil_append, Nat.zero_add] at hO2
    exact ⟨_, _, rfl, hO2, (hE.then hb2 (Nat.le_refl _))⟩

set_option maxHeartbeats 400000 in
theorem l1Own_any (A : Option Addr) (n c : Nat) (l : List Int) (w : World) (ha : RdI w A l) (hl : l.length = n) (hn : n ≤ 1000000) :
    Calls Try.prog 184 #[.slice A n c] w fun e w' => ∃ A' c', e = .returned (.slice A' n c') ∧ OwnI w' w.heap.size 3 A' n c' l ∧ Ext w w' := by
  have hO0 : OwnI (w.alloc (.cells #[] 3)) w.heap.size 3 (some ⟨w.heap.size, 0, none⟩) 0 0 [] := ownI_lit [] rfl rfl (Nat.le_refl _) (Nat.zero_le _)
  have hE := (Ext.refl w).alloc (.cells #[] 3)
  go_enter Try.func184, Try.ntmps184
  go_wp2_with (at_builtin; refine wpList_appL intSl rfl _ _ rfl hO0 rfl (ha.ext hE) hl rfl (by omega) hE.size ?_; intro A2 d2 w2 hO2 hb2)
  go_ret
  rw [List.nil_append, Nat.zero_add] at hO2
  exact ⟨_, _, rfl, hO2, (hE.then hb2 (Nat.le_refl _))⟩
end Go.Proofs.Ytpdlcbgenimmcaa

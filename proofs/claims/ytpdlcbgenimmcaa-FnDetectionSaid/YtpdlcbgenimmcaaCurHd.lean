/- Drawn digests. -/
import Derived.Test.YtpdlcbgenimmcaaProg
import Derived.Test.YtpdlcbgenimmcaaCurR
import Derived.Test.YtpdlcbgenimmcaaHash
namespace Go.Proofs.Ytpdlcbgenimmcaa
open Go.RowKit

set_option maxRecDepth 100000 in
set_option maxHeartbeats 4000000 in
theorem digest_any {B : Nat} (g k : Nat) (w : World) (h : CurS B w g k) (hk : k ≤ 1000000) (hB : B ≤ w.heap.size) :
    Calls Try.prog 149 #[.pointer (some ⟨g, 0, none⟩)] w fun e w' => ∃ d : Int, e = .returned (.int .i64 d) ∧ Only [g] w w' ∧ CurS B w' g (k + 4) := by
  have hg := h.lt
  have h60 : Hid (∀ (w1 w2 : World) (r : Nat), r < 60000 ∨ r = 0 → CurS B w2 g (k + 4) → Only [g] w w2 → Calls Try.prog 166 #[.slice (some ⟨w2.heap.size, 0, none⟩) 1 1] (w2.alloc (.cells #[.int .i64 (r : Int)] 3)) fun e w' => ∃ d : Int, e = .returned (.int .i64 d) ∧ Only [g] w w' ∧ CurS B w' g (k + 4)) := by
    intro _ w2 r hr hC hO
    have hI : OwnI (w2.alloc (.cells (ints [(r : Int)]).toArray 3)) w2.heap.size 3 (some ⟨w2.heap.size, 0, none⟩) 1 1 [(r : Int)] := ownI_lit [(r : Int)] rfl rfl (Nat.le_refl _) (by unfold maxLen; omega)
    have hR : allR [(r : Int)] 0 4611686018427387903 = true := by rw [allR_iff]; intro x hx; rw [List.mem_singleton.1 hx]; omega
    have hal := (Ext.refl w2).alloc (.cells (ints [(r : Int)]).toArray 3)
    refine (hInts_any _ 1 1 [(r : Int)] _ hI.rd rfl (by omega) hR).mono ?_
    rintro e w3 ⟨rfl, hb⟩
    have hx := hal.trans hb
    exact ⟨_, rfl, hO.thenOnly (hx.toOnly _), hC.ext hx⟩
  go_enter Try.func149, Try.ntmps149
  go_wp2_with fail
  refine (pick_any g k 16 _ h (by omega) (by omega)).mono ?_
  rintro e w1 ⟨r, rfl, hr, hO1, hC1⟩
  have hz1 := hO1.size
  clear h
  by_cases h0 : (r : Int) = 0
  · have e0 : ((r : Int) == 0) = true := by simp [h0]
    go_wp2_with fail
    refine (among_new g _ 6 [-1, 4611686018427387903, 4611686018427387904, 2147483648, 2147483647, 2147483647] _ _ hC1 (by omega) rfl rfl (by omega) (by omega) (by omega)).mono ?_
    rintro e w2 ⟨d, rfl, _, hO2, hC2⟩
    go_wp2
    go_ret
    exact ⟨d, rfl, hO1.thenOnly hO2, hC2⟩
  · have e0 : ((r : Int) == 0) = false := by simp; omega
    by_cases h1 : (r : Int) = 1 ∨ (r : Int) = 2 ∨ (r : Int) = 3
    · rcases h1 with h1 | h1 | h1
      · have e1 : ((r : Int) == 1) = true := by simp [h1]
        go_wp2_with fail
        refine (pick_any g _ 60000 _ hC1 (by omega) (by omega)).mono ?_
        rintro e w2 ⟨r2, rfl, hr2, hO2, hC2⟩
        go_wp2_with fail
        refine (h60.out w1 w2 r2 (by omega) hC2 (hO1.thenOnly hO2)).mono ?_
        rintro e w3 ⟨d, rfl, hO3, hC3⟩
        go_wp2
        go_ret
        exact ⟨d, rfl, hO3, hC3⟩
      · have e1 : ((r : Int) == 1) = false := by simp [h1]
        have e2 : ((r : Int) == 2) = true := by simp [h1]
        go_wp2_with fail
        refine (pick_any g _ 60000 _ hC1 (by omega) (by omega)).mono ?_
        rintro e w2 ⟨r2, rfl, hr2, hO2, hC2⟩
        go_wp2_with fail
        refine (h60.out w1 w2 r2 (by omega) hC2 (hO1.thenOnly hO2)).mono ?_
        rintro e w3 ⟨d, rfl, hO3, hC3⟩
        go_wp2
        go_ret
        exact ⟨d, rfl, hO3, hC3⟩
      · have e1 : ((r : Int) == 1) = false := by simp [h1]
        have e2 : ((r : Int) == 2) = false := by simp [h1]
        have e3 : ((r : Int) == 3) = true := by simp [h1]
        go_wp2_with fail
        refine (pick_any g _ 60000 _ hC1 (by omega) (by omega)).mono ?_
        rintro e w2 ⟨r2, rfl, hr2, hO2, hC2⟩
        go_wp2_with fail
        refine (h60.out w1 w2 r2 (by omega) hC2 (hO1.thenOnly hO2)).mono ?_
        rintro e w3 ⟨d, rfl, hO3, hC3⟩
        go_wp2
        go_ret
        exact ⟨d, rfl, hO3, hC3⟩
    · have e1 : ((r : Int) == 1) = false := by simp; omega
      have e2 : ((r : Int) == 2) = false := by simp; omega
      have e3 : ((r : Int) == 3) = false := by simp; omega
      go_wp2_with fail
      refine (pick_any g _ 200 _ hC1 (by omega) (by omega)).mono ?_
      rintro e w2 ⟨r2, rfl, hr2, hO2, hC2⟩
      go_wp2
      go_ret
      exact ⟨_, rfl, hO1.thenOnly hO2, hC2⟩
end Go.Proofs.Ytpdlcbgenimmcaa

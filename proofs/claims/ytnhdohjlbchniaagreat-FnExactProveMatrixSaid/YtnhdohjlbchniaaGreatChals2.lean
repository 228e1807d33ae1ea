/- Contracts for lists of challenges: the reference's; both as they are called. (Printed by tools/gen_chal.py.) -/
import Derived.Test.YtnhdohjlbchniaaGreatProg
import Derived.Test.YtnhdohjlbchniaaGreatChals
namespace Go.Proofs.YtnhdohjlbchniaaGreat
open Go.RowKit

def SlPost (L : List Int) (w : World) (e : Ending) (w' : World) : Prop := ∃ B m d, e = .returned (.slice B m d) ∧ RdI w' B L ∧ L.length = m ∧ m ≤ 1000 ∧ Ext w w'
theorem chN_in {k : Nat} {s : ByteArray} {l : List Int} (h : chN k s l = true) : s.size ≤ 40 ∧ s.size + 1 + (l.length + k) ≤ 400 ∧ allR l 0 4611686018427387903 = true := by
  simpa only [chN, Bool.and_eq_true, decide_eq_true_eq] using h
set_option maxRecDepth 100000 in
set_option maxHeartbeats 8000000 in
theorem hChallenges_any (p q g : Int) (s : ByteArray) (A : Option Addr) (n c : Nat) (l : List Int) (N : Nat) (w : World) (h : grpB p q g = true) (ha : RdI w A l) (hl : l.length = n) (hN : N ≤ 100) (hk : chN 4 s l = true) :
    Calls Tryz.prog 82 #[.agg #[.int .i64 p, .int .i64 q, .int .i64 g], .string s, .slice A n c, .int .i64 N] w fun e w' => SlPost (chsL p q g s l N) w e w' := by
  have HG := Lib.hid h
  obtain ⟨hs, hnl, hall⟩ := chN_in hk
  have hn : n ≤ 400 := by omega
  have HALL : Hid (∀ i : Nat, i ≤ 1000 → allR (l ++ [(i : Int)]) 0 4611686018427387903 = true) := fun i hi => by
    have h1 : allR [(i : Int)] 0 4611686018427387903 = true := by rw [allR_iff]; intro x hx; rw [List.mem_singleton.1 hx]; omega
    rw [allR_app, hall, h1]; rfl
  have E := ((Ext.refl w).alloc (.cells #[.int .i64 p, .int .i64 q, .int .i64 g] 33))
  have B0 := (Blk.new w 33 #[.int .i64 p, .int .i64 q, .int .i64 g])
  have HL := Lib.hid hl
  clear h hl hk hall hnl
  go_enter Tryz.func82, Tryz.ntmps82
  go_wp2
  generalize (w.alloc (.cells #[.int .i64 p, .int .i64 q, .int .i64 g] 33)) = Wb at *
  have hwz := E.size
  go_loopw [9, 10] (fun u k wr => ∃ (j : Nat) (X : Option Addr) (a : Nat), j ≤ N ∧ k = .int .i64 j ∧ u = .slice X j a ∧ OwnI wr Wb.heap.size 3 X j a (chsL p q g s l j) ∧ Ext Wb wr) (fun _ k _ => N - (intOf k).toNat)
  case atStart => exact ⟨0, none, 0, Nat.zero_le _, rfl, rfl, OwnI.nil _ _ _, Ext.refl _⟩
  case round =>
    obtain ⟨j, X, a, hj, rfl, rfl, hX, E2⟩ := hrel
    by_cases hlt : j < N
    · have HAJ := Lib.hid (HALL.out j (by omega))
      have HSU := Lib.hid (chsL_succ p q g s l j)
      have hcells : ∀ V, Ext wr V → V.cell? ⟨w.heap.size, 0, none⟩ = some (.int .i64 p) ∧ V.cell? ⟨w.heap.size, 1, none⟩ = some (.int .i64 q) ∧ V.cell? ⟨w.heap.size, 2, none⟩ = some (.int .i64 g) := fun V hV => by
        have a0 := (B0.ext (E2.trans hV)).cells
        exact ⟨a0 0, a0 1, a0 2⟩
      obtain ⟨k0, k1, k2⟩ := hcells _ (Ext.refl wr)
      obtain ⟨j0, j1, j2⟩ := hcells _ ((Ext.refl wr).drew)
      obtain ⟨i0, i1, i2⟩ := hcells _ ((Ext.refl wr).alloc (.cells #[.int .i64 (j : Int)] 3))
      have hXh := hX.high
      have hz2 := E2.size
      obtain ⟨ev, hev⟩ : ∃ ev, chV p q g s (l ++ [(j : Int)]) = ev := ⟨_, rfl⟩
      have HEV := Lib.hid hev
      clear hev
      go_wp2
      go_region_law (first
          | (go_simp; go_at_call 104; refine (l1Own_any A n c l _ (RdI.ext ha (Ext.trans E (Ext.trans E2 (by repeat (first | with_reducible assumption | with_reducible exact Ext.refl _ | with_reducible apply Ext.alloc | with_reducible apply Ext.drew | with_reducible apply Ext.drewN))))) HL.out (by omega)).mono ?_; rintro en w3 ⟨A3, c3, rfl, o3, hb3⟩; have hx3 := Ext.trans (w := wr) (by repeat (first | with_reducible assumption | with_reducible exact Ext.refl _ | with_reducible apply Ext.alloc | with_reducible apply Ext.drew | with_reducible apply Ext.drewN)) hb3; obtain ⟨r0, r1, r2⟩ := hcells _ hx3; obtain ⟨s0, s1, s2⟩ := hcells _ (hx3.alloc (.cells #[.int .i64 (j : Int)] 3)); have hz3 := hx3.size; have hz33 := hb3.size; have hh3 := o3.high)
          | (refine step_app1L intSl (by rfl) _ _ (by rfl) (o3.ext (by repeat (first | with_reducible assumption | with_reducible exact Ext.refl _ | with_reducible apply Ext.alloc | with_reducible apply Ext.drew | with_reducible apply Ext.drewN))) (by rfl) _ (by rfl) (by first | exact cell_new (w := w3) rfl (by repeat (first | with_reducible assumption | with_reducible exact Ext.refl _ | with_reducible apply Ext.alloc | with_reducible apply Ext.drew | with_reducible apply Ext.drewN)) | exact cell_new (w := wr) rfl (Ext.trans (Ext.trans (by repeat (first | with_reducible assumption | with_reducible exact Ext.refl _ | with_reducible apply Ext.alloc | with_reducible apply Ext.drew | with_reducible apply Ext.drewN)) hb3) (by repeat (first | with_reducible assumption | with_reducible exact Ext.refl _ | with_reducible apply Ext.alloc | with_reducible apply Ext.drew | with_reducible apply Ext.drewN)))) (by omega) (by first | exact Nat.le_refl _ | omega | (simp; done) | (simp; omega)) ?_; intro A4 c4 w4 hO4 hon4 hli4; have hx4 := Ext.only (w := wr) (Ext.trans hx3 (by repeat (first | with_reducible assumption | with_reducible exact Ext.refl _ | with_reducible apply Ext.alloc | with_reducible apply Ext.drew | with_reducible apply Ext.drewN))) hon4 (High.mono hh3 (by first | exact Nat.le_refl _ | omega | (simp; done) | (simp; omega))); obtain ⟨q0, q1, q2⟩ := hcells _ hx4)
          | (go_simp; go_at_call 85; refine (hChallenge_any p q g s A4 _ c4 (l ++ [(j : Int)]) _ HG.out (RdI.ext hO4.rd (by repeat (first | with_reducible assumption | with_reducible exact Ext.refl _ | with_reducible apply Ext.alloc | with_reducible apply Ext.drew | with_reducible apply Ext.drewN))) (by simp; have := HL.out; omega) (by omega) (by omega) HAJ.out).mono ?_; rintro en w5 ⟨he, hb5⟩; rw [HEV.out] at he; subst he; have hx5 := Ext.trans (w := wr) (Ext.trans hx4 (by repeat (first | with_reducible assumption | with_reducible exact Ext.refl _ | with_reducible apply Ext.alloc | with_reducible apply Ext.drew | with_reducible apply Ext.drewN))) hb5)
          | (refine step_app1L intSl (by rfl) _ _ (by rfl) (hX.ext (Ext.trans hx5 (by repeat (first | with_reducible assumption | with_reducible exact Ext.refl _ | with_reducible apply Ext.alloc | with_reducible apply Ext.drew | with_reducible apply Ext.drewN)))) (by rfl) _ (by rfl) (by exact cell_new (w := w5) rfl (by repeat (first | with_reducible assumption | with_reducible exact Ext.refl _ | with_reducible apply Ext.alloc | with_reducible apply Ext.drew | with_reducible apply Ext.drewN))) (by omega) (Nat.le_trans hz2 (Ext.size (Ext.trans hx5 (by repeat (first | with_reducible assumption | with_reducible exact Ext.refl _ | with_reducible apply Ext.alloc | with_reducible apply Ext.drew | with_reducible apply Ext.drewN))))) ?_; intro X6 c6 w6 hX6 hon6 hli6; have E6 := Ext.only (w := Wb) (E2.trans (Ext.trans hx5 (by repeat (first | with_reducible assumption | with_reducible exact Ext.refl _ | with_reducible apply Ext.alloc | with_reducible apply Ext.drew | with_reducible apply Ext.drewN)))) hon6 hXh)
          | fail)
      all_goals
        go_wp2
        go_roundw
        case rel => exact ⟨j + 1, X6, c6, by omega, by go_num, rfl, by rw [HSU.out, HEV.out]; simpa using hX6, E6⟩
        case measure => simp [intOf]; omega
    · obtain rfl : N = j := by omega
      go_wp2
      go_ret
      exact ⟨X, N, a, rfl, hX.rd, by simp [chsL_length], by omega, E.trans E2⟩
end Go.Proofs.YtnhdohjlbchniaaGreat

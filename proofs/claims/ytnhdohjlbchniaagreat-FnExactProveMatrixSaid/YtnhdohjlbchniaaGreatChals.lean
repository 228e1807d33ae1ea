/- Contracts for lists of challenges: the program's and the reference's. (Printed by tools/gen_chal.py.) -/
import Derived.Test.YtnhdohjlbchniaaGreatProg
import Derived.Test.YtnhdohjlbchniaaGreatChal
namespace Go.Proofs.YtnhdohjlbchniaaGreat
open Go.RowKit

/-- A list of challenges as an answer. -/
def ChsPost (K : Bool) (L : List Int) (w : World) (e : Ending) (w' : World) : Prop := ∃ B m d, e = .returned (.tuple #[.slice B m d, .bool K]) ∧ RdI w' B (if K then L else []) ∧ (if K then L else []).length = m ∧ m ≤ 1000 ∧ Ext w w'
set_option maxRecDepth 100000 in
set_option maxHeartbeats 8000000 in
theorem challenges_any (p q g : Int) (s : ByteArray) (A : Option Addr) (n c : Nat) (l : List Int) (N : Nat) (w : World) (h : grpB p q g = true) (ha : RdI w A l) (hl : l.length = n) (hn : n ≤ 800000) (hs : s.size ≤ 1000000) (hN : N ≤ 100) :
    Calls Tryz.prog 63 #[.agg #[.int .i64 p, .int .i64 q, .int .i64 g], .string s, .slice A n c, .int .i64 N] w fun e w' => ChsPost (chN 4 s l) (chsL p q g s l N) w e w' := by
  have HG := Lib.hid h
  have HKI : Hid (∀ i : Nat, i ≤ 1000 → chK p q g s (l ++ [(i : Int)]) = chN 4 s l) := fun i hi => chK_i h s l (by omega)
  have E := ((Ext.refl w).alloc (.cells #[.int .i64 p, .int .i64 q, .int .i64 g] 33))
  have B0 := (Blk.new w 33 #[.int .i64 p, .int .i64 q, .int .i64 g])
  have HWS : Hid ((w.alloc (.cells #[.int .i64 p, .int .i64 q, .int .i64 g] 33)).heap.size = w.heap.size + 1) := by show _ = _; simp
  have CC1 := (B0.alloc (.cells #[] 3)).cells
  obtain ⟨K, hK⟩ : ∃ K, chN 4 s l = K := ⟨_, rfl⟩
  have HK := Lib.hid hK
  rw [hK]
  have HL := Lib.hid hl
  obtain ⟨M, hM, hM1, hM2, hM3⟩ : ∃ M : Nat, (if (N : Int) < 1 then (1 : Int) else (N : Int)) = (M : Int) ∧ 1 ≤ M ∧ N ≤ M ∧ M ≤ 100 := by
    by_cases hz : N = 0
    · exact ⟨1, by rw [if_pos (by omega)]; rfl, by omega, by omega, by omega⟩
    · exact ⟨N, by rw [if_neg (by omega)], by omega, by omega, by omega⟩
  have hmx : max (N : Int) 1 = (M : Int) := by omega
  clear h hK hl
  go_enter Tryz.func63, Tryz.ntmps63
  go_wp2
  generalize (w.alloc (.cells #[.int .i64 p, .int .i64 q, .int .i64 g] 33)) = Wb at *
  have hX0 : OwnI (Wb.alloc (.cells #[] 3)) Wb.heap.size 3 (some ⟨w.heap.size + 1, 0, none⟩) 0 0 [] := ownI_lit (n := 0) (w := Wb) [] rfl HWS.out.symm (Nat.le_refl _) (Nat.zero_le _)
  have E00 := (Ext.refl Wb).alloc (.cells #[] 3)
  have hwz := E.size
  clear CC1
  go_loopw [10, 17] (fun u k wr => ∃ (j : Nat) (X : Option Addr) (a : Nat), j ≤ M ∧ k = .int .i64 j ∧ u = .slice X j a ∧ OwnI wr Wb.heap.size 3 X j a (chsL p q g s l j) ∧ (K = true ∨ j = 0) ∧ Ext Wb wr) (fun _ k _ => M - (intOf k).toNat)
  case atStart => exact ⟨0, _, _, Nat.zero_le _, rfl, rfl, hX0, .inr rfl, E00⟩
  case round =>
    obtain ⟨j, X, a, hj, rfl, rfl, hX, hKj, E2⟩ := hrel
    clear hX0 E00
    by_cases hlt : j < M
    · have HKJ : Hid (chK p q g s (l ++ [(j : Int)]) = K) := by show _ = _; rw [HKI.out j (by omega), HK.out]
      have HSU := Lib.hid (chsL_succ p q g s l j)
      have hcells : ∀ V, Ext wr V → V.cell? ⟨w.heap.size, 0, none⟩ = some (.int .i64 p) ∧ V.cell? ⟨w.heap.size, 1, none⟩ = some (.int .i64 q) ∧ V.cell? ⟨w.heap.size, 2, none⟩ = some (.int .i64 g) := fun V hV => by
        have a0 := (B0.ext (E2.trans hV)).cells
        exact ⟨a0 0, a0 1, a0 2⟩
      obtain ⟨k0, k1, k2⟩ := hcells _ (Ext.refl wr)
      obtain ⟨j0, j1, j2⟩ := hcells _ ((Ext.refl wr).drew)
      obtain ⟨i0, i1, i2⟩ := hcells _ ((Ext.refl wr).alloc (.cells #[.int .i64 (j : Int)] 3))
      go_wp2
      cases K
      · go_region_law (first
          | (go_simp; go_at_call 97; refine (Clone_any A n c l _ (RdI.ext ha (Ext.trans E (Ext.trans E2 (by repeat (first | with_reducible assumption | with_reducible exact Ext.refl _ | with_reducible apply Ext.alloc | with_reducible apply Ext.drew | with_reducible apply Ext.drewN))))) HL.out (by omega)).mono ?_; rintro en w3 ⟨A3, c3, rfl, o3, hb3⟩; have hx3 := Ext.trans (w := wr) (by repeat (first | with_reducible assumption | with_reducible exact Ext.refl _ | with_reducible apply Ext.alloc | with_reducible apply Ext.drew | with_reducible apply Ext.drewN)) hb3; obtain ⟨r0, r1, r2⟩ := hcells _ hx3; obtain ⟨s0, s1, s2⟩ := hcells _ (hx3.alloc (.cells #[.int .i64 (j : Int)] 3)); have hz3 := hx3.size; have hz33 := hb3.size; have hh3 := o3.high)
          | (refine step_app1L intSl (by rfl) _ _ (by rfl) (o3.ext (by repeat (first | with_reducible assumption | with_reducible exact Ext.refl _ | with_reducible apply Ext.alloc | with_reducible apply Ext.drew | with_reducible apply Ext.drewN))) (by rfl) _ (by rfl) (by first | exact cell_new (w := w3) rfl (by repeat (first | with_reducible assumption | with_reducible exact Ext.refl _ | with_reducible apply Ext.alloc | with_reducible apply Ext.drew | with_reducible apply Ext.drewN)) | exact cell_new (w := wr) rfl (Ext.trans (Ext.trans (by repeat (first | with_reducible assumption | with_reducible exact Ext.refl _ | with_reducible apply Ext.alloc | with_reducible apply Ext.drew | with_reducible apply Ext.drewN)) hb3) (by repeat (first | with_reducible assumption | with_reducible exact Ext.refl _ | with_reducible apply Ext.alloc | with_reducible apply Ext.drew | with_reducible apply Ext.drewN)))) (by omega) (by first | exact Nat.le_refl _ | omega | (simp; done) | (simp; omega)) ?_; intro A4 c4 w4 hO4 hon4 hli4; have hx4 := Ext.only (w := wr) (Ext.trans hx3 (by repeat (first | with_reducible assumption | with_reducible exact Ext.refl _ | with_reducible apply Ext.alloc | with_reducible apply Ext.drew | with_reducible apply Ext.drewN))) hon4 (High.mono hh3 (by first | exact Nat.le_refl _ | omega | (simp; done) | (simp; omega))); obtain ⟨q0, q1, q2⟩ := hcells _ hx4)
          | (go_simp; go_at_call 71; refine (challenge_any p q g s A4 _ c4 (l ++ [(j : Int)]) _ HG.out (RdI.ext hO4.rd (by repeat (first | with_reducible assumption | with_reducible exact Ext.refl _ | with_reducible apply Ext.alloc | with_reducible apply Ext.drew | with_reducible apply Ext.drewN))) (by simp; have := HL.out; omega) (by omega) hs).mono ?_; rintro en w5 ⟨he, hb5⟩; rw [HKJ.out] at he; subst he; have hx5 := Ext.trans (w := wr) (Ext.trans hx4 (by repeat (first | with_reducible assumption | with_reducible exact Ext.refl _ | with_reducible apply Ext.alloc | with_reducible apply Ext.drew | with_reducible apply Ext.drewN))) hb5)
          | fail)
        all_goals
          go_wp2
          go_ret2
          exact ⟨none, 0, 0, rfl, RdI.nil _ _, rfl, by omega, E.trans (E2.trans hx5)⟩
      · go_region_law (first
          | (go_simp; go_at_call 97; refine (Clone_any A n c l _ (RdI.ext ha (Ext.trans E (Ext.trans E2 (by repeat (first | with_reducible assumption | with_reducible exact Ext.refl _ | with_reducible apply Ext.alloc | with_reducible apply Ext.drew | with_reducible apply Ext.drewN))))) HL.out (by omega)).mono ?_; rintro en w3 ⟨A3, c3, rfl, o3, hb3⟩; have hx3 := Ext.trans (w := wr) (by repeat (first | with_reducible assumption | with_reducible exact Ext.refl _ | with_reducible apply Ext.alloc | with_reducible apply Ext.drew | with_reducible apply Ext.drewN)) hb3; obtain ⟨r0, r1, r2⟩ := hcells _ hx3; obtain ⟨s0, s1, s2⟩ := hcells _ (hx3.alloc (.cells #[.int .i64 (j : Int)] 3)); have hz3 := hx3.size; have hz33 := hb3.size; have hh3 := o3.high)
          | (refine step_app1L intSl (by rfl) _ _ (by rfl) (o3.ext (by repeat (first | with_reducible assumption | with_reducible exact Ext.refl _ | with_reducible apply Ext.alloc | with_reducible apply Ext.drew | with_reducible apply Ext.drewN))) (by rfl) _ (by rfl) (by first | exact cell_new (w := w3) rfl (by repeat (first | with_reducible assumption | with_reducible exact Ext.refl _ | with_reducible apply Ext.alloc | with_reducible apply Ext.drew | with_reducible apply Ext.drewN)) | exact cell_new (w := wr) rfl (Ext.trans (Ext.trans (by repeat (first | with_reducible assumption | with_reducible exact Ext.refl _ | with_reducible apply Ext.alloc | with_reducible apply Ext.drew | with_reducible apply Ext.drewN)) hb3) (by repeat (first | with_reducible assumption | with_reducible exact Ext.refl _ | with_reducible apply Ext.alloc | with_reducible apply Ext.drew | with_reducible apply Ext.drewN)))) (by omega) (by first | exact Nat.le_refl _ | omega | (simp; done) | (simp; omega)) ?_; intro A4 c4 w4 hO4 hon4 hli4; have hx4 := Ext.only (w := wr) (Ext.trans hx3 (by repeat (first | with_reducible assumption | with_reducible exact Ext.refl _ | with_reducible apply Ext.alloc | with_reducible apply Ext.drew | with_reducible apply Ext.drewN))) hon4 (High.mono hh3 (by first | exact Nat.le_refl _ | omega | (simp; done) | (simp; omega))); obtain ⟨q0, q1, q2⟩ := hcells _ hx4)
          | (go_simp; go_at_call 71; refine (challenge_any p q g s A4 _ c4 (l ++ [(j : Int)]) _ HG.out (RdI.ext hO4.rd (by repeat (first | with_reducible assumption | with_reducible exact Ext.refl _ | with_reducible apply Ext.alloc | with_reducible apply Ext.drew | with_reducible apply Ext.drewN))) (by simp; have := HL.out; omega) (by omega) hs).mono ?_; rintro en w5 ⟨he, hb5⟩; rw [HKJ.out] at he; subst he; have hx5 := Ext.trans (w := wr) (Ext.trans hx4 (by repeat (first | with_reducible assumption | with_reducible exact Ext.refl _ | with_reducible apply Ext.alloc | with_reducible apply Ext.drew | with_reducible apply Ext.drewN))) hb5)
          | fail)
        all_goals
          have hX5 := hX.ext hx5
          have E5 := E2.trans hx5
          have hsz := E5.size
          go_wp2_with (at_builtin; refine wpList_app1F intSl rfl _ _ rfl hX5 rfl rfl rfl (by omega) hsz ?_; intro X2 x2 w6 hX2 hon6 hli6)
          have E6 := E5.only hon6 hX5.high
          go_roundw
          case rel => exact ⟨j + 1, X2, x2, by omega, by go_num, rfl, by rw [HSU.out]; simpa using hX2, (by first | exact .inl rfl | exact .inl trivial | simp), E6⟩
          case measure => simp [intOf]; omega

    · obtain rfl : M = j := by omega
      have hKt : K = true := by exact hKj.elim id (fun h => by omega)
      subst hKt
      have hcap := hX.cap
      have htk : (chsL p q g s l M).take N = chsL p q g s l N := by
        apply List.ext_getElem
        · simp [chsL_length]; omega
        · intro i h1 h2
          rw [List.getElem_take, chsL_at, chsL_at]
      have hrt := hX.rd.take N
      rw [htk] at hrt
      have hNa : N ≤ a := by omega
      have hXcm := hcap.2
      unfold maxLen at hXcm
      clear htk hcap hmx hM hM1 hM3
      go_wp2
      go_ret2
      exact ⟨X, N, a, rfl, by simpa using hrt, by simp [chsL_length], by omega, E.trans E2⟩
end Go.Proofs.YtnhdohjlbchniaaGreat

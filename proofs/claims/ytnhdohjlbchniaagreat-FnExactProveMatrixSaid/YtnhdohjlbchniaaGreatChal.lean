/- Contracts for challenges: the program's and the reference's. (Printed by tools/gen_chal.py.) -/
import Derived.Test.YtnhdohjlbchniaaGreatProg
import Derived.Test.YtnhdohjlbchniaaGreatDer2
import Derived.Test.YtnhdohjlbchniaaGreatLies
import Derived.Deep.RegionLaw
namespace Go.Proofs.YtnhdohjlbchniaaGreat
open Go.RowKit

/-- Whether a list can be hashed for a challenge; the challenge. -/
def chK (p q g : Int) (s : ByteArray) (l : List Int) : Bool := hlOk s ([p, q, g] ++ l)
noncomputable def chV (p q g : Int) (s : ByteArray) (l : List Int) : Int := hInt (labL s ([p, q, g] ++ l)) % q
/-- The same for a list and one more number. -/
def chN (k : Nat) (s : ByteArray) (l : List Int) : Bool := decide (s.size ≤ 40) && (decide (s.size + 1 + (l.length + k) ≤ 400) && allR l 0 4611686018427387903)
theorem grp_dig {p q g : Int} (h : grpB p q g = true) : allR [p, q, g] 0 4611686018427387903 = true := by
  have hG := grpB_in h
  have h1 := hG.q2
  have h2 := hG.p9
  have h3 := hG.qp
  have h4 := hG.g2
  have h5 := hG.gp
  rw [allR_iff]
  intro x hx
  simp only [List.mem_cons, List.not_mem_nil, or_false] at hx
  rcases hx with rfl | rfl | rfl <;> omega
theorem allR_app (a b : List Int) (lo hi : Int) : allR (a ++ b) lo hi = (allR a lo hi && allR b lo hi) := by
  rw [Bool.eq_iff_iff, Bool.and_eq_true, allR_iff, allR_iff, allR_iff]
  constructor
  · intro h
    exact ⟨fun x hx => h x (List.mem_append_left _ hx), fun x hx => h x (List.mem_append_right _ hx)⟩
  · rintro ⟨h1, h2⟩ x hx
    rcases List.mem_append.1 hx with hx | hx
    · exact h1 x hx
    · exact h2 x hx
theorem chK_eq {p q g : Int} (h : grpB p q g = true) (s : ByteArray) (l : List Int) : chK p q g s l = chN 3 s l := by
  unfold chK hlOk chN
  rw [allR_app, grp_dig h, Bool.true_and]
  congr 2
  all_goals
    simp only [List.length_append, List.length_cons, List.length_nil, decide_eq_decide]
    try omega
theorem chK_i {p q g : Int} (h : grpB p q g = true) (s : ByteArray) (l : List Int) {i : Int} (hi : 0 ≤ i ∧ i ≤ 4611686018427387903) : chK p q g s (l ++ [i]) = chN 4 s l := by
  rw [chK_eq h]
  unfold chN
  have h1 : allR [i] 0 4611686018427387903 = true := by
    rw [allR_iff]; intro x hx; rw [List.mem_singleton.1 hx]; omega
  rw [allR_app, h1, Bool.and_true]
  congr 2
  all_goals
    simp only [List.length_append, List.length_cons, List.length_nil]
    try omega
theorem chV_rg {p q g : Int} (h : grpB p q g = true) (s : ByteArray) (l : List Int) : 0 ≤ chV p q g s l ∧ chV p q g s l < q := by
  have hG := grpB_in h
  have h1 := hG.q2
  exact ⟨Int.emod_nonneg _ (by omega), Int.emod_lt_of_pos _ (by omega)⟩
noncomputable def chsL (p q g : Int) (s : ByteArray) (l : List Int) (n : Nat) : List Int := (List.range n).map fun i : Nat => chV p q g s (l ++ [(i : Int)])
theorem chsL_length (p q g : Int) (s : ByteArray) (l : List Int) (n : Nat) : (chsL p q g s l n).length = n := by simp [chsL]
theorem chsL_succ (p q g : Int) (s : ByteArray) (l : List Int) (n : Nat) : chsL p q g s l (n + 1) = chsL p q g s l n ++ [chV p q g s (l ++ [(n : Int)])] := by simp [chsL, List.range_succ]
theorem chsL_at {p q g : Int} {s : ByteArray} {l : List Int} {n k : Nat} (hk : k < (chsL p q g s l n).length) : (chsL p q g s l n)[k] = chV p q g s (l ++ [(k : Int)]) := by simp [chsL]
set_option maxRecDepth 100000 in
set_option maxHeartbeats 4000000 in
theorem challenge_any (p q g : Int) (s : ByteArray) (A : Option Addr) (n c : Nat) (l : List Int) (w : World) (h : grpB p q g = true) (ha : RdI w A l) (hl : l.length = n) (hn : n ≤ 900000) (hs : s.size ≤ 1000000) :
    Calls Tryz.prog 71 #[.agg #[.int .i64 p, .int .i64 q, .int .i64 g], .string s, .slice A n c] w fun e w' => e = .returned (.tuple #[.int .i64 (if chK p q g s l then chV p q g s l else 0), .bool (chK p q g s l)]) ∧ Ext w w' := by
  have hG := grpB_in h
  have hq2 := hG.q2
  have hq0 : (q == 0) = false := by simp; omega
  have E := ((Ext.refl w).alloc (.cells #[.int .i64 p, .int .i64 q, .int .i64 g] 33))
  have B0 := (Blk.new w 33 #[.int .i64 p, .int .i64 q, .int .i64 g])
  have hal := Ext.alloc (Ext.refl (w.alloc (.cells #[.int .i64 p, .int .i64 q, .int .i64 g] 33))) (.cells #[.int .i64 p, .int .i64 q, .int .i64 g] 3)
  have CC0 := B0.cells
  have hO0 : OwnI ((w.alloc (.cells #[.int .i64 p, .int .i64 q, .int .i64 g] 33)).alloc (.cells #[.int .i64 p, .int .i64 q, .int .i64 g] 3)) (w.heap.size + 1) 3 (some ⟨w.heap.size + 1, 0, none⟩) 3 3 [p, q, g] := ownI_lit (n := 3) [p, q, g] rfl (by simp) (by simp) (by unfold maxLen; omega)
  have E2 := E.trans hal
  have hz2 : w.heap.size + 1 ≤ ((w.alloc (.cells #[.int .i64 p, .int .i64 q, .int .i64 g] 33)).alloc (.cells #[.int .i64 p, .int .i64 q, .int .i64 g] 3)).heap.size := by simp
  have B2 := B0.ext hal
  have hr2 := ha.ext E2
  obtain ⟨d, hd, hd0, hd1⟩ : ∃ d : Int, hInt (labL s ([p, q, g] ++ l)) = d ∧ 0 ≤ d ∧ d ≤ 4611686018427387903 := ⟨_, rfl, (hInt_bd _).1, (hInt_bd _).2⟩
  have hcv : chV p q g s l = d % q := by unfold chV; rw [hd]
  have f1 := Int.emod_nonneg d (show q ≠ 0 by omega)
  have f2 := Int.emod_lt_of_pos d (show 0 < q by omega)
  have HG := Lib.hid h
  cases hk : chK p q g s l
  · have hk2 : hlOk s ([p, q, g] ++ l) = false := hk
    have hv : hlVal s ([p, q, g] ++ l) = 0 := by unfold hlVal; rw [hk2]; rfl
    have HK := Lib.hid hk2
    have HV := Lib.hid hv
    clear hk hk2 hv hcv hd h hG
    go_enter Tryz.func71, Tryz.ntmps71
    go_wp2_with (at_builtin; refine wpList_appL intSl rfl _ _ rfl hO0 rfl hr2 hl rfl (by omega) hz2 ?_; intro A2 d2 w2 hO2 hb2)
    have hE3 : Ext w w2 := E2.then hb2 (by first | exact Nat.le_refl _ | omega | (simp; done) | (simp; omega))
    refine (iHashLabelled_any s A2 _ d2 ([p, q, g] ++ l) _ hO2.rd (by simp; omega) (by omega) (by omega)).mono ?_
    rintro e w3 ⟨he, hb3⟩
    rw [HK.out, HV.out] at he; subst he
    go_wp2
    go_ret2
    exact ⟨rfl, hE3.trans hb3⟩
  · have hk2 : hlOk s ([p, q, g] ++ l) = true := hk
    have hv : hlVal s ([p, q, g] ++ l) = d := by unfold hlVal; rw [hk2, if_pos rfl, hd]
    have HK := Lib.hid hk2
    have HV := Lib.hid hv
    have HCV := Lib.hid hcv
    clear hk hk2 hv hcv hd h hG
    go_enter Tryz.func71, Tryz.ntmps71
    go_wp2_with (at_builtin; refine wpList_appL intSl rfl _ _ rfl hO0 rfl hr2 hl rfl (by omega) hz2 ?_; intro A2 d2 w2 hO2 hb2)
    have hE3 : Ext w w2 := E2.then hb2 (by first | exact Nat.le_refl _ | omega | (simp; done) | (simp; omega))
    have B3 := B2.below hb2 (by first | exact Nat.le_refl _ | omega | (simp; done) | (simp; omega))
    refine (iHashLabelled_any s A2 _ d2 ([p, q, g] ++ l) _ hO2.rd (by simp; omega) (by omega) (by omega)).mono ?_
    rintro e w3 ⟨he, hb3⟩
    rw [HK.out, HV.out] at he; subst he
    have CC3 := (B3.ext hb3).cells
    go_wp2
    go_ret2
    exact ⟨by rw [HCV.out]; rfl, hE3.trans hb3⟩
set_option maxRecDepth 100000 in
set_option maxHeartbeats 4000000 in
theorem hChallenge_any (p q g : Int) (s : ByteArray) (A : Option Addr) (n c : Nat) (l : List Int) (w : World) (h : grpB p q g = true) (ha : RdI w A l) (hl : l.length = n) (hn : n ≤ 90000) (hs : s.size ≤ 1000) (hr : allR l 0 4611686018427387903 = true) :
    Calls Tryz.prog 85 #[.agg #[.int .i64 p, .int .i64 q, .int .i64 g], .string s, .slice A n c] w fun e w' => e = .returned (.int .i64 (chV p q g s l)) ∧ Ext w w' := by
  have hG := grpB_in h
  have hq2 := hG.q2
  have hq0 : (q == 0) = false := by simp; omega
  have hq9 : ¬ q = 0 := by omega
  have E := ((Ext.refl w).alloc (.cells #[.int .i64 p, .int .i64 q, .int .i64 g] 33))
  have B0 := (Blk.new w 33 #[.int .i64 p, .int .i64 q, .int .i64 g])
  obtain ⟨d, hd, hd0, hd1⟩ : ∃ d : Int, hInt (labL s ([p, q, g] ++ l)) = d ∧ 0 ≤ d ∧ d ≤ 4611686018427387903 := ⟨_, rfl, (hInt_bd _).1, (hInt_bd _).2⟩
  have hcv : chV p q g s l = d % q := by unfold chV; rw [hd]
  have f1 := Int.emod_nonneg d (show q ≠ 0 by omega)
  have f2 := Int.emod_lt_of_pos d (show 0 < q by omega)
  have htm : d.tmod q = d % q := Int.tmod_eq_emod_of_nonneg (by omega)
  have hall : allR ([p, q, g] ++ l) 0 4611686018427387903 = true := by rw [allR_app, grp_dig h, hr]; rfl
  have HG := Lib.hid h
  have HA := Lib.hid hall
  have HD := Lib.hid hd
  have HCV := Lib.hid hcv
  have HL := Lib.hid hl
  clear h hG hall hd hcv hr hl
  go_enter Tryz.func85, Tryz.ntmps85
  go_wp2
  have hWz : (w.alloc (.cells #[.int .i64 p, .int .i64 q, .int .i64 g] 33)).heap.size = w.heap.size + 1 := by simp
  generalize (w.alloc (.cells #[.int .i64 p, .int .i64 q, .int .i64 g] 33)) = Wb at *
  have hcells : ∀ V, Ext Wb V → V.cell? ⟨w.heap.size, 0, none⟩ = some (.int .i64 p) ∧ V.cell? ⟨w.heap.size, 1, none⟩ = some (.int .i64 q) ∧ V.cell? ⟨w.heap.size, 2, none⟩ = some (.int .i64 g) := fun V hV => by
    have a0 := (B0.ext hV).cells
    exact ⟨a0 0, a0 1, a0 2⟩
  obtain ⟨k0, k1, k2⟩ := hcells _ (Ext.refl Wb)
  obtain ⟨j0, j1, j2⟩ := hcells _ ((Ext.refl Wb).drew)
  obtain ⟨i0, i1, i2⟩ := hcells _ ((Ext.refl Wb).alloc (.cells #[.int .i64 p, .int .i64 q, .int .i64 g] 3))
  have hlit : OwnI (Wb.alloc (.cells #[.int .i64 p, .int .i64 q, .int .i64 g] 3)) Wb.heap.size 3 (some ⟨Wb.heap.size, 0, none⟩) 3 3 [p, q, g] := ownI_lit (n := 3) (w := Wb) [p, q, g] rfl rfl (Nat.le_refl _) (by unfold maxLen; omega)
  have hal := (Ext.refl Wb).alloc (.cells #[.int .i64 p, .int .i64 q, .int .i64 g] 3)
  clear hWz
  go_region_law (first
      | (refine step_appL intSl (by rfl) _ _ (by rfl) (base := Wb.heap.size) (hlit.ext (by repeat (first | with_reducible assumption | with_reducible exact Ext.refl _ | with_reducible apply Ext.alloc | with_reducible apply Ext.drew | with_reducible apply Ext.drewN))) (by rfl) (B := A) (m := n) (c' := c) (ys := l) (RdI.ext ha (Ext.trans E (Ext.trans hal (by repeat (first | with_reducible assumption | with_reducible exact Ext.refl _ | with_reducible apply Ext.alloc | with_reducible apply Ext.drew | with_reducible apply Ext.drewN))))) HL.out (by rfl) (by omega) (by first | exact Nat.le_refl _ | omega | (simp; done) | (simp; omega)) ?_; intro A4 c4 w4 hO4 hB4; have hx4 := Ext.then (w := Wb) (Ext.trans hal (by repeat (first | with_reducible assumption | with_reducible exact Ext.refl _ | with_reducible apply Ext.alloc | with_reducible apply Ext.drew | with_reducible apply Ext.drewN))) hB4 (by first | exact Nat.le_refl _ | omega | (simp; done) | (simp; omega)); obtain ⟨q0, q1, q2⟩ := hcells _ hx4)
      | (go_simp; go_at_call 101; refine (hLabelled_any s A4 _ c4 ([p, q, g] ++ l) _ (by omega) (RdI.ext hO4.rd (by repeat (first | with_reducible assumption | with_reducible exact Ext.refl _ | with_reducible apply Ext.alloc | with_reducible apply Ext.drew | with_reducible apply Ext.drewN))) (by simp; have := HL.out; omega) (by omega) HA.out).mono ?_; rintro en w5 ⟨he, hb5⟩; rw [HD.out] at he; subst he; have hx5 := Ext.trans (w := Wb) (Ext.trans hx4 (by repeat (first | with_reducible assumption | with_reducible exact Ext.refl _ | with_reducible apply Ext.alloc | with_reducible apply Ext.drew | with_reducible apply Ext.drewN))) hb5; obtain ⟨p0, p1, p2⟩ := hcells _ hx5)
      | fail)
  all_goals
    go_wp2
    go_ret
    exact ⟨ret_int HCV.out.symm, E.trans hx5⟩
end Go.Proofs.YtnhdohjlbchniaaGreat

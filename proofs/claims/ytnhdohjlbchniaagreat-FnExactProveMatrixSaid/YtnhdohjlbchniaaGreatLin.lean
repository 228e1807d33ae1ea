/- Plain: products of powers, images of rows, proofs of linear statements. No program in sight. Contracts for products of powers and images of rows; slices.Grow of nil, slices.Concat. (Printed by tools/gen_lin.py.) -/
import Derived.Test.YtnhdohjlbchniaaGreatProg
import Derived.Test.YtnhdohjlbchniaaGreatEncP
import Derived.Test.YtnhdohjlbchniaaGreatChal
import Derived.Test.YtnhdohjlbchniaaGreatLies
import Derived.Test.YtnhdohjlbchniaaGreatMem
import Derived.Test.YtnhdohjlbchniaaGreatSlK
import Derived.Test.YtnhdohjlbchniaaGreatRes
import Derived.Shelf.Spec.SlicesGrow
namespace Go.Proofs.YtnhdohjlbchniaaGreat
section
open Go.RowKit

/-- The product of the first k powers. -/
def prodV (p q : Int) (l e : List Int) : Nat → Int
  | 0 => 1
  | k + 1 => prodV p q l e k * gpw p q (l.getD k 0) (e.getD k 0) % p
theorem prodV_succ (p q : Int) {l e : List Int} {k : Nat} (h1 : k < l.length) (h2 : k < e.length) : prodV p q l e (k + 1) = prodV p q l e k * gpw p q l[k] e[k] % p := by
  simp [prodV, List.getD, h1, h2]
theorem prodV_rg {p q : Int} (hp : 2 ≤ p) (l e : List Int) : ∀ k, 0 ≤ prodV p q l e k ∧ prodV p q l e k < p
  | 0 => ⟨by simp [prodV], by simp [prodV]; omega⟩
  | k + 1 => ⟨Int.emod_nonneg _ (by omega), Int.emod_lt_of_pos _ (by omega)⟩
theorem prodV_rg1 {p : Int} (q : Int) (hp : 1 ≤ p) (l e : List Int) : ∀ k, 0 ≤ prodV p q l e k ∧ prodV p q l e k ≤ p
  | 0 => ⟨by simp [prodV], by simp [prodV]; omega⟩
  | k + 1 => ⟨Int.emod_nonneg _ (by omega), Int.le_of_lt (Int.emod_lt_of_pos _ (by omega))⟩
/-- gmul of two, and of one, from a residue. -/
theorem gmul2_eq (p x y : Int) : gmul p [x, y] = x * y % p := by
  simp only [gmul, List.foldl_cons, List.foldl_nil, Int.one_mul]
  rw [Int.mul_emod, Int.emod_emod_of_dvd _ (Int.dvd_refl p), ← Int.mul_emod]
def imgL (p q : Int) (rows : List (List Int)) (e : List Int) : List Int := rows.map fun r => prodV p q r e r.length
theorem imgL_length (p q : Int) (rows : List (List Int)) (e : List Int) : (imgL p q rows e).length = rows.length := by simp [imgL]
theorem imgL_rg {p q : Int} (hp : 2 ≤ p) {rows : List (List Int)} {e : List Int} : ∀ x ∈ imgL p q rows e, 0 ≤ x ∧ x < p := by
  intro x hx
  obtain ⟨r, _, rfl⟩ := List.mem_map.1 hx
  exact prodV_rg hp _ _ _
theorem imgL_take {p q : Int} {rows : List (List Int)} {e : List Int} {j : Nat} (hj : j < rows.length) : imgL p q (rows.take j) e ++ [prodV p q rows[j] e rows[j].length] = imgL p q (rows.take (j + 1)) e := by
  have e1 : ∀ rs : List (List Int), imgL p q rs e = rs.map fun r => prodV p q r e r.length := fun _ => rfl
  rw [List.take_succ_eq_append_getElem hj, e1, e1, List.map_append]; rfl
/-- The list that is hashed; the responses. -/
def stmL (rows : List (List Int)) (im cm : List Int) : List Int := rows.flatten ++ im ++ cm
def rspL (q e : Int) (coins xs : List Int) : List Int := List.zipWith (fun w x => (w + e * x) % q) coins xs
theorem rspL_take {q e : Int} {coins xs : List Int} {j : Nat} (h1 : j < coins.length) (h2 : j < xs.length) : rspL q e (coins.take j) (xs.take j) ++ [(coins[j] + e * xs[j]) % q] = rspL q e (coins.take (j + 1)) (xs.take (j + 1)) := by
  unfold rspL
  rw [List.take_succ_eq_append_getElem h1, List.take_succ_eq_append_getElem h2, List.zipWith_append (by simp; omega)]
  rfl
/-- Whether rows are the bases of a statement. -/
def rowsB (p q : Int) (rows : List (List Int)) : Bool := inR rows.length 1 8 && (inR (rows.headD []).length 1 8 && rows.all fun r => decide (r.length = (rows.headD []).length) && r.all (elB p q))
noncomputable def lpE (p q g : Int) (s : ByteArray) (rows : List (List Int)) (xs coins : List Int) : Int := chV p q g s (stmL rows (imgL p q rows xs) (imgL p q rows coins))
/-- The equation of row i. -/
def lvQ (p q : Int) (rows : List (List Int)) (im cm rs : List Int) (e : Int) (i : Nat) : Bool := prodV p q (rows.getD i []) rs (rows.getD i []).length == gmul p [cm.getD i 0, gpw p q (im.getD i 0) e]
/-- Whether a proof has the form. -/
def lvF (p q : Int) (rows : List (List Int)) (cm ch rs : List Int) : Bool :=
  decide (cm.length = rows.length) && (decide (ch.length = 1) && (decide (rs.length = (rows.headD []).length) && (cm.all (elB p q) && allR rs 0 (q - 1))))
noncomputable def lvB (p q g : Int) (s : ByteArray) (rows : List (List Int)) (im cm ch rs : List Int) : Bool :=
  lvF p q rows cm ch rs && ((ch.getD 0 0 == chV p q g s (stmL rows im cm)) && (List.range rows.length).all (lvQ p q rows im cm rs (chV p q g s (stmL rows im cm))))
theorem prodV_one {p q : Int} (hp : 1 ≤ p) (b e : Int) : prodV p q [b] [e] 1 = gpw p q b e := by
  have h := Nat.mod_lt (b.toNat ^ (e % q).toNat) (show 0 < p.toNat by omega)
  simp only [prodV, List.getD_cons_zero, Int.one_mul]
  unfold gpw powM
  exact Int.emod_eq_of_lt (by omega) (by omega)

/-- The response fits. -/
theorem kn_law {p q g b x w e : Int} (h : grpB p q g = true) (hb : elB p q b = true) (hx : 0 ≤ x) (hw : 0 ≤ w) (he : 0 ≤ e) :
    gpw p q b ((w + e * x) % q) = gmul p [gpw p q b w, gpw p q (gpw p q b x) e] := by
  have hG := grpB_in h
  obtain ⟨P, rfl⟩ := Int.eq_ofNat_of_zero_le (show 0 ≤ p by have := hG.p3; omega)
  obtain ⟨Q, rfl⟩ := Int.eq_ofNat_of_zero_le (show 0 ≤ q by have := hG.q2; omega)
  have hP : 3 ≤ P := by have := hG.p3; omega
  have hQ : 2 ≤ Q := by have := hG.q2; omega
  obtain ⟨B, rfl, hBP, hB⟩ := (el_nat (P := P) (Q := Q) (by omega) (by omega)).1 hb
  obtain ⟨X, rfl⟩ := Int.eq_ofNat_of_zero_le hx
  obtain ⟨W, rfl⟩ := Int.eq_ofNat_of_zero_le hw
  obtain ⟨E, rfl⟩ := Int.eq_ofNat_of_zero_le he
  have e1 : ((W : Int) + (E : Int) * (X : Int)) % (Q : Int) = (((W + E * X) % Q : Nat) : Int) := by push_cast; rfl
  rw [e1, gpw_nat, gpw_nat, gpw_nat, gpw_nat, gmul_two]
  congr 1
  have hP2 : 2 ≤ P := by omega
  show eqm P _ _
  rw [Nat.mod_mod]
  refine (eqm.red hP2 hB _).symm.trans ?_
  have h1 : B ^ (W + E * X) = B ^ W * (B ^ X) ^ E := by rw [Nat.pow_add, Nat.mul_comm E X, Nat.pow_mul]
  rw [h1]
  refine (eqm.mul ?_ ?_).symm
  · exact (eqm.mod P _).trans (eqm.red hP2 hB W).symm
  · refine (eqm.mod P _).trans ((eqm.red hP2 (pow_el hP2 hB _) E).symm.trans ?_)
    exact ((eqm.mod P _).trans (eqm.red hP2 hB X).symm).pow E
/-- A proof of one-column rows is accepted. -/
theorem lin_law {p q g : Int} (h : grpB p q g = true) {s : ByteArray} {bs : List Int} {x w : Int} (h1 : bs ≠ []) (hb : ∀ b ∈ bs, elB p q b = true) (hx : 0 ≤ x ∧ x ≤ q - 1) (hw : 0 ≤ w ∧ w ≤ q - 1) :
    lvB p q g s (bs.map fun b => [b]) (bs.map fun b => gpw p q b x) (imgL p q (bs.map fun b => [b]) [w]) [lpE p q g s (bs.map fun b => [b]) [x] [w]] (rspL q (lpE p q g s (bs.map fun b => [b]) [x] [w]) [w] [x]) = true := by
  have hG := grpB_in h
  have hp3 := hG.p3
  have hq2 := hG.q2
  have him : ∀ e : Int, imgL p q (bs.map fun b => [b]) [e] = bs.map fun b => gpw p q b e := fun e => by
    unfold imgL
    rw [List.map_map]
    exact List.map_congr_left fun b _ => by simp only [Function.comp, List.length_singleton]; exact prodV_one (by omega) b e
  obtain ⟨E, hE⟩ : ∃ E, lpE p q g s (bs.map fun b => [b]) [x] [w] = E := ⟨_, rfl⟩
  have hE0 : 0 ≤ E := by rw [← hE]; exact (chV_rg h _ _).1
  have hch : chV p q g s (stmL (bs.map fun b => [b]) (bs.map fun b => gpw p q b x) (imgL p q (bs.map fun b => [b]) [w])) = E := by
    rw [← hE]; unfold lpE; rw [him x]
  unfold lvB
  rw [hch, hE]
  obtain ⟨b0, bt, rfl⟩ : ∃ b0 bt, bs = b0 :: bt := by cases bs with
    | nil => exact absurd rfl h1
    | cons a l => exact ⟨a, l, rfl⟩
  have hrs : rspL q E [w] [x] = [(w + E * x) % q] := rfl
  rw [hrs, him w]
  simp only [Bool.and_eq_true]
  refine ⟨?_, by simp, ?_⟩
  · unfold lvF
    simp only [Bool.and_eq_true, decide_eq_true_eq, List.length_singleton, List.map_cons, List.headD_cons, allR_iff, List.all_eq_true]
    refine ⟨by simp, trivial, trivial, fun y hy => ?_, fun y hy => ?_⟩
    · rw [← List.map_cons (f := fun b => gpw p q b w)] at hy
      obtain ⟨b, hb', rfl⟩ := List.mem_map.1 hy
      exact elB_pw h (hb b hb')
    · rw [List.mem_singleton.1 hy]
      have := Int.emod_nonneg (w + E * x) (show q ≠ 0 by omega)
      have := Int.emod_lt_of_pos (w + E * x) (show 0 < q by omega)
      omega
  · rw [List.all_eq_true]
    intro i hi
    rw [List.mem_range, List.length_map] at hi
    unfold lvQ
    generalize hbs : b0 :: bt = bs at *
    have g1 : (bs.map fun b => [b]).getD i [] = [bs[i]] := by simp [List.getD, hi]
    have g2 : (bs.map fun b => gpw p q b w).getD i 0 = gpw p q bs[i] w := by simp [List.getD, hi]
    have g3 : (bs.map fun b => gpw p q b x).getD i 0 = gpw p q bs[i] x := by simp [List.getD, hi]
    rw [g1, g2, g3, List.length_singleton, prodV_one (by omega), beq_iff_eq]
    exact kn_law h (hb _ (List.getElem_mem hi)) hx.1 hw.1 hE0
/-- The inverse of a power. -/
theorem gpw_inv {p q g x a : Int} (h : grpB p q g = true) (hx : elB p q x = true) (ha : 0 ≤ a) : gpw p q (gpw p q x a) (-1) = gpw p q x (-a) := by
  have hG := grpB_in h
  obtain ⟨P, rfl⟩ := Int.eq_ofNat_of_zero_le (show 0 ≤ p by have := hG.p3; omega)
  obtain ⟨Q, rfl⟩ := Int.eq_ofNat_of_zero_le (show 0 ≤ q by have := hG.q2; omega)
  have hP : 3 ≤ P := by have := hG.p3; omega
  have hQ : 2 ≤ Q := by have := hG.q2; omega
  obtain ⟨X, rfl, hXP, hX⟩ := (el_nat (P := P) (Q := Q) (by omega) (by omega)).1 hx
  obtain ⟨A, rfl⟩ := Int.eq_ofNat_of_zero_le ha
  have hm := Nat.mod_lt A (show 0 < Q by omega)
  have e1 : (-(A : Int)) % (Q : Int) = (((0 + (Q - A % Q)) % Q : Nat) : Int) := by
    rw [← sub_emod (by omega)]
    have : -(A : Int) = ((0 : Nat) : Int) - ((A % Q : Nat) : Int) + (Q : Int) * (-(A / Q : Nat) : Int) := by
      have h3 := Nat.mod_add_div A Q
      have h4 : (A : Int) = ((A % Q : Nat) : Int) + (Q : Int) * ((A / Q : Nat) : Int) := by rw [← Int.natCast_mul, ← Int.natCast_add, h3]
      rw [Int.mul_neg]
      omega
    rw [this, Int.add_mul_emod_self_left]
  rw [gpw_nat, gpw_neg1 (by omega)]
  unfold gpw
  rw [e1, powM_nat]
  congr 1
  have hP2 : 2 ≤ P := by omega
  show eqm P _ _
  rw [Nat.zero_add]
  refine eqm.trans ?_ (eqm.red hP2 hX _)
  refine ((eqm.mod P _).pow _).trans ?_
  rw [← Nat.pow_mul]
  have h5 : A % Q * (Q - 1) % Q = (Q - A % Q) % Q := by
    generalize A % Q = r at *
    obtain ⟨k, rfl⟩ : ∃ k, Q = r + k := ⟨Q - r, by omega⟩
    rw [show r + k - r = k by omega]
    rcases Nat.eq_zero_or_pos r with h0 | h0
    · subst h0; simp
    · have : r * (r + k - 1) = k + (r + k) * (r - 1) := by
        obtain ⟨m, rfl⟩ : ∃ m, r = m + 1 := ⟨r - 1, by omega⟩
        simp only [Nat.add_sub_cancel]
        rw [show m + 1 + k - 1 = m + k by omega]
        simp only [Nat.add_mul, Nat.mul_add, Nat.one_mul]
        rw [Nat.mul_comm k m]
        omega
      rw [this, Nat.add_mul_mod_self_left]
  exact (eqm.red hP2 hX _).trans (by rw [h5]; exact (eqm.red hP2 hX _).symm)
end
section
open Go.RowKit

theorem GrpB.g2 {p q : Int} (h : GrpB p q) : 1 ≤ p ∧ p ≤ 2000000000 := ⟨h.1, h.2⟩
set_option maxRecDepth 100000 in
set_option maxHeartbeats 4000000 in
theorem powers_any (p q g : Int) (A D : Option Addr) (n c m d : Nat) (l e : List Int) (w : World) (h : GrpB p q) (ha : RdI w A l) (hl : l.length = n) (hb : RdI w D e) (hm : e.length = m) (hnm : n ≤ m) (hn : n ≤ 1000000) (bl : ∀ x ∈ l, 0 ≤ x ∧ x ≤ 3000000000) (be : ∀ x ∈ e, -9000000000000000000 ≤ x ∧ x ≤ 9000000000000000000) :
    Calls Tryz.prog 70 #[.agg #[.int .i64 p, .int .i64 q, .int .i64 g], .slice A n c, .slice D m d] w fun en w' => en = .returned (.int .i64 (prodV p q l e n)) ∧ Ext w w' := by
  have E := (Ext.refl w).alloc (.cells #[.int .i64 p, .int .i64 q, .int .i64 g] 33)
  have B0 := Blk.new w 33 #[.int .i64 p, .int .i64 q, .int .i64 g]
  have BL := Lib.hid bl
  have BE := Lib.hid be
  have HM := Lib.hid hm
  have hg2 := h.g2
  clear bl be hm
  subst hl
  go_enter Tryz.func70, Tryz.ntmps70
  go_wp2
  generalize w.alloc (.cells #[.int .i64 p, .int .i64 q, .int .i64 g] 33) = Wb at *
  go_loopw [7, 12] (fun o i wr => ∃ j : Nat, j ≤ l.length ∧ i = .int .i64 j ∧ o = .int .i64 (prodV p q l e j) ∧ Ext Wb wr) (fun _ i _ => l.length - (intOf i).toNat)
  case atStart => exact ⟨0, Nat.zero_le _, rfl, rfl, Ext.refl _⟩
  case round =>
    obtain ⟨j, hj, rfl, rfl, E2⟩ := hrel
    by_cases hlt : j < l.length
    · have hje : j < e.length := by have := HM.out; omega
      obtain ⟨ad, rfl, hc⟩ := (ha.ext (E.trans E2)).at_ hlt
      obtain ⟨bd, rfl, hd⟩ := (hb.ext (E.trans E2)).at_ hje
      obtain ⟨x1, x2⟩ := BL.out _ (List.getElem_mem hlt)
      obtain ⟨y1, y2⟩ := BE.out _ (List.getElem_mem hje)
      have HST := Lib.hid (prodV_succ p q hlt hje)
      have hpr := prodV_rg1 q hg2.1 l e j
      generalize l[j] = x at *
      generalize e[j] = y at *
      generalize prodV p q l e j = o at *
      have gx := gpw_rg p q x y h
      have hj0 : (0 : Int) ≤ (j : Int) := by omega
      have hjm : (j : Int) < (m : Int) := by have := HM.out; omega
      have hS : ∀ V, Ext wr V → V.cell? ⟨w.heap.size, 0, none⟩ = some (.int .i64 p) ∧ V.cell? ⟨w.heap.size, 1, none⟩ = some (.int .i64 q) ∧ V.cell? ⟨w.heap.size, 2, none⟩ = some (.int .i64 g) ∧ V.cell? (bd.add j) = some (.int .i64 y) := fun V hV => by
        have a0 := (B0.ext (E2.trans hV)).cells
        exact ⟨a0 0, a0 1, a0 2, hV.cell hd⟩
      go_wp2
      go_region_held3 (fun V => V.cell? ⟨w.heap.size, 0, none⟩ = some (.int .i64 p) ∧ V.cell? ⟨w.heap.size, 1, none⟩ = some (.int .i64 q) ∧ V.cell? ⟨w.heap.size, 2, none⟩ = some (.int .i64 g) ∧ V.cell? (bd.add j) = some (.int .i64 y)) (exact hS _ (by repeat (first | with_reducible assumption | with_reducible exact Ext.refl _ | with_reducible apply Ext.alloc | with_reducible apply Ext.drew | with_reducible apply Ext.drewN)))
        (first
          | (go_at_call 68; refine (pow_any p q g x y _ h x1 x2 y1 y2).mono ?_; rintro en w2 ⟨rfl, hb2⟩; have hx2 := Ext.trans (w := wr) (by repeat (first | with_reducible assumption | with_reducible exact Ext.refl _ | with_reducible apply Ext.alloc | with_reducible apply Ext.drew | with_reducible apply Ext.drewN)) hb2)
          | (go_at_call 69; refine (mul_any p q g _ 2 2 [o, gpw p q x y] _ h (rd_two (by simp)) rfl (by decide) (two_rg (by omega) (by omega))).mono ?_; rintro en w3 ⟨rfl, hb3⟩; have hx3 := Ext.trans (w := wr) (by repeat (first | with_reducible assumption | with_reducible exact Ext.refl _ | with_reducible apply Ext.alloc | with_reducible apply Ext.drew | with_reducible apply Ext.drewN)) hb3)
          | fail)
      go_wp2
      go_roundw
      case rel => exact ⟨j + 1, by omega, by go_num, by rw [HST.out, gmul2_eq], E2.trans hx3⟩
      case measure => simp [intOf]; omega
    · obtain rfl : j = l.length := by omega
      go_wp2
      go_ret
      exact ⟨rfl, E.trans E2⟩
set_option maxRecDepth 100000 in
set_option maxHeartbeats 4000000 in
theorem gProd_any (p q g : Int) (A D : Option Addr) (n c m d : Nat) (l e : List Int) (w : World) (h : GrpB p q) (ha : RdI w A l) (hl : l.length = n) (hb : RdI w D e) (hm : e.length = m) (hnm : n ≤ m) (hn : n ≤ 1000000) (bl : ∀ x ∈ l, 0 ≤ x ∧ x ≤ 3000000000) (be : ∀ x ∈ e, -9000000000000000000 ≤ x ∧ x ≤ 9000000000000000000) :
    Calls Tryz.prog 47 #[.agg #[.int .i64 p, .int .i64 q, .int .i64 g], .slice A n c, .slice D m d] w fun en w' => en = .returned (.int .i64 (prodV p q l e n)) ∧ Ext w w' := by
  have E := (Ext.refl w).alloc (.cells #[.int .i64 p, .int .i64 q, .int .i64 g] 33)
  have B0 := Blk.new w 33 #[.int .i64 p, .int .i64 q, .int .i64 g]
  have BL := Lib.hid bl
  have BE := Lib.hid be
  have HM := Lib.hid hm
  have hg2 := h.g2
  clear bl be hm
  subst hl
  go_enter Tryz.func47, Tryz.ntmps47
  go_wp2
  generalize w.alloc (.cells #[.int .i64 p, .int .i64 q, .int .i64 g] 33) = Wb at *
  go_loopw [7, 12] (fun o i wr => ∃ j : Nat, j ≤ l.length ∧ i = .int .i64 j ∧ o = .int .i64 (prodV p q l e j) ∧ Ext Wb wr) (fun _ i _ => l.length - (intOf i).toNat)
  case atStart => exact ⟨0, Nat.zero_le _, rfl, rfl, Ext.refl _⟩
  case round =>
    obtain ⟨j, hj, rfl, rfl, E2⟩ := hrel
    by_cases hlt : j < l.length
    · have hje : j < e.length := by have := HM.out; omega
      obtain ⟨ad, rfl, hc⟩ := (ha.ext (E.trans E2)).at_ hlt
      obtain ⟨bd, rfl, hd⟩ := (hb.ext (E.trans E2)).at_ hje
      obtain ⟨x1, x2⟩ := BL.out _ (List.getElem_mem hlt)
      obtain ⟨y1, y2⟩ := BE.out _ (List.getElem_mem hje)
      have HST := Lib.hid (prodV_succ p q hlt hje)
      have hpr := prodV_rg1 q hg2.1 l e j
      generalize l[j] = x at *
      generalize e[j] = y at *
      generalize prodV p q l e j = o at *
      have gx := gpw_rg p q x y h
      have hj0 : (0 : Int) ≤ (j : Int) := by omega
      have hjm : (j : Int) < (m : Int) := by have := HM.out; omega
      have hpz : (p == 0) = false := by simp; omega
      have hpn : ¬ p = 0 := by omega
      have hS : ∀ V, Ext wr V → V.cell? ⟨w.heap.size, 0, none⟩ = some (.int .i64 p) ∧ V.cell? ⟨w.heap.size, 1, none⟩ = some (.int .i64 q) ∧ V.cell? ⟨w.heap.size, 2, none⟩ = some (.int .i64 g) ∧ V.cell? (bd.add j) = some (.int .i64 y) := fun V hV => by
        have a0 := (B0.ext (E2.trans hV)).cells
        exact ⟨a0 0, a0 1, a0 2, hV.cell hd⟩
      have hbd := intmul_bd o (gpw p q x y) (by omega) (by omega) (by omega) (by omega)
      have hs1 : IntKind.i64.wrap (o * gpw p q x y) = o * gpw p q x y := by rw [IntKind.wrap_i64]; omega
      have hs2 : (o * gpw p q x y).tmod p = o * gpw p q x y % p := Int.tmod_eq_emod_of_nonneg (by omega)
      have hs3 : IntKind.i64.wrap (o * gpw p q x y % p) = o * gpw p q x y % p := by have h9 := emod_bd (x := o * gpw p q x y) (q := p) (by omega); rw [IntKind.wrap_i64]; omega
      go_wp2
      go_region_held3 (fun V => V.cell? ⟨w.heap.size, 0, none⟩ = some (.int .i64 p) ∧ V.cell? ⟨w.heap.size, 1, none⟩ = some (.int .i64 q) ∧ V.cell? ⟨w.heap.size, 2, none⟩ = some (.int .i64 g) ∧ V.cell? (bd.add j) = some (.int .i64 y)) (exact hS _ (by repeat (first | with_reducible assumption | with_reducible exact Ext.refl _ | with_reducible apply Ext.alloc | with_reducible apply Ext.drew | with_reducible apply Ext.drewN)))
        (first
          | (go_at_call 45; refine (gExp_any p q g x y _ h x1 x2 y1 y2).mono ?_; rintro en w2 ⟨rfl, hb2⟩; have hx2 := Ext.trans (w := wr) (by repeat (first | with_reducible assumption | with_reducible exact Ext.refl _ | with_reducible apply Ext.alloc | with_reducible apply Ext.drew | with_reducible apply Ext.drewN)) hb2)
          | fail)
      go_wp2
      go_roundw
      case rel => exact ⟨j + 1, by omega, by go_num, by rw [HST.out], E2.trans hx2⟩
      case measure => simp [intOf]; omega
    · obtain rfl : j = l.length := by omega
      go_wp2
      go_ret
      exact ⟨rfl, E.trans E2⟩
def grwRen : Go.Shelf.Ren := ⟨fun | 4 => 100 | x => x, fun | 0 => 0 | 3 => 3 | 4 => 4 | 9 => 9 | 20 => 20 | 22 => 25 | 25 => 3 | x => x, fun x => x⟩
theorem grwLays : Go.Proofs.Lays8.n4 Tryz.prog grwRen where
  mixed := by kernel_rfl
  f4 := ⟨"slices.Grow[[]int,int]", by kernel_rfl, by kernel_rfl⟩
  t0 := Tryz.underlying0
  a0 := Tryz.isAgg0
  z0 := Tryz.sizeOf0
  v0 := Tryz.zeroValue0
  t3 := Tryz.underlying3
  a3 := Tryz.isAgg3
  z3 := Tryz.sizeOf3
  v3 := Tryz.zeroValue3
  t4 := Tryz.underlying4
  a4 := Tryz.isAgg4
  z4 := Tryz.sizeOf4
  v4 := Tryz.zeroValue4
  t9 := Tryz.underlying9
  a9 := Tryz.isAgg9
  z9 := Tryz.sizeOf9
  v9 := Tryz.zeroValue9
  t20 := Tryz.underlying20
  a20 := Tryz.isAgg20
  z20 := Tryz.sizeOf20
  v20 := Tryz.zeroValue20
  t22 := Tryz.underlying25
  a22 := Tryz.isAgg25
  z22 := Tryz.sizeOf25
  v22 := Tryz.zeroValue25
/-- slices.Grow of nil. -/
theorem Grow_nil (n : Nat) (w : World) (hn : n ≤ 10000000) :
    Calls Tryz.prog 100 #[.slice none 0 0, .int .i64 n] w fun e w' => ∃ B d, e = .returned (.slice B 0 d) ∧ OwnI w' w.heap.size 3 B 0 d [] ∧ Ext w w' := by
  rcases Nat.eq_zero_or_pos n with h0 | h0
  · subst h0
    refine (Any8.slices_Grow_room grwLays none 0 0 0 w (by omega) (by omega) (by omega) (by omega)).mono ?_
    rintro e w' ⟨rfl, rfl⟩
    exact ⟨_, _, rfl, OwnI.nil _ _ _, Ext.refl _⟩
  · obtain ⟨i, h2, h3, h4, h5⟩ := intSl.hi
    refine (Any8.slices_Grow_grow grwLays i (.int .i64 0) h2 h3 (by omega) none 0 0 n [] w (by omega) (by omega) (by rw [h5]; omega) (by omega) (by simp) (fun _ => rfl) (by simp)).mono ?_
    rintro e w' ⟨rfl, rfl⟩
    have hge := grownCap_ge w (0 + n) 0 (grwRen.t 25)
    have hle := grownCap_le_maxLen w (0 + n) 0 (grwRen.t 25) (by unfold maxLen; omega)
    refine ⟨_, _, rfl, ⟨rfl, .inr ⟨w.heap.size, _, _, rfl, Nat.le_refl _, heap_alloc_new w.drew _, by omega, hle, ?_, by simp [ints]⟩⟩, (Ext.refl w).drew.alloc _⟩
    rw [Array.size_append, Array.size_append, size_zeroCells, size_zeroCells]
    show 0 + (0 + n - 0) * 1 + (_ - (0 + n)) * 1 = _ * 1
    omega
theorem tot_flat (ls : List (List Int)) : ls.flatten.length = tot ls := by simp [tot, List.length_flatten]
theorem flat_take {ls : List (List Int)} {j : Nat} (hj : j < ls.length) : (ls.take j).flatten ++ ls[j] = (ls.take (j + 1)).flatten := by
  rw [List.take_succ_eq_append_getElem hj, List.flatten_append]
  show _ = _ ++ (ls[j] ++ [])
  rw [List.append_nil]
set_option maxRecDepth 100000 in
set_option maxHeartbeats 4000000 in
theorem Concat_any (A : Option Addr) (n c : Nat) (ls : List (List Int)) (w : World) (ha : RdSS w A ls) (hl : ls.length = n) (hn : n ≤ 1000000) (ht : tot ls ≤ 1000000) :
    Calls Tryz.prog 72 #[.slice A n c] w fun e w' => ∃ B d, e = .returned (.slice B (tot ls) d) ∧ OwnI w' w.heap.size 3 B (tot ls) d ls.flatten ∧ Ext w w' := by
  subst hl
  go_enter Tryz.func72, Tryz.ntmps72
  go_wp2
  go_loopw [3, 11] (fun s i wr => ∃ j : Nat, j ≤ ls.length ∧ i = .int .i64 j ∧ s = .int .i64 ((tot (ls.take j) : Nat) : Int) ∧ wr = w) (fun _ i _ => ls.length - (intOf i).toNat)
  case atStart => exact ⟨0, Nat.zero_le _, rfl, rfl, by first | rfl | trivial⟩
  case round =>
    obtain ⟨j, hj, rfl, rfl, rfl⟩ := hrel
    by_cases hlt : j < ls.length
    · obtain ⟨ad, rfl, Y, y, yc, hcell, hry, hly, _, _⟩ := ha.at_ hlt
      have h1 := tot_at hlt
      have HT := Lib.hid (tot_take hlt)
      rw [hly] at h1
      have HLY := Lib.hid hly
      clear hly
      go_wp2
      go_roundw
      case rel => exact ⟨j + 1, by omega, by go_num, by rw [HT.out, HLY.out]; push_cast; rfl, by first | rfl | trivial⟩
      case measure => simp [intOf]; omega
    · obtain rfl : j = ls.length := by omega
      rw [List.take_length]
      go_wp2_with fail
      refine (Grow_nil (tot ls) _ (by omega)).mono ?_
      rintro e w1 ⟨B0, d0, rfl, hO, hE⟩
      have HFL := Lib.hid (tot_flat ls)
      generalize hT : tot ls = T at *
      have HTT := Lib.hid hT
      clear hT
      go_wp2
      go_loopw [6, 27] (fun s i wx => ∃ (j B : _) (m d : Nat), j ≤ ls.length ∧ i = .int .i64 (j : Nat) ∧ s = .slice B m d ∧ OwnI wx wr.heap.size 3 B m d (ls.take j).flatten ∧ m = tot (ls.take j) ∧ Ext wr wx) (fun _ i _ => ls.length - (intOf i).toNat)
      case atStart => exact ⟨0, _, _, _, Nat.zero_le _, rfl, rfl, hO, by simp [tot], hE⟩
      case round =>
        clear hO hE
        obtain ⟨j, B, m, d, hj, rfl, rfl, hO, hm, hE⟩ := hrel
        by_cases hlt : j < ls.length
        · obtain ⟨ad, rfl, Y, y, yc, hcell0, hry, hly, _, _⟩ := ha.at_ hlt
          have h1 := tot_at hlt
          have HT := Lib.hid (tot_take hlt)
          have HF := Lib.hid (flat_take hlt)
          have hcell := hE.cell hcell0
          have hry2 := hry.ext hE
          have hsz := hE.size
          rw [hly] at h1
          generalize ls[j] = row at *
          have HLY := Lib.hid hly
          have HM := Lib.hid hm
          have hmb : m ≤ 1000000 ∧ m + y ≤ 1000000 := by have := HTT.out; omega
          clear hly hcell0 hry hm h1
          go_wp2_with (at_builtin; refine wpList_appL intSl rfl _ _ rfl hO rfl hry2 HLY.out rfl (by omega) hsz ?_; intro A2 d2 w2 hO2 hb2)
          go_roundw
          case rel => exact ⟨j + 1, A2, m + y, d2, by omega, by go_num, rfl, by rw [← HF.out]; exact hO2, by rw [HT.out, HLY.out, HM.out], hE.then hb2 (Nat.le_refl _)⟩
          case measure => simp [intOf]; omega
        · obtain rfl : j = ls.length := by omega
          rw [List.take_length] at hO hm
          subst hm
          go_wp2
          go_ret
          exact ⟨_, _, rfl, hO, hE⟩
end
end Go.Proofs.YtnhdohjlbchniaaGreat

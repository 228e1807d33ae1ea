/- As many codes below 800 are decoded as there are votes, at the small contests. No program in sight. -/
import Derived.Test.YticimniegecfeaaDecP
import Derived.Test.YticimniegecfeaaCntP
namespace Go.Proofs.Yticimniegecfeaa
open Go.RowKit

/-- How many numbers below k are met. -/
def b2i (b : Bool) : Int := if b then 1 else 0
theorem b2i_true : b2i true = 1 := rfl
theorem b2i_false : b2i false = 0 := rfl
def cntK (P : Nat → Bool) : Nat → Int
  | 0 => 0
  | k + 1 => cntK P k + b2i (P k)
theorem cntK_congr {P R : Nat → Bool} : ∀ k, (∀ i, i < k → P i = R i) → cntK P k = cntK R k
  | 0, _ => rfl
  | k + 1, h => by rw [cntK, cntK, cntK_congr k fun i hi => h i (by omega), h k (by omega)]
theorem cntK_false {P : Nat → Bool} : ∀ k, (∀ i, i < k → P i = false) → cntK P k = 0
  | 0, _ => rfl
  | k + 1, h => by rw [cntK, cntK_false k fun i hi => h i (by omega), h k (by omega)]; rfl
theorem cntK_bd (P : Nat → Bool) : ∀ k, 0 ≤ cntK P k ∧ cntK P k ≤ k
  | 0 => by simp [cntK]
  | k + 1 => by have := cntK_bd P k; rw [cntK]; cases P k <;> simp only [b2i_true, b2i_false] <;> omega
/-- The numbers between c and j, one by one. -/
theorem cntK_split (P : Nat → Bool) (z : Nat → Int) (c : Nat) : ∀ (j k : Nat), cntK (fun i => P i && inR (z i) c ((j : Int) - 1)) k = sumF (fun s => cntK (fun i => P i && decide (z i = s)) k) c j
  | 0, k => by
    rw [sumF]
    refine cntK_false k fun i _ => ?_
    have : inR (z i) (c : Int) (((0 : Nat) : Int) - 1) = false := by
      rw [Bool.eq_false_iff]; intro h; have := inR_iff.1 h; omega
    rw [this, Bool.and_false]
  | j + 1, k => by
    rw [sumF, ← cntK_split P z c j k]
    induction k with
    | zero => simp [cntK]
    | succ k ih =>
      simp only [cntK]
      rw [ih]
      by_cases hc : c ≤ j
      · simp only [if_pos hc]
        have hA : inR (z k) c (((j + 1 : Nat) : Int) - 1) = (inR (z k) c ((j : Int) - 1) || decide (z k = (j : Int))) := by
          rw [Bool.eq_iff_iff, Bool.or_eq_true, inR_iff, inR_iff, decide_eq_true_iff]; omega
        have hN : ¬ (inR (z k) c ((j : Int) - 1) = true ∧ decide (z k = (j : Int)) = true) := by
          rw [inR_iff, decide_eq_true_iff]; omega
        have key : ∀ p b d : Bool, ¬ (b = true ∧ d = true) → b2i (p && (b || d)) = b2i (p && b) + b2i (p && d) := by decide
        have e := key (P k) _ _ hN
        rw [← hA] at e
        rw [e]; omega
      · simp only [if_neg hc]
        have e : (P k && inR (z k) c (((j + 1 : Nat) : Int) - 1)) = (P k && inR (z k) c ((j : Int) - 1)) := by
          congr 1
          rw [Bool.eq_iff_iff, inR_iff, inR_iff]; omega
        rw [e]; omega

/-- A vote's shape, its size aside. -/
def shpB (a b f : Int) (v : List Int) : Bool :=
  if a = 1 then risB v 0 (b - 1) else if a = 2 then decide ((v.length : Int) = b) && allR v 0 f else if a = 3 then allR v 0 (b - 1) && diffB v else allR v 1 26
def szV (a : Int) (v : List Int) : Int := if a = 2 then v.sum else v.length
theorem voteB_shp (a b c d f : Int) (v : List Int) : voteB a b c d f v = (shpB a b f v && inR (szV a v) c d) := by
  unfold voteB shpB szV
  by_cases e1 : a = 1
  · subst e1; rfl
  by_cases e2 : a = 2
  · subst e2; simp [Bool.and_assoc]
  by_cases e3 : a = 3
  · subst e3; simp [Bool.and_assoc]
  simp [e1, e2, e3]
def okV (a b f : Int) (k : Nat) : Bool := shpB a b f (decV a b f k) && decide (codeV a b f (decV a b f k) = k)
theorem decG_ok {a b c d f : Int} (h : validCt a b c d f = true) (k : Nat) : decG a b c d f k = (okV a b f k && inR (szV a (decV a b f k)) c d) := by
  unfold decG okV
  rw [h, voteB_shp, Int.toNat_natCast]
  simp only [Bool.true_and, Int.natCast_nonneg, decide_true]
  cases shpB a b f (decV a b f k) <;> cases inR (szV a (decV a b f k)) c d <;> simp

/-- How many votes of each size, by one walk over the codes. -/
def bump (l : List Int) (s : Int) : List Int := l.set s.toNat (l.getD s.toNat 0 + 1)
def histL (a b f : Int) (m : Nat) : Nat → List Int
  | 0 => List.replicate m 0
  | k + 1 => if okV a b f k then bump (histL a b f m k) (szV a (decV a b f k)) else histL a b f m k
theorem histL_length (a b f : Int) (m : Nat) : ∀ k, (histL a b f m k).length = m
  | 0 => by simp [histL]
  | k + 1 => by rw [histL]; split <;> simp [bump, histL_length a b f m k]
theorem szV_nonneg {a b f : Int} {v : List Int} (h : shpB a b f v = true) : 0 ≤ szV a v := by
  unfold szV
  by_cases e2 : a = 2
  · subst e2
    rw [if_pos rfl]
    unfold shpB at h
    rw [if_neg (by decide), if_pos rfl, Bool.and_eq_true] at h
    have h2 := h.2
    have : ∀ l : List Int, allR l 0 f = true → 0 ≤ l.sum := fun l => by
      induction l with
      | nil => intro _; simp
      | cons x l ih =>
        intro hl
        have h3 := allR_iff.1 hl
        have := ih (allR_iff.2 fun y hy => h3 y (by simp [hy]))
        have := (h3 x (by simp)).1
        rw [List.sum_cons]; omega
    exact this v h2
  · rw [if_neg e2]; omega
theorem histL_get (a b f : Int) (m s : Nat) (hs : s < m) : ∀ k, (histL a b f m k).getD s 0 = cntK (fun i => okV a b f i && decide (szV a (decV a b f i) = s)) k
  | 0 => by simp [histL, cntK, List.getD, hs]
  | k + 1 => by
    rw [histL, cntK, ← histL_get a b f m s hs k]
    cases ho : okV a b f k
    · simp [b2i_false]
    · have hz := szV_nonneg (show shpB a b f (decV a b f k) = true by unfold okV at ho; rw [Bool.and_eq_true] at ho; exact ho.1)
      simp only [Bool.true_and, if_true]
      unfold bump
      rw [getD_set, histL_length]
      by_cases e : szV a (decV a b f k) = s
      · rw [decide_eq_true e, b2i_true, e, Int.toNat_natCast, if_pos ⟨rfl, hs⟩]
      · rw [decide_eq_false e, b2i_false, if_neg (by omega)]; omega

/-- The table: kind, options, points. -/
def wantW (a : Int) (b f : Nat) : Nat → Int := if a = 1 then (fun i => (scoresAt 1 b).getD i 0) else if a = 2 then (fun i => (scoresAt f b).getD i 0) else if a = 3 then rkW b else wrW
def tblB (a : Int) (b f m : Nat) : Bool := histL a b f m 800 == (List.range m).map (wantW a b f)
theorem tbl1 : tblB 1 1 0 2 = true ∧ tblB 1 2 0 3 = true ∧ tblB 1 3 0 4 = true := by decide +kernel
theorem tbl3 : tblB 3 1 0 2 = true ∧ tblB 3 2 0 3 = true ∧ tblB 3 3 0 4 = true := by decide +kernel
theorem tbl4 : tblB 4 0 0 3 = true := by decide +kernel
theorem tbl21 : ∀ f, f < 6 → 1 ≤ f → tblB 2 1 f (1 * f + 1) = true := by decide +kernel
theorem tbl22 : ∀ f, f < 6 → 1 ≤ f → tblB 2 2 f (2 * f + 1) = true := by decide +kernel
theorem tbl23 : ∀ f, f < 6 → 1 ≤ f → tblB 2 3 f (3 * f + 1) = true := by decide +kernel
theorem of_tbl {a : Int} {b c d f m : Nat} (ht : tblB a b f m = true) (hd : d + 1 ≤ m) (hv : validCt a b c d f = true) : cntK (fun k => decG a b c d f k) 800 = sumF (wantW a b f) c (d + 1) := by
  have h1 : cntK (fun k => decG a b c d f k) 800 = cntK (fun k => okV a b f k && inR (szV a (decV a b f k)) c (((d + 1 : Nat) : Int) - 1)) 800 :=
    cntK_congr 800 fun i _ => by rw [decG_ok hv]; congr 2; omega
  rw [h1, cntK_split]
  refine sumF_congr c _ fun s hs => ?_
  rw [← histL_get a b f m s (by omega) 800]
  have h2 : histL a b f m 800 = (List.range m).map (wantW a b f) := by simpa [tblB] using ht
  rw [h2]
  simp [List.getD, show s < m by omega]
theorem vcl {a : Int} {b c d f : Nat} (h : validCt a b c d f = true) (hb : b ≤ 3) (h4 : a = 4 → d ≤ 2) : cntK (fun k => decG a b c d f k) 800 = cntV a b c d f := by
  have hk := (valid_kind h).1
  have hv := h
  rw [validCt_iff] at h
  obtain ⟨g1, g2, g3⟩ := h
  rcases hk with rfl | rfl | rfl | rfl
  · have hf : f = 0 := by omega
    subst hf
    have hbb : b = 1 ∨ b = 2 ∨ b = 3 := by omega
    have hm : d + 1 ≤ b + 1 := by omega
    rcases hbb with rfl | rfl | rfl
    · exact of_tbl tbl1.1 hm hv
    · exact of_tbl tbl1.2.1 hm hv
    · exact of_tbl tbl1.2.2 hm hv
  · have hfb : 1 ≤ f ∧ f < 6 := by omega
    have hbb : b = 1 ∨ b = 2 ∨ b = 3 := by omega
    rcases hbb with rfl | rfl | rfl
    · refine of_tbl (tbl21 f hfb.2 hfb.1) ?_ hv
      have hw : wrap64 (((1 : Nat) : Int) * (f : Int)) = f := by simp only [wrap64]; omega
      rw [hw] at g3; omega
    · refine of_tbl (tbl22 f hfb.2 hfb.1) ?_ hv
      have hw : wrap64 (((2 : Nat) : Int) * (f : Int)) = 2 * f := by simp only [wrap64]; omega
      rw [hw] at g3; omega
    · refine of_tbl (tbl23 f hfb.2 hfb.1) ?_ hv
      have hw : wrap64 (((3 : Nat) : Int) * (f : Int)) = 3 * f := by simp only [wrap64]; omega
      rw [hw] at g3; omega
  · have hf : f = 0 := by omega
    subst hf
    have hbb : b = 1 ∨ b = 2 ∨ b = 3 := by omega
    have hm : d + 1 ≤ b + 1 := by omega
    rcases hbb with rfl | rfl | rfl
    · exact of_tbl tbl3.1 hm hv
    · exact of_tbl tbl3.2.1 hm hv
    · exact of_tbl tbl3.2.2 hm hv
  · have hf : f = 0 := by omega
    have hb0 : b = 0 := by omega
    subst hf; subst hb0
    exact of_tbl tbl4 (by have := h4 rfl; omega) hv
end Go.Proofs.Yticimniegecfeaa

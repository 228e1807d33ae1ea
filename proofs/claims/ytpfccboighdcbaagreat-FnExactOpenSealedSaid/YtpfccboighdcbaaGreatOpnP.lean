/- Plain: the vote that is read out of a sealed ballot's exponents. No program in sight. -/
import Derived.Test.YtpfccboighdcbaaGreatDecP
import Derived.Test.YtpfccboighdcbaaGreatExp
import Derived.Test.YtpfccboighdcbaaGreatLogP
import Derived.Test.YtpfccboighdcbaaGreatEncP
import Derived.Test.YtpfccboighdcbaaGreatSeaP
namespace Go.Proofs.YtpfccboighdcbaaGreat
set_option linter.unusedVariables false
set_option linter.unusedSimpArgs false
open Go.RowKit

def oneL (l : List Int) : List Int := l.map fun x => if x = 1 then 1 else 0
theorem marks_pos : ∀ (es P : List Int), (posL P.length es).foldl (fun acc (k : Int) => acc.set k.toNat 1) (P ++ List.replicate es.length 0) = P ++ oneL es
  | [], P => by simp [posL, oneL]
  | x :: l, P => by
    have e : P ++ List.replicate (x :: l).length (0 : Int) = P ++ 0 :: List.replicate l.length 0 := by rw [List.length_cons, List.replicate_succ]
    have h1 : ∀ y : Int, (P ++ [y]).length = P.length + 1 := fun y => by simp
    rw [e, posL]
    by_cases hx : x = 1
    · rw [if_pos hx, List.foldl_cons, Int.toNat_natCast, List.set_append_right _ _ (Nat.le_refl _), Nat.sub_self, List.set_cons_zero]
      have ih := marks_pos l (P ++ [1])
      rw [h1, List.append_assoc] at ih
      rw [show P ++ 1 :: List.replicate l.length (0 : Int) = P ++ ([1] ++ List.replicate l.length 0) from rfl, ih]
      simp [oneL, hx]
    · rw [if_neg hx]
      have ih := marks_pos l (P ++ [0])
      rw [h1, List.append_assoc] at ih
      rw [show P ++ 0 :: List.replicate l.length (0 : Int) = P ++ ([0] ++ List.replicate l.length 0) from rfl, ih]
      simp [oneL, hx]
theorem marks_pos0 {es : List Int} {b : Nat} (h : es.length = b) : marksL b (posL 0 es) = oneL es := by
  have := marks_pos es []
  simp only [List.length_nil, List.nil_append] at this
  unfold marksL
  rw [← h]; exact this
theorem oneL_eq {es : List Int} : oneL es = es ↔ allR es 0 1 = true := by
  rw [allR_iff]
  constructor
  · intro h x hx
    have : x ∈ oneL es := by rw [h]; exact hx
    unfold oneL at this
    obtain ⟨y, _, rfl⟩ := List.mem_map.1 this
    split <;> omega
  · intro h
    unfold oneL
    conv => rhs; rw [← List.map_id es]
    refine List.map_congr_left fun x hx => ?_
    have := h x hx
    show _ = x
    split <;> omega
theorem numR_bin : ∀ {es : List Int}, (∀ x ∈ es, 0 ≤ x ∧ x ≤ 1) → 0 ≤ numR 2 0 es
  | [], _ => Int.le_refl _
  | x :: l, h => by
    have ih := numR_bin (es := l) fun y hy => h y (List.mem_cons_of_mem _ hy)
    have hx := h x (List.mem_cons_self ..)
    show 0 ≤ numR 2 0 l * 2 + x + 0
    omega
theorem pos_digs : ∀ (es : List Int) (i : Nat), (∀ x ∈ es, 0 ≤ x ∧ x ≤ 1) → posL i (digsN 2 (numR 2 0 es).toNat) = posL i es
  | [], _, _ => rfl
  | x :: l, i, h => by
    have hl : ∀ y ∈ l, 0 ≤ y ∧ y ≤ 1 := fun y hy => h y (List.mem_cons_of_mem _ hy)
    have ih := pos_digs l (i + 1) hl
    have h0 := numR_bin hl
    have hx := h x (List.mem_cons_self ..)
    have e : numR 2 0 (x :: l) = numR 2 0 l * 2 + x + 0 := rfl
    rw [e]
    generalize numR 2 0 l = m at *
    obtain ⟨M, rfl⟩ := Int.eq_ofNat_of_zero_le h0
    obtain ⟨X, rfl⟩ := Int.eq_ofNat_of_zero_le hx.1
    have e2 : ((M : Int) * 2 + (X : Int) + 0).toNat = M * 2 + X := by omega
    rw [e2]
    rw [Int.toNat_natCast] at ih
    by_cases hn : M * 2 + X = 0
    · obtain rfl : M = 0 := by omega
      obtain rfl : X = 0 := by omega
      rw [digsN_zero] at ih
      have h2 : posL i (((0 : Nat) : Int) :: l) = posL (i + 1) l := by rw [posL, if_neg (by decide)]
      rw [show 0 * 2 + 0 = 0 from rfl, digsN_zero, h2, ← ih]
      rfl
    · rw [digsN_step (by omega) hn, show (M * 2 + X) % 2 = X by omega, show (M * 2 + X) / 2 = M by omega, posL, posL, ih]
/-- The vote, and whether there is one. -/
def opnV (a b f : Int) (es : List Int) : List Int := if a = 1 then posL 0 es else if a = 2 then es else decV a b f (es.headD 0).toNat
def opnOK (a b c d f : Int) (es : List Int) : Bool := if a = 1 then allR es 0 1 && voteB a b c d f (posL 0 es) else if a = 2 then voteB a b c d f es else decG a b c d f (es.headD 0)
theorem dec_bin {b c d f : Int} {es : List Int} (hv : validCt 1 b c d f = true) (hl : (es.length : Int) = b) (hb : allR es 0 1 = true) : decR 1 b c d f (numR 2 0 es) = if voteB 1 b c d f (posL 0 es) then some (posL 0 es) else none := by
  have hr := allR_iff.1 hb
  have h0 := numR_bin hr
  have hdv : decV 1 b f (numR 2 0 es).toNat = posL 0 es := pos_digs es 0 hr
  have hc : codeV 1 b f (posL 0 es) = numR 2 0 es := by
    have : codeV 1 b f (posL 0 es) = numR 2 0 (marksL b.toNat (posL 0 es)) := rfl
    rw [this, marks_pos0 (by omega), oneL_eq.2 hb]
  unfold decR decG
  rw [hdv, hc, hv, decide_eq_true h0, decide_eq_true rfl, Bool.true_and, Bool.true_and, Bool.and_true]
theorem exps_pos {b f : Int} {es : List Int} (hl : (es.length : Int) = b) : (decide (expsV 1 b f (posL 0 es) = es)) = allR es 0 1 := by
  have : expsV 1 b f (posL 0 es) = marksL b.toNat (posL 0 es) := rfl
  rw [this, marks_pos0 (by omega)]
  cases h : allR es 0 1
  · exact decide_eq_false fun e => by rw [oneL_eq.1 e] at h; cases h
  · exact decide_eq_true (oneL_eq.2 h)

/-- All logarithms found; they. -/
def lgI (p g x : Int) : Option Nat := lgO p.toNat g.toNat x.toNat 100000
def lgsB (p q g x : Int) (l : List (Int × Int)) : Bool := l.all fun c => (lgI p g (gdec p q x c.1 c.2)).isSome
def lgsE (p q g x : Int) (l : List (Int × Int)) : List Int := l.map fun c => (((lgI p g (gdec p q x c.1 c.2)).getD 0 : Nat) : Int)
theorem lgsE_rg {p q g x : Int} (l : List (Int × Int)) : ∀ e ∈ lgsE p q g x l, 0 ≤ e ∧ e ≤ 100000 := by
  intro e he
  obtain ⟨c, _, rfl⟩ := List.mem_map.1 he
  cases h : lgI p g (gdec p q x c.1 c.2) with
  | none => simp
  | some k =>
    have := (lgO_le h).1
    simp only [Option.getD_some]
    omega
theorem lgsE_take {p q g x : Int} {l : List (Int × Int)} {j k : Nat} (hj : j < l.length) (hk : lgI p g (gdec p q x l[j].1 l[j].2) = some k) : lgsE p q g x (l.take (j + 1)) = lgsE p q g x (l.take j) ++ [(k : Int)] := by
  unfold lgsE
  rw [List.take_succ_eq_append_getElem hj, List.map_append, List.map_singleton, hk]; rfl
theorem lgsB_no {p q g x : Int} {l : List (Int × Int)} {j : Nat} (hj : j < l.length) (hk : lgI p g (gdec p q x l[j].1 l[j].2) = none) : lgsB p q g x l = false := by
  unfold lgsB
  rw [List.all_eq_false]
  exact ⟨l[j], List.getElem_mem hj, by rw [hk]; simp⟩
theorem lgsB_take {p q g x : Int} {l : List (Int × Int)} {j k : Nat} (hj : j < l.length) (h : lgsB p q g x (l.take j) = true) (hk : lgI p g (gdec p q x l[j].1 l[j].2) = some k) : lgsB p q g x (l.take (j + 1)) = true := by
  unfold lgsB at h ⊢
  rw [List.take_succ_eq_append_getElem hj, List.all_append, h]
  simp [hk]
/-- What OpenSealed answers. -/
noncomputable def opG (p q g x a b c d f : Int) (l : List (Int × Int)) : Bool := seaB p q g a b c d f && (inR x 0 (q - 1) && (decide ((l.length : Int) = (if a = 1 ∨ a = 2 then b else 1)) && (decide (l.length ≤ 24) && l.all (fun c => elB p q c.1 && elB p q c.2))))
noncomputable def opR (p q g x a b c d f : Int) (l : List (Int × Int)) : Option (List Int) :=
  if opG p q g x a b c d f l && (lgsB p q g x l && opnOK a b c d f (lgsE p q g x l)) then some (opnV a b f (lgsE p q g x l)) else none
theorem opnV_le {a b c d f : Int} {es : List Int} (hv : validCt a b c d f = true) (h : opnOK a b c d f es = true) : (opnV a b f es).length ≤ 1000 := by
  unfold opnOK at h
  unfold opnV
  split at h
  · rename_i e
    rw [if_pos e]
    rw [Bool.and_eq_true] at h
    have := (vote_parts hv h.2).2.2.2.2
    omega
  · rename_i e
    rw [if_neg e]
    split at h
    · rename_i e2
      rw [if_pos e2]
      have := (vote_parts hv h).2.2.2.2
      omega
    · rename_i e2
      rw [if_neg e2]
      unfold decG at h
      simp only [Bool.and_eq_true] at h
      have := (vote_parts hv h.2.2.1).2.2.2.2
      omega
end Go.Proofs.YtpfccboighdcbaaGreat

/- Plain: how ReshareKey chooses its dealings; sums of scaled dealings by columns. -/
import Derived.Test.YtnhdohjlbchniaaProg
import Derived.Test.YtnhdohjlbchniaaZero
namespace Go.Proofs.Ytnhdohjlbchniaa
open Go.RowKit
set_option linter.unusedVariables false

/-- Whether dealing k is right; whether two have one shape. -/
noncomputable def rsR (p q g : Int) (cs ixs : List Int) (ds : List (List Int × List Int)) (k : Nat) : Bool :=
  ((ds.getD k ([], [])).1.getD 0 0 == comO p q cs (ixs.getD k 0) cs.length) && decide ((badL p q g (ds.getD k ([], [])).1 (ds.getD k ([], [])).2 (ds.getD k ([], [])).2.length).length = 0)
def rsS (ds : List (List Int × List Int)) (i j : Nat) : Bool :=
  decide ((ds.getD i ([], [])).1.length = (ds.getD j ([], [])).1.length) && decide ((ds.getD i ([], [])).2.length = (ds.getD j ([], [])).2.length)
/-- The choice: the dealings that are used, and the others. -/
def rsStep (R : Nat → Bool) (S : Nat → Nat → Bool) (s : List Nat × List Nat) (k : Nat) : List Nat × List Nat :=
  if R k && (s.1.isEmpty || S k (s.1.headD 0)) then (s.1 ++ [k], s.2) else (s.1, s.2 ++ [k])
def rsF (R : Nat → Bool) (S : Nat → Nat → Bool) (n : Nat) : List Nat × List Nat := (List.range n).foldl (rsStep R S) ([], [])
theorem rsF_succ (R : Nat → Bool) (S : Nat → Nat → Bool) (n : Nat) : rsF R S (n + 1) = rsStep R S (rsF R S n) n := by
  unfold rsF
  rw [List.range_succ, List.foldl_append]
  rfl
theorem rsF_in (R : Nat → Bool) (S : Nat → Nat → Bool) (n : Nat) : (∀ k ∈ (rsF R S n).1, k < n ∧ R k = true) ∧ (∀ k ∈ (rsF R S n).2, k < n) := by
  induction n with
  | zero => exact ⟨fun k h => absurd h (by simp [rsF]), fun k h => absurd h (by simp [rsF])⟩
  | succ n ih =>
    rw [rsF_succ]
    unfold rsStep
    split
    · rename_i h
      simp only [Bool.and_eq_true] at h
      refine ⟨fun k hk => ?_, fun k hk => by have := ih.2 k hk; omega⟩
      rcases List.mem_append.1 hk with hk | hk
      · have := ih.1 k hk; exact ⟨by omega, this.2⟩
      · obtain rfl := List.mem_singleton.1 hk; exact ⟨by omega, h.1⟩
    · refine ⟨fun k hk => by have := ih.1 k hk; exact ⟨by omega, this.2⟩, fun k hk => ?_⟩
      rcases List.mem_append.1 hk with hk | hk
      · have := ih.2 k hk; omega
      · obtain rfl := List.mem_singleton.1 hk; omega
theorem rsF_pw (R : Nat → Bool) (S : Nat → Nat → Bool) (n : Nat) : (rsF R S n).1.Pairwise (· < ·) := by
  induction n with
  | zero => exact List.Pairwise.nil
  | succ n ih =>
    rw [rsF_succ]
    unfold rsStep
    split
    · refine List.pairwise_append.2 ⟨ih, List.pairwise_singleton _ _, fun a ha b hb => ?_⟩
      obtain rfl := List.mem_singleton.1 hb
      exact ((rsF_in R S b).1 a ha).1
    · exact ih
theorem rsF_len (R : Nat → Bool) (S : Nat → Nat → Bool) (n : Nat) : (rsF R S n).1.length + (rsF R S n).2.length = n := by
  induction n with
  | zero => rfl
  | succ n ih =>
    rw [rsF_succ]
    unfold rsStep
    split <;> (simp only [List.length_append, List.length_singleton]; omega)
theorem rsF_shape (R : Nat → Bool) (S : Nat → Nat → Bool) (n : Nat) : ∀ k ∈ (rsF R S n).1, k = (rsF R S n).1.headD 0 ∨ S k ((rsF R S n).1.headD 0) = true := by
  induction n with
  | zero => exact fun k h => absurd h (by simp [rsF])
  | succ n ih =>
    rw [rsF_succ]
    unfold rsStep
    split
    · rename_i h
      simp only [Bool.and_eq_true, Bool.or_eq_true] at h
      intro k hk
      generalize rsF R S n = s at *
      obtain ⟨u, o⟩ := s
      cases u with
      | nil => left; simp at hk; simp [hk]
      | cons a u =>
        simp only [List.cons_append, List.headD_cons, List.isEmpty_cons, Bool.false_eq_true, false_or] at *
        rcases List.mem_cons.1 hk with rfl | hk
        · exact .inl rfl
        · rcases List.mem_append.1 hk with hk | hk
          · exact ih k (List.mem_cons_of_mem _ hk)
          · obtain rfl := List.mem_singleton.1 hk
            exact .inr h.2
    · exact ih
/-- Indices as numbers. -/
def castL (l : List Nat) : List Int := l.map fun k : Nat => (k : Int)
theorem castL_length (l : List Nat) : (castL l).length = l.length := by simp [castL]
theorem castL_app (l : List Nat) (k : Nat) : castL l ++ [(k : Int)] = castL (l ++ [k]) := by simp [castL]
theorem castL_get {l : List Nat} {j : Nat} (h : j < (castL l).length) : (castL l)[j] = ((l[j]'(by simpa [castL] using h) : Nat) : Int) := by simp [castL]

theorem getD_at {α : Type} {l : List α} {i : Nat} (d : α) (h : i < l.length) : l.getD i d = l[i] := by
  rw [List.getD_eq_getElem?_getD, List.getElem?_eq_getElem h]; rfl
theorem gpw_rng (p q x : Int) (e : Int) (h : 1 ≤ p) : 0 ≤ gpw p q x e ∧ gpw p q x e < p := by
  unfold gpw powM
  have := Nat.mod_lt (x.toNat ^ (e % q).toNat) (show 0 < p.toNat by omega)
  omega
/-- A dealing raised to e; the columns. -/
def scD (p q : Int) (d : List Int × List Int) (e : Int) : List Int × List Int := (d.1.map fun x => gpw p q x e, d.2.map fun s => s * e % q)
def cColC (p q : Int) (ds : List ((List Int × List Int) × Int)) (j : Nat) (x : Int) : Int := ds.foldl (fun x d => gmul p [x, gpw p q (d.1.1.getD j 0) d.2]) x
def cColS (q : Int) (ds : List ((List Int × List Int) × Int)) (j : Nat) (x : Int) : Int := ds.foldl (fun x d => (x + d.1.2.getD j 0 * d.2) % q) x
theorem zipC_range {p q : Int} {A : List Int} {d : List Int} {e : Int} {N : Nat} (ha : A.length = N) (hd : d.length = N) (j : Nat) (hj : j < N) : (zipC p A (d.map fun x => gpw p q x e)).getD j 0 = gmul p [A.getD j 0, gpw p q (d.getD j 0) e] := by
  unfold zipC
  rw [getD_at _ (by simp; omega), getD_at _ (by omega), getD_at _ (by omega)]
  simp
theorem zipS_range {q : Int} {A : List Int} {d : List Int} {e : Int} {N : Nat} (ha : A.length = N) (hd : d.length = N) (j : Nat) (hj : j < N) : (zipS q A (d.map fun s => s * e % q)).getD j 0 = (A.getD j 0 + d.getD j 0 * e) % q := by
  unfold zipS
  rw [getD_at _ (by simp; omega), getD_at _ (by omega), getD_at _ (by omega)]
  simp
theorem sum_cols (p q : Int) (N M : Nat) : ∀ (ds : List ((List Int × List Int) × Int)) (A B : List Int), A.length = N → B.length = M → (∀ d ∈ ds, d.1.1.length = N ∧ d.1.2.length = M) →
    sumD p q (A, B) (ds.map fun d => scD p q d.1 d.2) = ((List.range N).map fun j => cColC p q ds j (A.getD j 0), (List.range M).map fun j => cColS q ds j (B.getD j 0)) := by
  intro ds
  induction ds with
  | nil =>
    intro A B hA hB _
    simp only [List.map_nil, sumD, List.foldl_nil, cColC, cColS]
    refine Prod.ext ?_ ?_
    · apply List.ext_getElem
      · simp [hA]
      · intro i h1 h2
        simp at h2
        simp only [List.getElem_map, List.getElem_range]; rw [getD_at _ h1]
    · apply List.ext_getElem
      · simp [hB]
      · intro i h1 h2
        simp at h2
        simp only [List.getElem_map, List.getElem_range]; rw [getD_at _ h1]
  | cons d ds ih =>
    intro A B hA hB hd
    obtain ⟨d1, d2⟩ := hd d (List.mem_cons_self ..)
    have h := ih (zipC p A (d.1.1.map fun x => gpw p q x d.2)) (zipS q B (d.1.2.map fun s => s * d.2 % q)) (by simp [zipC, hA, d1]) (by simp [zipS, hB, d2]) (fun x hx => hd x (List.mem_cons_of_mem _ hx))
    have e : sumD p q (A, B) ((d :: ds).map fun d => scD p q d.1 d.2) = sumD p q (zipC p A (d.1.1.map fun x => gpw p q x d.2), zipS q B (d.1.2.map fun s => s * d.2 % q)) (ds.map fun d => scD p q d.1 d.2) := rfl
    rw [e, h]
    refine Prod.ext ?_ ?_
    · apply List.map_congr_left
      intro j hj
      rw [List.mem_range] at hj
      rw [zipC_range hA d1 j hj]; rfl
    · apply List.map_congr_left
      intro j hj
      rw [List.mem_range] at hj
      rw [zipS_range hB d2 j hj]; rfl
/-- The sum by columns from 1 and from 0. -/
theorem sum_cols1 {p q : Int} {N M : Nat} (hp : 1 ≤ p) (hq : 0 < q) (d : (List Int × List Int) × Int) (ds : List ((List Int × List Int) × Int)) (hd : ∀ x ∈ d :: ds, x.1.1.length = N ∧ x.1.2.length = M) :
    sumD p q (scD p q d.1 d.2) (ds.map fun d => scD p q d.1 d.2) = ((List.range N).map fun j => cColC p q (d :: ds) j 1, (List.range M).map fun j => cColS q (d :: ds) j 0) := by
  obtain ⟨d1, d2⟩ := hd d (List.mem_cons_self ..)
  rw [show scD p q d.1 d.2 = (d.1.1.map fun x => gpw p q x d.2, d.1.2.map fun s => s * d.2 % q) from rfl, sum_cols p q N M ds _ _ (by simp [d1]) (by simp [d2]) (fun x hx => hd x (List.mem_cons_of_mem _ hx))]
  refine Prod.ext ?_ ?_
  · apply List.map_congr_left
    intro j hj
    rw [List.mem_range] at hj
    have h1 : gmul p [1, gpw p q (d.1.1.getD j 0) d.2] = gpw p q (d.1.1.getD j 0) d.2 := by
      have hb := gpw_rng p q (d.1.1.getD j 0) d.2 hp
      simp only [gmul, List.foldl_cons, List.foldl_nil]
      rw [show (1 * 1 % p) * gpw p q (d.1.1.getD j 0) d.2 = (1 % p) * gpw p q (d.1.1.getD j 0) d.2 by simp]
      rw [Int.mul_emod, Int.emod_emod_of_dvd _ (Int.dvd_refl p), ← Int.mul_emod, Int.one_mul]
      exact Int.emod_eq_of_lt hb.1 hb.2
    show _ = cColC p q ds j (gmul p [1, gpw p q (d.1.1.getD j 0) d.2])
    rw [h1, getD_at _ (by simp; omega), getD_at _ (by omega)]
    simp
  · apply List.map_congr_left
    intro j hj
    rw [List.mem_range] at hj
    show _ = cColS q ds j ((0 + d.1.2.getD j 0 * d.2) % q)
    rw [Int.zero_add, getD_at _ (by simp; omega), getD_at _ (by omega)]
    simp
end Go.Proofs.Ytnhdohjlbchniaa

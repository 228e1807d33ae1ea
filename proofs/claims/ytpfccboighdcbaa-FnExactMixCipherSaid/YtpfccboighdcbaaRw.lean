/- Rows of slices of ints that the call itself made: in a struct, and in slices of structs; one row laid or turned at a time. -/
import Derived.Test.YtpfccboighdcbaaProg
import Derived.Test.YtpfccboighdcbaaDl
namespace Go.Proofs.Ytpfccboighdcbaa
open Go.RowKit

/-- Rows of the call's own, block by block apart. -/
structure OwnL (w : World) (base : Nat) (rs : List (Option Addr × Nat × Nat)) (ls : List (List Int)) : Prop where
  len : rs.length = ls.length
  own : ∀ i, (h : i < rs.length) → (h' : i < ls.length) → OwnI w base 3 rs[i].1 rs[i].2.1 rs[i].2.2 ls[i]
  nd : (rowsFp rs).Nodup
section
variable {w w' : World} {base n c s t : Nat} {A : Option Addr} {P fp : List Nat} {rs : List (Option Addr × Nat × Nat)} {ls : List (List Int)}
theorem OwnL.nil (w : World) (base : Nat) : OwnL w base [] [] := ⟨rfl, fun i h => absurd h (by simp), by simp [rowsFp]⟩
theorem OwnL.one {l : List Int} (h : OwnI w base 3 A n c l) : OwnL w base [(A, n, c)] [l] :=
  ⟨rfl, fun i hi _ => match i, hi with | 0, _ => h, by simp [rowsFp, fpI_nd]⟩
theorem rowsFp_one (A : Option Addr) (n c : Nat) : rowsFp [(A, n, c)] = fpI A := by simp [rowsFp]
theorem rowsFp_cons (x : Option Addr × Nat × Nat) (t : List (Option Addr × Nat × Nat)) : rowsFp (x :: t) = fpI x.1 ++ rowsFp t := rfl
theorem OwnL.app {rs' : List (Option Addr × Nat × Nat)} {ls' : List (List Int)} (h : OwnL w base rs ls) (k : OwnL w base rs' ls') (ha : Apart (rowsFp rs) (rowsFp rs')) : OwnL w base (rs ++ rs') (ls ++ ls') := by
  have e := h.len
  refine ⟨by simp [h.len, k.len], fun i hi hi' => ?_, ?_⟩
  · by_cases hlt : i < rs.length
    · rw [List.getElem_append_left hlt, List.getElem_append_left (by omega)]
      exact h.own i hlt (by omega)
    · rw [List.getElem_append_right (by omega), List.getElem_append_right (by omega)]
      have := k.own (i - rs.length) (by simp at hi; omega) (by simp at hi'; omega)
      simpa [e] using this
  · rw [rowsFp_app, List.nodup_append]
    exact ⟨h.nd, k.nd, fun a ha' b hb e => ha a ha' (e ▸ hb)⟩
theorem OwnL.cons {l : List Int} (h : OwnI w base 3 A n c l) (k : OwnL w base rs ls) (ha : Apart (fpI A) (rowsFp rs)) : OwnL w base ((A, n, c) :: rs) (l :: ls) :=
  (OwnL.one h).app k (by rw [rowsFp_one]; exact ha)
theorem OwnL.rd (h : OwnL w base rs ls) : RowsRd w rs ls := ⟨h.len, fun i hi hi' => (h.own i hi hi').sl⟩
theorem OwnL.low (h : OwnL w base rs ls) : Low (rowsFp rs) w.heap.size := by
  intro b hb
  obtain ⟨r, hr, hb⟩ := rowsFp_mem.1 hb
  obtain ⟨i, hi, rfl⟩ := List.getElem_of_mem hr
  exact (h.own i hi (by have := h.len; omega)).low b hb
theorem OwnL.high (h : OwnL w base rs ls) : High base (rowsFp rs) := by
  intro b hb
  obtain ⟨r, hr, hb⟩ := rowsFp_mem.1 hb
  obtain ⟨i, hi, rfl⟩ := List.getElem_of_mem hr
  exact (h.own i hi (by have := h.len; omega)).high b hb
theorem OwnL.only (h : OwnL w base rs ls) (k : Only fp w w') (ha : Apart (rowsFp rs) fp) : OwnL w' base rs ls :=
  ⟨h.len, fun i hi hi' => (h.own i hi hi').only k fun b hb => ha b (rowsFp_mem.2 ⟨_, List.getElem_mem hi, hb⟩), h.nd⟩
theorem OwnL.ext (h : OwnL w base rs ls) (hb : Ext w w') : OwnL w' base rs ls := h.only (hb.toOnly []) (fun _ _ => by simp)
theorem OwnL.more {base' : Nat} (h : OwnL w base rs ls) (hb : base' ≤ base) : OwnL w base' rs ls := ⟨h.len, fun i hi hi' => (h.own i hi hi').more hb, h.nd⟩
/-- One row is turned. -/
theorem OwnL.turn (h : OwnL w base rs ls) {j : Nat} (hj : j < rs.length) {l' : List Int} (hO : OwnI w' base 3 rs[j].1 rs[j].2.1 rs[j].2.2 l') (hk : Only (fpI rs[j].1) w w') : OwnL w' base rs (ls.set j l') := by
  have e := h.len
  refine ⟨by simpa using h.len, fun i hi hi' => ?_, h.nd⟩
  by_cases e1 : i = j
  · subst e1; simpa using hO
  · rw [List.getElem_set_ne (by omega)]
    exact (h.own i hi (by simpa using hi')).only hk (rowsFp_apart h.nd hi hj e1)

/-- A slice of structs of slices, s slices each: its rows one behind the other; P: all its blocks. -/
def OwnG (s t : Nat) (w : World) (base : Nat) (A : Option Addr) (n c : Nat) (P : List Nat) (ls : List (List Int)) : Prop :=
  ∃ rs : List (Option Addr × Nat × Nat), OwnW s w base t A n c (rs.map rowV) ∧ OwnL w base rs ls ∧ P = fpI A ++ rowsFp rs
theorem OwnG.len (h : OwnG s t w base A n c P ls) : ls.length = n * s := by
  obtain ⟨rs, hV, hL, _⟩ := h
  have := hV.len
  rw [List.length_map, hL.len] at this; exact this
theorem OwnG.cap (h : OwnG s t w base A n c P ls) : n ≤ c ∧ c ≤ maxLen := by obtain ⟨rs, hV, _⟩ := h; exact hV.cap
theorem OwnG.le (h : OwnG s t w base A n c P ls) : n ≤ maxLen := Nat.le_trans h.cap.1 h.cap.2
theorem OwnG.rd (h : OwnG s t w base A n c P ls) : RdSS w A ls := by
  obtain ⟨rs, hV, hL, _⟩ := h
  exact RowsRd.rd hL.rd hV.rd
theorem OwnG.low (h : OwnG s t w base A n c P ls) : Low P w.heap.size := by
  obtain ⟨rs, hV, hL, rfl⟩ := h
  intro b hb
  rcases List.mem_append.1 hb with hb | hb
  · exact hV.low b hb
  · exact hL.low b hb
theorem OwnG.high (h : OwnG s t w base A n c P ls) : High base P := by
  obtain ⟨rs, hV, hL, rfl⟩ := h
  intro b hb
  rcases List.mem_append.1 hb with hb | hb
  · exact hV.high b hb
  · exact hL.high b hb
theorem OwnG.only (h : OwnG s t w base A n c P ls) (k : Only fp w w') (ha : Apart P fp) : OwnG s t w' base A n c P ls := by
  obtain ⟨rs, hV, hL, rfl⟩ := h
  exact ⟨rs, hV.only k fun b hb => ha b (List.mem_append_left _ hb), hL.only k fun b hb => ha b (List.mem_append_right _ hb), rfl⟩
theorem OwnG.ext (h : OwnG s t w base A n c P ls) (hb : Ext w w') : OwnG s t w' base A n c P ls := h.only (hb.toOnly []) (fun _ _ => by simp)
theorem OwnG.more {base' : Nat} (h : OwnG s t w base A n c P ls) (hb : base' ≤ base) : OwnG s t w base' A n c P ls := by
  obtain ⟨rs, hV, hL, rfl⟩ := h
  exact ⟨rs, hV.more hb, hL.more hb, rfl⟩
/-- Row j: its cell, its ints; the whole behind a call that turned that row alone. -/
theorem OwnG.row (ht : t ≠ 3) {j : Nat} (h : OwnG s t w base A n c P ls) (hj : j < ls.length) :
    ∃ g B m d, A = some ⟨g, 0, none⟩ ∧ w.cell? ⟨g, j, none⟩ = some (.slice B m d) ∧ OwnI w base 3 B m d ls[j] ∧ (∀ b ∈ fpI B, b ∈ P) ∧
      ∀ w' l', OwnI w' base 3 B m d l' → Only (fpI B) w w' → OwnG s t w' base A n c P (ls.set j l') := by
  obtain ⟨rs, hV, hL, rfl⟩ := h
  have hj' : j < rs.length := by have := hL.len; omega
  have hn := hV.len
  rw [List.length_map] at hn
  obtain ⟨g, hA, _⟩ := hV.addr (by
    rcases Nat.eq_zero_or_pos n with h0 | h0
    · subst h0; rw [Nat.zero_mul] at hn; omega
    · exact h0)
  subst hA
  have hO := hL.own j hj' hj
  have hsub : ∀ b ∈ fpI rs[j].1, b ∈ fpI (some (⟨g, 0, none⟩ : Addr)) ++ rowsFp rs := fun b hb => List.mem_append_right _ (rowsFp_mem.2 ⟨_, List.getElem_mem hj', hb⟩)
  refine ⟨g, rs[j].1, rs[j].2.1, rs[j].2.2, rfl, ?_, hO, hsub, fun w' l' hO' hk => ⟨rs, hV.only hk (apart_typesW hV hO.w ht), hL.turn hj' hO' hk, rfl⟩⟩
  rw [(hV.at0 j (by simpa using hj')).1]; simp [rowV]
theorem OwnG.frz {g : Nat} (h : OwnG s t w base (some ⟨g, 0, none⟩) n c P ls) (j : Nat) : Hid (w.frozen? ⟨g, j, none⟩ = false) := by
  obtain ⟨rs, hV, _⟩ := h
  exact World.ownsRow.frozenAt hV j
/-- A row is laid into its cell. -/
theorem OwnG.lay (ht : t ≠ 3) {g j : Nat} {B : Option Addr} {m d : Nat} {l : List Int} (h : OwnG s t w base (some ⟨g, 0, none⟩) n c P ls) (hj : j < ls.length) (hrow : OwnI w base 3 B m d l) (hap : Apart (fpI B) P) :
    ∃ P', OwnG s t (w.setCell ⟨g, j, none⟩ (.slice B m d)) base (some ⟨g, 0, none⟩) n c P' (ls.set j l) ∧ ∀ b ∈ P', b ∈ P ∨ b ∈ fpI B := by
  obtain ⟨rs, hV, hL, rfl⟩ := h
  have hl := hL.len
  have hj' : j < rs.length := by omega
  have hon : Only [g] w (w.setCell ⟨g, j, none⟩ (.slice B m d)) := (Only.refl [g] w).setCell (p := ⟨g, j, none⟩) (by simp) _
  have hA : ∀ {b1 n1 c1 : Nat} {C : Option Addr} {x : List Int}, OwnI w b1 3 C n1 c1 x → OwnI (w.setCell ⟨g, j, none⟩ (.slice B m d)) b1 3 C n1 c1 x := fun hk =>
    hk.only hon (fun b hb hb' => apart_typesW hV hk.w ht b (by simpa [fpI] using hb') hb)
  have h1 : rs = rs.take j ++ rs[j] :: rs.drop (j + 1) := by
    rw [← List.drop_eq_getElem_cons hj', List.take_append_drop]
  have h2 : rs.set j (B, m, d) = rs.take j ++ (B, m, d) :: rs.drop (j + 1) := by
    conv => lhs; rw [h1]
    rw [List.set_append_right _ _ (by rw [List.length_take]; omega), List.length_take, Nat.min_eq_left (by omega), Nat.sub_self, List.set_cons_zero]
  have hmem : ∀ b ∈ rowsFp (rs.set j (B, m, d)), b ∈ rowsFp rs ∨ b ∈ fpI B := fun b hb => by
    rw [h2, rowsFp_app, rowsFp_cons] at hb
    rw [h1, rowsFp_app, rowsFp_cons]
    simp only [List.mem_append] at hb ⊢
    rcases hb with hb | hb | hb
    · exact .inl (.inl hb)
    · exact .inr hb
    · exact .inl (.inr (.inr hb))
  refine ⟨_, ⟨rs.set j (B, m, d), ?_, ⟨by simpa using hl, fun i hi hi' => ?_, ?_⟩, rfl⟩, fun b hb => ?_⟩
  · have h3 := hV.set (j := j) (.slice B m d)
    have h4 : (rs.map rowV).set j (.slice B m d) = (rs.set j (B, m, d)).map rowV := by rw [List.map_set]; rfl
    rw [h4] at h3
    exact h3
  · by_cases e1 : i = j
    · subst e1; simpa using hA hrow
    · have := hA (hL.own i (by simpa using hi) (by simpa using hi'))
      simpa [List.getElem_set_ne (Ne.symm e1)] using this
  · have hap' : ∀ b ∈ fpI B, ¬ b ∈ rowsFp rs := fun b hb hb' => hap b hb (List.mem_append_right _ hb')
    have hd := hL.nd
    rw [h2]
    rw [h1] at hd hap'
    rw [rowsFp_app, rowsFp_cons] at hd hap' ⊢
    have hnB := fpI_nd B
    generalize fpI B = fB at *
    generalize rowsFp (rs.take j) = X at *
    generalize rowsFp (rs.drop (j + 1)) = Y at *
    simp only [List.nodup_append, List.mem_append, not_or, ne_eq] at hd hap' ⊢
    obtain ⟨d1, ⟨_, d2, _⟩, d3⟩ := hd
    refine ⟨d1, ⟨hnB, d2, fun b hb b' hb' e => ?_⟩, fun b hb b' hb' e => ?_⟩
    · subst e; exact (hap' b hb).2.2 hb'
    · subst e
      rcases hb' with hb' | hb'
      · exact (hap' b hb').1 hb
      · exact d3 b hb b (.inr hb') rfl
  · rcases List.mem_append.1 hb with hb | hb
    · exact .inl (List.mem_append_left _ hb)
    · exact (hmem b hb).imp (List.mem_append_right _) id
theorem ownG_pad (h : OwnW s w base t A n c (List.replicate (n * s) (.slice none 0 0))) : OwnG s t w base A n c (fpI A) (List.replicate (n * s) []) := by
  refine ⟨List.replicate (n * s) (none, 0, 0), by simpa [rowV] using h, ⟨by simp, fun i hi hi' => ?_, by rw [rowsFp_pad]; simp⟩, by rw [rowsFp_pad]; simp⟩
  simp only [List.getElem_replicate]
  exact OwnI.nil _ _ _
end
end Go.Proofs.Ytpfccboighdcbaa

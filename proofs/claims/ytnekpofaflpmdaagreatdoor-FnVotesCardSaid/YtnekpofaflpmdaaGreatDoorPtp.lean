/- Plain laws for ParseVote: the text of a vote is cut at its commas, and its words are read back. -/
import Derived.Test.YtnekpofaflpmdaaGreatDoorProg
import Derived.Test.YtnekpofaflpmdaaGreatDoorVtt
import Derived.Lib.Split
import Derived.Lib.AtoiAll
namespace Go.Proofs.YtnekpofaflpmdaaGreatDoor
open Go.RowKit
/-- The number that strconv.Atoi hands back beside its error. -/
def atoVL (l : List UInt8) : Int := match Lib.atoiAll l with
  | .ok v => v
  | .range => Lib.atoiSat l
  | _ => 0
def atoV (s : ByteArray) : Int := atoVL s.data.toList
/-- The number that the reference reads. -/
def rdL : Int → List UInt8 → Int
  | x, [] => x
  | x, c :: r => if c.toNat < 48 ∨ 57 < c.toNat then -1 else rdL (10 * x + ((c.toNat : Int) - 48)) r
def rdVL (l : List UInt8) : Int := if l.length = 0 ∨ 6 < l.length ∨ (l.head? = some 48 ∧ 1 < l.length) then -1 else rdL 0 l
def rdV (s : ByteArray) : Int := rdVL s.data.toList
/-- The pieces between the commas, as the reference cuts them. -/
def rgo : List UInt8 → List UInt8 → List (List UInt8)
  | cur, [] => [cur]
  | cur, c :: r => if c = 44 then cur :: rgo [] r else rgo (cur ++ [c]) r
theorem ato_dig' : ∀ m < 10, atoVL [byI (48 + ((m : Nat) : Int))] = (m : Int) := by decide
theorem rd_dig' : ∀ m < 10, rdVL [byI (48 + ((m : Nat) : Int))] = (m : Int) := by decide
theorem comma' : ∀ m < 10, byI (48 + ((m : Nat) : Int)) ≠ 44 := by decide
theorem ato_dig {k : Int} (h0 : 0 ≤ k) (h1 : k < 10) : atoVL [byI (48 + k)] = k := by
  obtain ⟨m, rfl⟩ : ∃ m : Nat, k = m := ⟨k.toNat, by omega⟩
  exact ato_dig' m (by omega)
theorem rd_dig {k : Int} (h0 : 0 ≤ k) (h1 : k < 10) : rdVL [byI (48 + k)] = k := by
  obtain ⟨m, rfl⟩ : ∃ m : Nat, k = m := ⟨k.toNat, by omega⟩
  exact rd_dig' m (by omega)
theorem not_comma {k : Int} (h0 : 0 ≤ k) (h1 : k < 10) : byI (48 + k) ≠ 44 := by
  obtain ⟨m, rfl⟩ : ∃ m : Nat, k = m := ⟨k.toNat, by omega⟩
  exact comma' m (by omega)
theorem vtJ_two {a : Int} (h : a ≠ 4) (x y : Int) (l : List Int) : vtJ a (x :: y :: l) = byI (48 + x) :: 44 :: vtJ a (y :: l) := by
  rw [vtJ, if_neg h]
  simp
theorem vtJ_one {a : Int} (h : a ≠ 4) (x : Int) : vtJ a [x] = [byI (48 + x)] := by rw [vtJ, if_neg h]
theorem rgo_text {a : Int} (h : a ≠ 4) : ∀ v : List Int, v ≠ [] → (∀ x ∈ v, 0 ≤ x ∧ x < 10) → rgo [] (vtJ a v) = v.map fun k => [byI (48 + k)]
  | [], hn, _ => absurd rfl hn
  | [x], _, hv => by
    have hx := hv x (by simp)
    rw [vtJ_one h, rgo, if_neg (not_comma hx.1 hx.2)]; rfl
  | x :: y :: l, _, hv => by
    have hx := hv x (by simp)
    rw [vtJ_two h, rgo, if_neg (not_comma hx.1 hx.2), rgo, if_pos rfl, rgo_text h (y :: l) (by simp) (fun z hz => hv z (List.mem_cons_of_mem _ hz))]; rfl
theorem cut_text {a : Int} (h : a ≠ 4) : ∀ v : List Int, v ≠ [] → (∀ x ∈ v, 0 ≤ x ∧ x < 10) → Lib.splitK [44] 0 (Lib.count (vtJ a v) [44]) (vtJ a v) = v.map fun k => [byI (48 + k)]
  | [], hn, _ => absurd rfl hn
  | [x], _, hv => by
    have hx := hv x (by simp)
    have hi : Lib.index [byI (48 + x)] [44] = -1 := by
      rw [Lib.index_one, Lib.indexByte, if_neg (by simpa using not_comma hx.1 hx.2)]; rfl
    rw [vtJ_one h, Lib.count_miss hi]; rfl
  | x :: y :: l, _, hv => by
    have hx := hv x (by simp)
    have hi : Lib.index (byI (48 + x) :: 44 :: vtJ a (y :: l)) [44] = ((1 : Nat) : Int) := by
      have h1 : Lib.indexByte (44 :: vtJ a (y :: l)) 44 = 0 := by rw [Lib.indexByte, if_pos (by simp)]
      rw [Lib.index_one, Lib.indexByte, if_neg (by simpa using not_comma hx.1 hx.2), h1]; rfl
    rw [vtJ_two h, Lib.count_hit (by simp) hi, Nat.add_comm, Lib.splitK, hi, if_neg (by decide)]
    have ih := cut_text h (y :: l) (by simp) (fun z hz => hv z (List.mem_cons_of_mem _ hz))
    simp only [Int.toNat_natCast, Nat.add_zero, List.length_singleton, List.take_succ_cons, List.take_zero, List.drop_succ_cons, List.drop_zero, List.map_cons] at ih ⊢
    rw [ih]
/-- What the two sides read out of a text. -/
def prP (a : Int) (s : ByteArray) : List Int :=
  if s = ⟨#[45]⟩ then [] else if a = 4 then s.data.toList.map fun b => (b.toNat : Int) - 96 else (Lib.splitB ⟨#[44]⟩ 0 (Lib.countB s ⟨#[44]⟩) s).map atoV
def prR (a : Int) (s : ByteArray) : List Int :=
  if s = ⟨#[45]⟩ then [] else if a = 4 then s.data.toList.map fun b => (b.toNat : Int) - 96 else (rgo [] s.data.toList).map rdVL
theorem vtOK_dig {a : Int} {v : List Int} (h : vtOK a v) (h4 : a ≠ 4) : ∀ x ∈ v, 0 ≤ x ∧ x < 10 := fun x hx => by
  have := h x hx
  rwa [if_neg h4] at this
theorem prR_nil {a : Int} {s : ByteArray} (h4 : a ≠ 4) (hs : s ≠ ⟨#[45]⟩) : prR a s ≠ [] := by
  rw [prR, if_neg hs, if_neg h4]
  have : ∀ (l c : List UInt8), rgo c l ≠ [] := by
    intro l
    induction l with
    | nil => intro c; simp [rgo]
    | cons x l ih => intro c; rw [rgo]; split <;> simp [ih]
  simpa using this _ _
theorem prP_nil {a : Int} {s : ByteArray} (h4 : a ≠ 4) (hs : s ≠ ⟨#[45]⟩) : prP a s ≠ [] := by
  rw [prP, if_neg hs, if_neg h4]
  have : ∀ (k : Nat) (s : ByteArray), Lib.splitB ⟨#[44]⟩ 0 k s ≠ [] := by
    intro k s
    cases k with
    | zero => simp [Lib.splitB]
    | succ k => rw [Lib.splitB]; split <;> simp
  simpa using this _ _
theorem prP_text {a : Int} {v : List Int} {s : ByteArray} (h4 : a ≠ 4) (hs : s ≠ ⟨#[45]⟩) (hv : vtOK a v) (hn : v ≠ []) (ht : vtT a v = s) : prP a s = v := by
  subst ht
  rw [prP, if_neg hs, if_neg h4]
  have h := Lib.splitB_data ⟨#[44]⟩ 0 (Lib.countB (vtT a v) ⟨#[44]⟩) (vtT a v)
  have hd : (vtT a v).data.toList = vtJ a v := by rw [vtT, if_neg hn]
  have hc : Lib.countB (vtT a v) ⟨#[44]⟩ = Lib.count (vtJ a v) [44] := by rw [← hd]
  rw [hc, hd] at h
  rw [hc]
  have h2 := h.trans (cut_text h4 v hn (vtOK_dig hv h4))
  have h3 : ∀ L : List ByteArray, L.map atoV = (L.map (·.data.toList)).map atoVL := fun L => by rw [List.map_map]; rfl
  rw [h3, h2, List.map_map]
  conv => rhs; rw [← List.map_id v]
  exact List.map_congr_left fun x hx => ato_dig (vtOK_dig hv h4 x hx).1 (vtOK_dig hv h4 x hx).2
theorem prR_text {a : Int} {v : List Int} {s : ByteArray} (h4 : a ≠ 4) (hs : s ≠ ⟨#[45]⟩) (hv : vtOK a v) (hn : v ≠ []) (ht : vtT a v = s) : prR a s = v := by
  subst ht
  rw [prR, if_neg hs, if_neg h4]
  have hd : (vtT a v).data.toList = vtJ a v := by rw [vtT, if_neg hn]
  rw [hd, rgo_text h4 v hn (vtOK_dig hv h4), List.map_map]
  conv => rhs; rw [← List.map_id v]
  exact List.map_congr_left fun x hx => rd_dig (vtOK_dig hv h4 x hx).1 (vtOK_dig hv h4 x hx).2
/-- A vote whose text is the text itself is what both sides read. -/
theorem pr_agree {a : Int} {s : ByteArray} {u v : List Int} (hu : u = prP a s) (hv : v = prR a s) : ((vtOK a u ∧ vtT a u = s) ∨ (vtOK a v ∧ vtT a v = s)) → u = v := by
  subst hu hv
  by_cases hs : s = ⟨#[45]⟩
  · intro _; rw [prP, prR, if_pos hs, if_pos hs]
  · by_cases h4 : a = 4
    · intro _; rw [prP, prR, if_neg hs, if_neg hs, if_pos h4, if_pos h4]
    · rintro (⟨h1, h2⟩ | ⟨h1, h2⟩)
      · exact (prR_text h4 hs h1 (prP_nil h4 hs) h2).symm
      · exact prP_text h4 hs h1 (prR_nil h4 hs) h2
/-- What ParseVote returns. -/
def pvG (a b c d f : Int) (s : ByteArray) (v : List Int) : Bool := validCt a b c d f && (voteB a b c d f v && decide (vtT a v = s))
def pvO (a b c d f : Int) (s : ByteArray) : Option (List Int) := if pvG a b c d f s (prR a s) = true then some (prR a s) else none
theorem pvG_ok {a b c d f : Int} {s : ByteArray} {v : List Int} (h : pvG a b c d f s v = true) : vtOK a v ∧ vtT a v = s := by
  simp only [pvG, Bool.and_eq_true, decide_eq_true_eq] at h
  exact ⟨ivB_vtOK (b := b) (c := c) (d := d) (f := f) (by simp [ivB, h.1, h.2.1]), h.2.2⟩
theorem pvO_P (a b c d f : Int) (s : ByteArray) : pvO a b c d f s = if pvG a b c d f s (prP a s) = true then some (prP a s) else none := by
  unfold pvO
  by_cases h1 : pvG a b c d f s (prR a s) = true
  · have h := pr_agree rfl rfl (.inr (pvG_ok h1))
    rw [h]
  · by_cases h2 : pvG a b c d f s (prP a s) = true
    · have h := pr_agree rfl rfl (.inl (pvG_ok h2))
      rw [h]
    · rw [if_neg h1, if_neg h2]
/-- A vote is short, and so is its text. -/
theorem voteB_len {a b c d f : Int} {v : List Int} (h : ivB a b c d f v = true) : v.length ≤ 8 := by
  simp only [ivB, Bool.and_eq_true] at h
  obtain ⟨h1, h2⟩ := h
  rw [validCt_iff] at h1
  obtain ⟨h0, h1, h3⟩ := h1
  have inl : ∀ {n lo hi : Int}, inR n lo hi = true → n ≤ hi := fun h => (inR_iff.1 h).2
  unfold voteB at h2
  split at h2
  · simp only [Bool.and_eq_true] at h2
    have := inl h2.2
    omega
  · split at h2
    · simp only [Bool.and_eq_true, decide_eq_true_eq] at h2
      omega
    · split at h2
      · simp only [Bool.and_eq_true] at h2
        have := inl h2.2.2
        omega
      · simp only [Bool.and_eq_true] at h2
        have := inl h2.2
        omega
theorem vtT_len {a : Int} {v : List Int} (h : v.length ≤ 8) : (vtT a v).size ≤ 16 := by
  rw [vtT]
  split
  · decide
  · have := vtJ_len a v
    show (vtJ a v).toArray.size ≤ 16
    simp; omega
theorem pvG_long {a b c d f : Int} {s : ByteArray} {v : List Int} (h : 16 < s.size) : pvG a b c d f s v = false := by
  cases hg : pvG a b c d f s v
  · rfl
  · simp only [pvG, Bool.and_eq_true, decide_eq_true_eq] at hg
    have := vtT_len (a := a) (voteB_len (a := a) (b := b) (c := c) (d := d) (f := f) (v := v) (by simp [ivB, hg.1, hg.2.1]))
    rw [hg.2.2] at this
    omega
theorem pvO_bd (a b c d f : Int) (s : ByteArray) : ((pvO a b c d f s).getD []).length ≤ 100000 := by
  unfold pvO
  split
  · rename_i hg
    simp only [pvG, Bool.and_eq_true, decide_eq_true_eq] at hg
    have := voteB_len (a := a) (b := b) (c := c) (d := d) (f := f) (v := prR a s) (by simp [ivB, hg.1, hg.2.1])
    simp only [Option.getD_some]; omega
  · simp
end Go.Proofs.YtnekpofaflpmdaaGreatDoor

/- Plain laws for FnVotes: codes are decoded, texts are parsed back, the simplest vote has the least code. -/
import Derived.Test.YtnekpofaflpmdaaGreatDoorProg
import Derived.Test.YtnekpofaflpmdaaGreatDoorPtp
import Derived.Test.YtnekpofaflpmdaaGreatDoorDecP
import Derived.Test.YtnekpofaflpmdaaGreatDoorSimp
namespace Go.Proofs.YtnekpofaflpmdaaGreatDoor
open Go.RowKit

theorem digs_num {b : Nat} (hb : 2 ≤ b) : ∀ l : List Int, (∀ x ∈ l, 0 ≤ x ∧ x < (b : Int)) → ∃ N k : Nat, numR b 0 l = (N : Int) ∧ l = digsN b N ++ List.replicate k 0
  | [], _ => ⟨0, 0, rfl, rfl⟩
  | x :: l, h => by
    obtain ⟨N, k, hN, hl⟩ := digs_num hb l (fun y hy => h y (List.mem_cons_of_mem _ hy))
    obtain ⟨h0, h1⟩ := h x (by simp)
    obtain ⟨X, rfl⟩ := Int.eq_ofNat_of_zero_le h0
    have hn : numR b 0 ((X : Int) :: l) = ((N * b + X : Nat) : Int) := by
      show numR b 0 l * b + X + 0 = _
      rw [hN]; push_cast; omega
    have hX : X < b := by omega
    by_cases hz : N * b + X = 0
    · have hN0 : N = 0 := by
        rcases Nat.eq_zero_or_pos N with h | h
        · exact h
        · have := Nat.mul_pos h (show 0 < b by omega); omega
      have hX0 : X = 0 := by omega
      subst hN0 hX0
      refine ⟨0, k + 1, by rw [hn]; simp, ?_⟩
      rw [digsN_zero, List.nil_append] at hl ⊢
      rw [List.replicate_succ, ← hl]; rfl
    · refine ⟨N * b + X, k, hn, ?_⟩
      have e1 : (N * b + X) % b = X := by rw [Nat.add_comm, Nat.add_mul_mod_self_right, Nat.mod_eq_of_lt hX]
      have e2 : (N * b + X) / b = N := by rw [Nat.add_comm, Nat.add_mul_div_right _ _ (by omega), Nat.div_eq_of_lt hX, Nat.zero_add]
      rw [digsN_step hb hz, e1, e2, List.cons_append, ← hl]
/-- Digits that are not zero are told by their number. -/
theorem digs_back {b : Nat} (hb : 2 ≤ b) {l : List Int} (h : ∀ x ∈ l, 1 ≤ x ∧ x < (b : Int)) : digsN b (numR b 0 l).toNat = l := by
  obtain ⟨N, k, hN, hl⟩ := digs_num hb l (fun x hx => ⟨by have := h x hx; omega, (h x hx).2⟩)
  rw [hN, Int.toNat_natCast]
  cases k with
  | zero => simpa using hl.symm
  | succ k =>
    exfalso
    have : (0 : Int) ∈ l := by rw [hl]; simp
    have := h 0 this
    omega
theorem posL_app : ∀ (l m : List Int) (i : Nat), posL i (l ++ m) = posL i l ++ posL (i + l.length) m
  | [], m, i => by simp [posL]
  | x :: l, m, i => by
    rw [List.cons_append, posL, posL, posL_app l m (i + 1), List.length_cons, show i + 1 + l.length = i + (l.length + 1) by omega]
    split <;> simp
theorem posL_zeros : ∀ (k i : Nat), posL i (List.replicate k 0) = []
  | 0, i => rfl
  | k + 1, i => by rw [List.replicate_succ, posL, if_neg (by decide), posL_zeros k]
/-- The marks of a rising list. -/
theorem marks_shape {b : Nat} {v : List Int} (hr : ∀ x ∈ v, 0 ≤ x ∧ x < (b : Int)) (hs : v.Pairwise (· < ·)) : ∀ j, j ≤ v.length →
    ∃ p : List Int, marksAt b v j = p ++ List.replicate (b - p.length) 0 ∧ p.length ≤ b ∧ (∀ i, (hi : i < v.length) → j ≤ i → (p.length : Int) ≤ v[i]) ∧ posL 0 p = v.take j ∧ p.sum = (j : Int)
  | 0, _ => ⟨[], by simp [marksAt], by simp, fun i hi _ => by have := hr _ (List.getElem_mem hi); simp; omega, rfl, rfl⟩
  | j + 1, hj => by
    obtain ⟨p, h1, h2, h3, h4, h5⟩ := marks_shape hr hs j (by omega)
    have hjl : j < v.length := by omega
    have hx := hr _ (List.getElem_mem hjl)
    have hp := h3 j hjl (Nat.le_refl _)
    obtain ⟨K, hK⟩ := Int.eq_ofNat_of_zero_le hx.1
    rw [hK] at hp hx
    have hKp : p.length ≤ K := by omega
    have hKb : K < b := by omega
    have hlen : (p ++ List.replicate (K - p.length) 0 ++ [1]).length = K + 1 := by simp; omega
    refine ⟨p ++ List.replicate (K - p.length) 0 ++ [1], ?_, by omega, fun i hi hji => ?_, ?_, ?_⟩
    · rw [marksAt_succ hjl hK, h1, hlen]
      have e : List.replicate (b - p.length) (0 : Int) = List.replicate (K - p.length) 0 ++ 0 :: List.replicate (b - (K + 1)) 0 := by
        rw [← List.replicate_succ, List.replicate_append_replicate]; congr 1; omega
      rw [e, ← List.append_assoc, List.set_append_right _ _ (by simp; omega)]
      have : K - (p ++ List.replicate (K - p.length) (0 : Int)).length = 0 := by simp; omega
      rw [this, List.set_cons_zero]; simp
    · rw [hlen]
      have := List.pairwise_iff_getElem.1 hs j i hjl hi (by omega)
      rw [hK] at this; omega
    · rw [posL_app, posL_app, posL_zeros, h4]
      have : 0 + (p ++ List.replicate (K - p.length) (0 : Int)).length = K := by simp; omega
      rw [this, List.append_nil, List.take_succ_eq_append_getElem hjl, hK]; rfl
    · rw [List.sum_append, List.sum_append, h5]
      have : ∀ k : Nat, (List.replicate k (0 : Int)).sum = 0 := fun k => by induction k with
        | zero => rfl
        | succ k ih => rw [List.replicate_succ, List.sum_cons, ih]; rfl
      rw [this]; simp
theorem sum_zeros : ∀ k : Nat, (List.replicate k (0 : Int)).sum = 0
  | 0 => rfl
  | k + 1 => by rw [List.replicate_succ, List.sum_cons, sum_zeros k]; rfl
theorem marks_all {b : Nat} {v : List Int} (hr : ∀ x ∈ v, 0 ≤ x ∧ x < (b : Int)) (hs : v.Pairwise (· < ·)) : posL 0 (marksL b v) = v ∧ (marksL b v).sum = (v.length : Int) ∧ (marksL b v).length = b := by
  obtain ⟨p, h1, h2, _, h4, h5⟩ := marks_shape hr hs v.length (Nat.le_refl _)
  have hl := marksAt_length b v v.length
  rw [marksAt_all] at h1 hl
  rw [List.take_length] at h4
  refine ⟨?_, ?_, hl⟩
  · rw [h1, posL_app, posL_zeros, h4, List.append_nil]
  · rw [h1, List.sum_append, h5, sum_zeros]; omega
theorem allR_mem {v : List Int} {lo hi : Int} (h : allR v lo hi = true) : ∀ x ∈ v, lo ≤ x ∧ x ≤ hi := by
  intro x hx
  obtain ⟨i, hi, rfl⟩ := List.mem_iff_getElem.1 hx
  exact allR_at h hi
theorem risB_parts {v : List Int} {lo hi : Int} (h : risB v lo hi = true) : (∀ x ∈ v, lo ≤ x ∧ x ≤ hi) ∧ v.Pairwise (· < ·) := by
  rw [risB, Bool.and_eq_true, decide_eq_true_eq] at h
  exact ⟨allR_mem h.1, h.2⟩
/-- A vote's code is decoded into the vote. -/
theorem dec_code {a b c d f : Int} {v : List Int} (h : ivB a b c d f v = true) : decV a b f (codeV a b f v).toNat = v := by
  simp only [ivB, Bool.and_eq_true] at h
  obtain ⟨hc, hv⟩ := h
  obtain ⟨h1, hb0, hb8, hf0, hf5, _⟩ := valid_kind hc
  unfold voteB at hv
  rcases h1 with rfl | rfl | rfl | rfl
  · rw [if_pos rfl, Bool.and_eq_true] at hv
    obtain ⟨hr, hs⟩ := risB_parts hv.1
    obtain ⟨B, rfl⟩ := Int.eq_ofNat_of_zero_le hb0
    obtain ⟨m1, _, m3⟩ := marks_all (b := B) (fun x hx => ⟨(hr x hx).1, by have := hr x hx; omega⟩) hs
    obtain ⟨N, k, hN, hl⟩ := digs_num (b := 2) (by omega) (marksL B v) (fun x hx => by have := marksL_rng B v x hx; omega)
    have e : codeV 1 B f v = (N : Int) := by rw [codeV, if_pos rfl]; exact hN
    rw [e, Int.toNat_natCast, decV, voteV, if_pos rfl, digsV, if_neg (by decide)]
    have hbase : (baseV 1 B f).toNat = 2 := by simp [baseV]
    rw [hbase]
    rw [hl, posL_app, posL_zeros, List.append_nil] at m1
    exact m1
  · rw [if_neg (by decide), if_pos rfl, Bool.and_eq_true, Bool.and_eq_true, decide_eq_true_eq] at hv
    have hr := allR_mem hv.2.1
    obtain ⟨F, rfl⟩ := Int.eq_ofNat_of_zero_le hf0
    obtain ⟨B, rfl⟩ := Int.eq_ofNat_of_zero_le hb0
    have hF : 1 ≤ F := by rw [validCt_iff] at hc; omega
    obtain ⟨N, k, hN, hl⟩ := digs_num (b := F + 1) (by omega) v (fun x hx => by have := hr x hx; omega)
    have e : codeV 2 B F v = (N : Int) := by rw [codeV, if_neg (by decide), if_pos rfl]; exact hN
    have hbase : (baseV 2 B F).toNat = F + 1 := by simp [baseV]
    rw [e, Int.toNat_natCast, decV, voteV, if_neg (by decide), if_neg (by decide), digsV, if_pos rfl, hbase, padL]
    have hlen := congrArg List.length hl
    rw [List.length_append, List.length_replicate] at hlen
    rw [show (B : Int).toNat - (digsN (F + 1) N).length = k by omega]
    exact hl.symm
  · rw [if_neg (by decide), if_neg (by decide), if_pos rfl, Bool.and_eq_true] at hv
    have hr := allR_mem hv.1
    obtain ⟨B, rfl⟩ := Int.eq_ofNat_of_zero_le hb0
    have hB : 1 ≤ B := by rw [validCt_iff] at hc; omega
    have e : codeV 3 B f v = numR ((B + 1 : Nat) : Int) 0 (v.map fun x => x + 1) := by
      rw [codeV, if_neg (by decide), if_neg (by decide), if_pos rfl, numR_more]; rfl
    have hbase : (baseV 3 B f).toNat = B + 1 := by simp [baseV]
    rw [e, decV, voteV, if_neg (by decide), if_pos rfl, digsV, if_neg (by decide), hbase, digs_back (by omega)]
    · rw [List.map_map]
      conv => rhs; rw [← List.map_id v]
      exact List.map_congr_left fun x _ => by simp
    · intro x hx
      obtain ⟨y, hy, rfl⟩ := List.mem_map.1 hx
      have := hr y hy
      omega
  · rw [if_neg (by decide), if_neg (by decide), if_neg (by decide), Bool.and_eq_true] at hv
    have hr := allR_mem hv.1
    have e : codeV 4 b f v = numR ((27 : Nat) : Int) 0 v := by
      rw [codeV, if_neg (by decide), if_neg (by decide), if_neg (by decide)]; rfl
    have hbase : (baseV 4 b f).toNat = 27 := by simp [baseV]
    rw [e, decV, voteV, if_neg (by decide), if_neg (by decide), digsV, if_neg (by decide), hbase, digs_back (by omega)]
    intro x hx
    have := hr x hx
    omega
theorem code_pos {a b c d f : Int} {v : List Int} (h : ivB a b c d f v = true) : 0 ≤ codeV a b f v ∧ codeV a b f v ≤ 282429536481 := by
  simp only [ivB, Bool.and_eq_true] at h
  obtain ⟨hc, hv⟩ := h
  obtain ⟨h1, hb0, hb8, hf0, hf5, _⟩ := valid_kind hc
  obtain ⟨q1, q2, q3, q4, q5⟩ := vote_parts hc hv
  unfold codeV
  rcases h1 with rfl | rfl | rfl | rfl
  · rw [if_pos rfl]
    exact numR_le (l := marksL b.toNat v) (by decide) (by decide) (by have := marksAt_length b.toNat v v.length; rw [marksAt_all] at this; omega) (fun x hx => by have := marksL_rng _ v x hx; omega) 0
  · rw [if_neg (by decide), if_pos rfl]
    exact numR_le (l := v) (by omega) (by omega) q5 (fun x hx => by have := allR_mem (q2 rfl).2 x hx; omega) 0
  · rw [if_neg (by decide), if_neg (by decide), if_pos rfl]
    exact numR_le (l := v) (by omega) (by omega) q5 (fun x hx => by have := allR_mem (q3 rfl).1 x hx; omega) 0
  · rw [if_neg (by decide), if_neg (by decide), if_neg (by decide)]
    exact numR_le (l := v) (by omega) (by omega) q5 (fun x hx => by have := allR_mem (q4 rfl).1 x hx; omega) 0
theorem decR_code {a b c d f : Int} {v : List Int} (h : ivB a b c d f v = true) : decR a b c d f (codeV a b f v) = some v := by
  have h1 := dec_code h
  have h2 := code_pos h
  simp only [ivB, Bool.and_eq_true] at h
  unfold decR decG
  rw [h1, h.1, h.2, decide_eq_true h2.1, decide_eq_true rfl]; rfl
/-- What is decoded has the code. -/
theorem decR_some {a b c d f k : Int} {v : List Int} (h : decR a b c d f k = some v) : ivB a b c d f v = true ∧ codeV a b f v = k := by
  unfold decR at h
  split at h
  · rename_i hg
    simp only [decG, Bool.and_eq_true, decide_eq_true_eq] at hg
    obtain rfl := Option.some.inj h
    exact ⟨by rw [ivB, hg.1, hg.2.2.1]; rfl, hg.2.2.2⟩
  · cases h
/-- A vote's text is parsed back. -/
theorem let_dig {k : Int} (h0 : 1 ≤ k) (h1 : k ≤ 26) : ((byI (97 + k - 1)).toNat : Int) - 96 = k := by
  rw [← byI_eq (by omega) (by omega)]; omega
theorem vtJ_letters : ∀ v : List Int, vtJ 4 v = v.map fun k => byI (97 + k - 1)
  | [] => rfl
  | [x] => by simp [vtJ]
  | x :: y :: l => by
    have ih := vtJ_letters (y :: l)
    rw [vtJ, if_pos rfl, ih]
    · rfl
    · simp
theorem toList_one {l : List UInt8} {b : UInt8} (h : (⟨l.toArray⟩ : ByteArray) = ⟨#[b]⟩) : l = [b] := by
  have := congrArg (fun s : ByteArray => s.data.toList) h
  simpa using this
theorem vt_not_dash {a : Int} {v : List Int} (hv : vtOK a v) (hn : v ≠ []) : vtT a v ≠ ⟨#[45]⟩ := by
  intro h
  rw [vtT, if_neg hn] at h
  have h := toList_one h
  have small : ∀ y : Int, 48 ≤ y → y < 256 → byI y ≠ 45 := fun y h0 h1 e => by
    have := byI_eq (y := y) (by omega) (by omega)
    rw [e] at this
    have e45 : (45 : UInt8).toNat = 45 := rfl
    omega
  match v, hn with
  | [x], _ =>
    have hx := hv x (by simp)
    by_cases h4 : a = 4
    · rw [if_pos h4] at hx
      rw [vtJ, if_pos h4] at h
      exact small _ (by omega) (by omega) (List.cons.inj h).1
    · rw [if_neg h4] at hx
      rw [vtJ, if_neg h4] at h
      exact small _ (by omega) (by omega) (List.cons.inj h).1
  | x :: y :: l, _ =>
    have hx := hv x (by simp)
    by_cases h4 : a = 4
    · rw [if_pos h4] at hx
      rw [vtJ, if_pos h4] at h
      · exact small _ (by omega) (by omega) (List.cons.inj h).1
      · simp
    · rw [if_neg h4] at hx
      rw [vtJ_two h4] at h
      exact small _ (by omega) (by omega) (List.cons.inj h).1
theorem pvO_back {a b c d f : Int} {v : List Int} (h : ivB a b c d f v = true) : pvO a b c d f (vtT a v) = some v := by
  have hok := ivB_vtOK h
  have hp : prR a (vtT a v) = v := by
    by_cases hn : v = []
    · subst hn; rw [prR, if_pos (by rw [vtT, if_pos rfl])]
    · have hd := vt_not_dash hok hn
      by_cases h4 : a = 4
      · subst h4
        rw [prR, if_neg hd, if_pos rfl]
        have hd : (vtT 4 v).data.toList = vtJ 4 v := by rw [vtT, if_neg hn]
        rw [hd, vtJ_letters, List.map_map]
        conv => rhs; rw [← List.map_id v]
        exact List.map_congr_left fun x hx => by
          have := hok x hx
          rw [if_pos rfl] at this
          exact let_dig this.1 this.2
      · exact prR_text h4 hd hok hn rfl
  simp only [ivB, Bool.and_eq_true] at h
  rw [pvO, hp, pvG, h.1, h.2, decide_eq_true rfl]; rfl
end Go.Proofs.YtnekpofaflpmdaaGreatDoor

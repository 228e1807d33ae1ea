/- Plain law for FnVotes: the simplest vote is a vote, and no vote has a lesser code. -/
import Derived.Test.YtnekpofaflpmdaaGreatDoorProg
import Derived.Test.YtnekpofaflpmdaaGreatDoorVpl
namespace Go.Proofs.YtnekpofaflpmdaaGreatDoor
open Go.RowKit

theorem numR_cons (base more x : Int) (l : List Int) : numR base more (x :: l) = numR base more l * base + x + more := rfl
/-- The code of the simplest score, by its places and its sum. -/
def gG (f : Int) : Nat → Int → Int
  | 0, _ => 0
  | b + 1, s => gG f b (s - (if s < f then s else f)) * (f + 1) + (if s < f then s else f)
theorem grR_cons (f c : Int) : ∀ j, grR f c (j + 1) = grR f (c - (if c < f then c else f)) j
  | 0 => rfl
  | j + 1 => by
    have ih := grR_cons f c j
    show grR f c (j + 1) - (if grR f c (j + 1) < f then grR f c (j + 1) else f) = _
    rw [ih]; rfl
theorem grL_cons (f c : Int) : ∀ j, grL f c (j + 1) = (if c < f then c else f) :: grL f (c - (if c < f then c else f)) j
  | 0 => rfl
  | j + 1 => by
    have ih := grL_cons f c j
    show grL f c (j + 1) ++ [if grR f c (j + 1) < f then grR f c (j + 1) else f] = _
    rw [ih, grR_cons]; rfl
theorem num_gr (f : Int) : ∀ (b : Nat) (c : Int), numR (f + 1) 0 (grL f c b) = gG f b c
  | 0, _ => rfl
  | b + 1, c => by rw [grL_cons, numR_cons, num_gr f b, gG]; omega
theorem gG_zero {f : Int} (hf : 1 ≤ f) : ∀ b, gG f b 0 = 0
  | 0 => rfl
  | b + 1 => by rw [gG, if_pos (by omega), Int.sub_zero, gG_zero hf b]; omega
theorem gG_small {f s : Int} (hf : 1 ≤ f) (b : Nat) (hs : s ≤ f) : gG f (b + 1) s = s := by
  rw [gG]
  by_cases h : s < f
  · rw [if_pos h, Int.sub_self, gG_zero hf]; omega
  · rw [if_neg h, show s - f = 0 by omega, gG_zero hf]; omega
theorem gG_great {f s : Int} (b : Nat) (hs : f ≤ s) : gG f (b + 1) s = gG f b (s - f) * (f + 1) + f := by
  rw [gG, if_neg (by omega)]
theorem gG_next {f : Int} (hf : 1 ≤ f) : ∀ (b : Nat) (s : Int), 0 ≤ s → s + 1 ≤ b * f → gG f b s + 1 ≤ gG f b (s + 1)
  | 0, s, h0, h1 => by simp at h1; omega
  | b + 1, s, h0, h1 => by
    push_cast at h1
    rw [Int.add_mul] at h1
    by_cases h : s + 1 ≤ f
    · rw [gG_small hf b h, gG_small hf b (by omega)]
      omega
    · have ih := gG_next hf b (s - f) (by omega) (by omega)
      rw [gG_great b (by omega), gG_great b (by omega), show s + 1 - f = s - f + 1 by omega]
      have := Int.mul_le_mul_of_nonneg_right ih (show 0 ≤ f + 1 by omega)
      rw [Int.add_mul] at this
      omega
theorem num_ge_sum {f : Int} (hf : 1 ≤ f) : ∀ l : List Int, (∀ x ∈ l, 0 ≤ x ∧ x ≤ f) → 0 ≤ l.sum ∧ l.sum ≤ numR (f + 1) 0 l ∧ l.sum ≤ l.length * f
  | [], _ => by simp [numR]
  | x :: l, h => by
    obtain ⟨i0, i1, i2⟩ := num_ge_sum hf l fun y hy => h y (List.mem_cons_of_mem _ hy)
    have hx := h x (by simp)
    rw [List.sum_cons, numR_cons, List.length_cons]
    have h1 : numR (f + 1) 0 l * 1 ≤ numR (f + 1) 0 l * (f + 1) := Int.mul_le_mul_of_nonneg_left (by omega) (by omega)
    push_cast
    rw [Int.add_mul]
    omega
theorem num_least {f : Int} (hf : 1 ≤ f) : ∀ (l : List Int) (s : Int), (∀ x ∈ l, 0 ≤ x ∧ x ≤ f) → 0 ≤ s → s ≤ l.sum → gG f l.length s ≤ numR (f + 1) 0 l
  | [], s, _, _, _ => Int.le_refl _
  | x :: l, s, h, h0, h1 => by
    have hl : ∀ y ∈ l, 0 ≤ y ∧ y ≤ f := fun y hy => h y (List.mem_cons_of_mem _ hy)
    obtain ⟨i0, i1, i2⟩ := num_ge_sum hf l hl
    have hx := h x (by simp)
    rw [List.sum_cons] at h1
    rw [numR_cons, List.length_cons]
    by_cases hs : s ≤ f
    · rw [gG_small hf _ hs]
      by_cases ht : l.sum = 0
      · have : 0 ≤ numR (f + 1) 0 l * (f + 1) := Int.mul_nonneg (by omega) (by omega)
        omega
      · have : 1 * (f + 1) ≤ numR (f + 1) 0 l * (f + 1) := Int.mul_le_mul_of_nonneg_right (by omega) (by omega)
        omega
    · rw [gG_great _ (by omega)]
      by_cases hxf : x = f
      · have ih := num_least hf l (s - f) hl (by omega) (by omega)
        have := Int.mul_le_mul_of_nonneg_right ih (show 0 ≤ f + 1 by omega)
        omega
      · have ih := num_least hf l (s - f + 1) hl (by omega) (by omega)
        have hn := gG_next hf l.length (s - f) (by omega) (by omega)
        have := Int.mul_le_mul_of_nonneg_right (Int.le_trans hn ih) (show 0 ≤ f + 1 by omega)
        rw [Int.add_mul] at this
        omega
theorem numR_snoc (base more x : Int) : ∀ l : List Int, numR base more (l ++ [x]) = numR base more l + (x + more) * base ^ l.length
  | [] => by simp [numR]
  | y :: l => by
    rw [List.cons_append, numR_cons, numR_cons, numR_snoc base more x l, List.length_cons, Int.pow_succ, Int.add_mul, Int.mul_assoc]
    omega
theorem numR_nn {base : Int} (hb : 1 ≤ base) : ∀ l : List Int, (∀ x ∈ l, 0 ≤ x + 1) → 0 ≤ numR base 1 l
  | [], _ => Int.le_refl _
  | x :: l, h => by
    have h1 := numR_nn hb l fun y hy => h y (List.mem_cons_of_mem _ hy)
    have h2 := h x (by simp)
    have h3 := Int.mul_nonneg h1 (show 0 ≤ base by omega)
    rw [numR_cons]; omega
theorem dn_less : ∀ b ≤ 8, ∀ n ≤ 8, ∀ m ≤ 8, m + 1 + n ≤ b → numR ((b : Nat) + 1 : Int) 1 (dn (((m + 1 + n : Nat)) : Int) n) + 1 ≤ ((b : Nat) + 1 : Int) ^ n := by decide +kernel
theorem dn_mono : ∀ b ≤ 8, ∀ n ≤ b, ∀ c ≤ n, numR ((b : Nat) + 1 : Int) 1 (dn ((c : Nat) : Int) c) ≤ numR ((b : Nat) + 1 : Int) 1 (dn ((n : Nat) : Int) n) := by decide +kernel
/-- Different digits from m on: no lesser number than with the least ones. -/
theorem rank_least {b : Nat} (hb : b ≤ 8) : ∀ (n m : Nat) (l : List Int), l.length = n → m + n ≤ b → l.Nodup → (∀ x ∈ l, (m : Int) ≤ x) → numR ((b : Nat) + 1 : Int) 1 (dn (((m + n : Nat)) : Int) n) ≤ numR ((b : Nat) + 1 : Int) 1 l
  | 0, m, l, hl, _, _, _ => by
    obtain rfl : l = [] := List.eq_nil_of_length_eq_zero hl
    exact Int.le_refl _
  | n + 1, m, l, hl, hmn, hnd, hm => by
    obtain ⟨l', x, rfl⟩ : ∃ l' x, l = l' ++ [x] := ⟨l.dropLast, l.getLast (by rintro rfl; simp at hl), (List.dropLast_concat_getLast _).symm⟩
    have hl' : l'.length = n := by simpa using hl
    have hd : dn (((m + (n + 1) : Nat)) : Int) (n + 1) = dn (((m + 1 + n : Nat)) : Int) n ++ [(m : Int)] := by
      rw [show m + (n + 1) = m + 1 + n by omega, ← dn_succ]
      congr 2
      omega
    rw [hd, numR_snoc, numR_snoc, dn_length, hl']
    rw [List.nodup_append] at hnd
    have hx := hm x (by simp)
    have hP : (0 : Int) < ((b : Nat) + 1 : Int) ^ n := Int.pow_pos (by omega)
    by_cases hxm : x = m
    · subst hxm
      have ih := rank_least hb n (m + 1) l' hl' (by omega) hnd.1 fun y hy => by
        have h1 := hm y (by simp [hy])
        have h2 := hnd.2.2 y hy (m : Int) (by simp)
        push_cast
        omega
      omega
    · have h1 := dn_less b hb n (by omega) m (by omega) (by omega)
      have h2 := numR_nn (base := ((b : Nat) + 1 : Int)) (by omega) l' fun y hy => by have := hm y (by simp [hy]); omega
      have h3 : ((m : Int) + 1 + 1) * ((b : Nat) + 1 : Int) ^ n ≤ (x + 1) * ((b : Nat) + 1 : Int) ^ n := Int.mul_le_mul_of_nonneg_right (by omega) (by omega)
      rw [Int.add_mul ((m : Int) + 1) 1] at h3
      omega
theorem ones_least : ∀ (v : List Int) (c : Nat), (∀ x ∈ v, 1 ≤ x) → c ≤ v.length → numR 27 0 (List.replicate c 1) ≤ numR 27 0 v
  | v, 0, h, _ => by
    show (0 : Int) ≤ _
    have : ∀ l : List Int, (∀ x ∈ l, 1 ≤ x) → 0 ≤ numR 27 0 l := by
      intro l
      induction l with
      | nil => intro _; exact Int.le_refl _
      | cons x l ih =>
        intro h
        have h1 := ih fun y hy => h y (List.mem_cons_of_mem _ hy)
        have h2 := h x (by simp)
        rw [numR_cons]; omega
    exact this v h
  | [], c + 1, _, hc => by simp at hc
  | x :: v, c + 1, h, hc => by
    have ih := ones_least v c (fun y hy => h y (List.mem_cons_of_mem _ hy)) (by simpa using hc)
    have hx := h x (by simp)
    rw [List.replicate_succ, numR_cons, numR_cons]
    omega
theorem s1_ris : ∀ b ≤ 8, ∀ c ≤ b, risB (iota 0 c) 0 (((b : Nat) : Int) - 1) = true := by decide +kernel
theorem s1_num : ∀ b ≤ 8, ∀ c ≤ b, numR 2 0 (marksL b (iota 0 c)) = gG 1 b ((c : Nat) : Int) := by decide +kernel
theorem s2_all : ∀ b ≤ 8, ∀ f ≤ 5, 1 ≤ f → ∀ c ≤ b * f, allR (grL ((f : Nat) : Int) ((c : Nat) : Int) b) 0 ((f : Nat) : Int) = true ∧ (grL ((f : Nat) : Int) ((c : Nat) : Int) b).sum = ((c : Nat) : Int) := by decide +kernel
theorem s3_all : ∀ b ≤ 8, ∀ c ≤ b, allR (dn ((c : Nat) : Int) c) 0 (((b : Nat) : Int) - 1) = true ∧ diffB (dn ((c : Nat) : Int) c) = true := by decide +kernel
theorem s4_all : ∀ c ≤ 5, allR (List.replicate c 1) 1 26 = true := by decide +kernel
/-- The simplest vote is a vote, and no vote has a lesser code. -/
theorem simp_least {a b c d f : Int} {v : List Int} (h : ivB a b c d f v = true) : ivB a b c d f (simpL a b c f) = true ∧ codeV a b f (simpL a b c f) ≤ codeV a b f v := by
  simp only [ivB, Bool.and_eq_true] at h ⊢
  obtain ⟨hc, hv⟩ := h
  obtain ⟨h1, hb0, hb8, hf0, hf5, hc0, hc40, hd0, hd40⟩ := valid_kind hc
  have hc' := hc
  rw [validCt_iff] at hc'
  obtain ⟨_, hcd, hk⟩ := hc'
  obtain ⟨B, rfl⟩ := Int.eq_ofNat_of_zero_le hb0
  obtain ⟨F, rfl⟩ := Int.eq_ofNat_of_zero_le hf0
  obtain ⟨C, rfl⟩ := Int.eq_ofNat_of_zero_le hc0
  have hIn : ∀ n : Nat, n = C → inR ((n : Nat) : Int) C d = true := fun n hn => inR_iff.2 ⟨by omega, by omega⟩
  unfold voteB at hv ⊢
  rcases h1 with rfl | rfl | rfl | rfl
  · rw [if_pos rfl, Bool.and_eq_true] at hv
    obtain ⟨hr, hs⟩ := risB_parts hv.1
    have hlen := inR_iff.1 hv.2
    have hCB : C ≤ B := by omega
    have hS : simpL 1 B C F = iota 0 C := by simp [simpL]
    obtain ⟨_, m2, m3⟩ := marks_all (b := B) (fun x hx => ⟨(hr x hx).1, by have := hr x hx; omega⟩) hs
    have hle := num_least (f := 1) (by omega) (marksL B v) C (fun x hx => marksL_rng B v x hx) (by omega) (by omega)
    rw [m3] at hle
    rw [hS, if_pos rfl, s1_ris B (by omega) C hCB]
    refine ⟨⟨hc, by rw [Bool.true_and]; exact hIn _ (iota_length _ _)⟩, ?_⟩
    have e := s1_num B (by omega) C hCB
    rw [codeV, if_pos rfl, codeV, if_pos rfl]
    show numR 2 0 (marksL B (iota 0 C)) ≤ numR 2 0 (marksL B v)
    rw [e]
    exact hle
  · rw [if_neg (by decide), if_pos rfl, Bool.and_eq_true, Bool.and_eq_true, decide_eq_true_eq] at hv
    have hr := allR_mem hv.2.1
    have hlen := inR_iff.1 hv.2.2
    have hF1 : 1 ≤ F := by omega
    have hm40 : (B : Int) * F ≤ 8 * 5 := Int.mul_le_mul hb8 hf5 (by omega) (by omega)
    have hm0 : 0 ≤ (B : Int) * F := Int.mul_nonneg (by omega) (by omega)
    have hw : wrap64 ((B : Int) * F) = (B : Int) * F := by simp only [wrap64]; omega
    rw [hw] at hk
    have hCB : C ≤ B * F := by
      have : (C : Int) ≤ (B : Int) * F := by omega
      exact_mod_cast this
    have hS : simpL 2 B C F = grL F C B := by simp [simpL]
    obtain ⟨s1, s2⟩ := s2_all B (by omega) F (by omega) hF1 C hCB
    have hle := num_least (f := (F : Int)) (by omega) v C hr (by omega) (by omega)
    have hvl : v.length = B := by omega
    rw [hvl] at hle
    rw [hS, if_neg (by decide), if_pos rfl, s1, s2, grL_length]
    refine ⟨⟨hc, by rw [decide_eq_true rfl, Bool.true_and, Bool.true_and]; exact hIn C rfl⟩, ?_⟩
    rw [codeV, if_neg (by decide), if_pos rfl, codeV, if_neg (by decide), if_pos rfl, num_gr]
    exact hle
  · rw [if_neg (by decide), if_neg (by decide), if_pos rfl, Bool.and_eq_true, Bool.and_eq_true] at hv
    have hr := allR_mem hv.1
    have hlen := inR_iff.1 hv.2.2
    have hCB : C ≤ B := by omega
    have hS : simpL 3 B C F = dn C C := by simp [simpL]
    obtain ⟨s1, s2⟩ := s3_all B (by omega) C hCB
    have hnd : v.Nodup := of_decide_eq_true hv.2.1
    have h1 := rank_least (b := B) (by omega) v.length 0 v rfl (by omega) hnd (fun x hx => (hr x hx).1)
    have h2 := dn_mono B (by omega) v.length (by omega) C (by omega)
    rw [Nat.zero_add] at h1
    rw [hS, if_neg (by decide), if_neg (by decide), if_pos rfl, s1, s2, dn_length]
    refine ⟨⟨hc, by rw [Bool.true_and, Bool.true_and]; exact hIn C rfl⟩, ?_⟩
    rw [codeV, if_neg (by decide), if_neg (by decide), if_pos rfl, codeV, if_neg (by decide), if_neg (by decide), if_pos rfl]
    exact Int.le_trans h2 h1
  · rw [if_neg (by decide), if_neg (by decide), if_neg (by decide), Bool.and_eq_true] at hv
    have hr := allR_mem hv.1
    have hlen := inR_iff.1 hv.2
    have hS : simpL 4 B C F = List.replicate C 1 := by simp [simpL]
    have h1 := ones_least v C (fun x hx => (hr x hx).1) (by omega)
    rw [hS, if_neg (by decide), if_neg (by decide), if_neg (by decide), s4_all C (by omega), List.length_replicate]
    refine ⟨⟨hc, by rw [Bool.true_and]; exact hIn C rfl⟩, ?_⟩
    rw [codeV, if_neg (by decide), if_neg (by decide), if_neg (by decide), codeV, if_neg (by decide), if_neg (by decide), if_neg (by decide)]
    exact h1
end Go.Proofs.YtnekpofaflpmdaaGreatDoor

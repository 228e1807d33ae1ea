/- The greatest code of a contest's votes, as plain functions. No program in sight. -/
import Derived.Test.YtpfccboighdcbaaGreatCode
import Derived.Test.YtpfccboighdcbaaGreatGrp
namespace Go.Proofs.YtpfccboighdcbaaGreat

def tkR (f c : Int) : Nat → Int
  | 0 => c
  | j + 1 => tkR f c j - (if tkR f c j < f then tkR f c j else f)
def tkL (f c : Int) : Nat → List Int
  | 0 => []
  | j + 1 => (if tkR f c j < f then tkR f c j else f) :: tkL f c j
theorem tkL_length (f c : Int) : ∀ j, (tkL f c j).length = j
  | 0 => rfl
  | j + 1 => by simp [tkL, tkL_length f c j]
theorem tkR_bd {f c : Int} (hc : 0 ≤ c) (hf : 0 ≤ f) : ∀ j, 0 ≤ tkR f c j ∧ tkR f c j ≤ c
  | 0 => ⟨hc, Int.le_refl _⟩
  | j + 1 => by
    have := tkR_bd hc hf j
    rw [tkR]; split <;> omega
theorem tkL_rng {f c : Int} (hc : 0 ≤ c) (hf : 0 ≤ f) : ∀ j, ∀ x ∈ tkL f c j, 0 ≤ x ∧ x ≤ f
  | 0 => by simp [tkL]
  | j + 1 => by
    have h := tkR_bd hc hf j
    intro x hx
    rw [tkL, List.mem_cons] at hx
    rcases hx with rfl | hx
    · split <;> omega
    · exact tkL_rng hc hf j x hx
theorem pad_top {n j : Nat} {t : List Int} (x : Int) (hj : j < n) : (List.replicate (n - j) (0 : Int) ++ t).set (n - 1 - j) x = List.replicate (n - (j + 1)) 0 ++ x :: t := by
  have e : n - j = (n - 1 - j) + 1 := by omega
  rw [e, List.replicate_succ', List.append_assoc, List.set_append_right _ _ (by simp), List.length_replicate, Nat.sub_self, List.singleton_append, List.set_cons_zero, show n - (j + 1) = n - 1 - j by omega]
/-- The reference's list. -/
def gvL (a : Int) (b d : Nat) (f : Int) : List Int := if a = 1 then iota ((b : Int) - d) d else if a = 2 then tkL f d b else if a = 3 then iota ((b : Int) - d) d else List.replicate d 26
/-- The program's digits. -/
def dgA (b d j : Nat) : List Int := (List.range j).map fun i : Nat => if (b : Int) - d ≤ (i : Int) then 1 else 0
theorem dgA_succ (b d j : Nat) : dgA b d (j + 1) = dgA b d j ++ [if (b : Int) - d ≤ (j : Int) then 1 else 0] := by simp [dgA, List.range_succ]
theorem dgA_marks {b d : Nat} (hb : b ≤ 8) (hd : d ≤ b) : dgA b d b = marksL b (iota ((b : Int) - d) d) := by
  have : ∀ b, b < 9 → ∀ d, d < 9 → d ≤ b → dgA b d b = marksL b (iota ((b : Int) - d) d) := by decide +kernel
  exact this b (by omega) d (by omega) hd
theorem iota_map1 (k : Int) (n : Nat) : (iota k n).map (fun x => x + 1) = iota (k + 1) n := by
  simp only [iota, List.map_map]
  apply List.map_congr_left
  intro i _
  simp; omega
theorem iota_rng (k : Int) (n : Nat) : ∀ x ∈ iota k n, k ≤ x ∧ x ≤ k + n - 1 := by
  intro x hx
  simp only [iota, List.mem_map, List.mem_range] at hx
  obtain ⟨i, hi, rfl⟩ := hx
  omega
def dgL (a : Int) (b d : Nat) (f : Int) : List Int := if a = 1 then dgA b d b else if a = 2 then tkL f d b else if a = 3 then iota ((b : Int) - d + 1) d else List.replicate d 26
def gCode (a : Int) (b d : Nat) (f : Int) : Int := codeV a b f (gvL a b d f)
theorem gv_parts {a : Int} {b d f : Nat} (hb : b ≤ 8) (h1 : a = 1 → d ≤ b) (h3 : a = 3 → d ≤ b) (h4 : a = 4 → d ≤ 5) (ha : a = 1 ∨ a = 2 ∨ a = 3 ∨ a = 4) : VoteParts a b f (gvL a b d f) := by
  unfold VoteParts
  rcases ha with rfl | rfl | rfl | rfl
  · have hd := h1 rfl
    have e : gvL 1 b d f = iota ((b : Int) - d) d := rfl
    rw [e]
    refine ⟨fun _ => allR_iff.2 fun x hx => ?_, fun h => absurd h (by decide), fun h => absurd h (by decide), fun h => absurd h (by decide), by rw [iota_length]; omega⟩
    have := iota_rng _ _ x hx; omega
  · have e : gvL 2 b d f = tkL f d b := rfl
    rw [e]
    refine ⟨fun h => absurd h (by decide), fun _ => ⟨by rw [tkL_length], allR_iff.2 fun x hx => tkL_rng (by omega) (by omega) b x hx⟩, fun h => absurd h (by decide), fun h => absurd h (by decide), by rw [tkL_length]; omega⟩
  · have hd := h3 rfl
    have e : gvL 3 b d f = iota ((b : Int) - d) d := rfl
    rw [e]
    refine ⟨fun h => absurd h (by decide), fun h => absurd h (by decide), fun _ => ⟨allR_iff.2 fun x hx => ?_, by rw [iota_length]; omega⟩, fun h => absurd h (by decide), by rw [iota_length]; omega⟩
    have := iota_rng _ _ x hx; omega
  · have hd := h4 rfl
    have e : gvL 4 b d f = List.replicate d 26 := rfl
    rw [e]
    refine ⟨fun h => absurd h (by decide), fun h => absurd h (by decide), fun h => absurd h (by decide), fun _ => ⟨allR_iff.2 fun x hx => ?_, by simpa using hd⟩, by simp; omega⟩
    rw [List.mem_replicate] at hx; omega
theorem dg_facts {a : Int} {b d f : Nat} (hb : b ≤ 8) (hf : f ≤ 5) (h1 : a = 1 → d ≤ b) (h3 : a = 3 → d ≤ b) (h4 : a = 4 → d ≤ 5) (ha : a = 1 ∨ a = 2 ∨ a = 3 ∨ a = 4) :
    (dgL a b d f).length ≤ 8 ∧ 1 ≤ baseV a b f ∧ baseV a b f ≤ 27 ∧ (∀ x ∈ dgL a b d f, 0 ≤ x + 0 ∧ x + 0 ≤ 26) ∧ numR (baseV a b f) 0 (dgL a b d f) = gCode a b d f := by
  rcases ha with rfl | rfl | rfl | rfl
  · have hd := h1 rfl
    have e : dgL 1 b d f = dgA b d b := rfl
    rw [e]
    refine ⟨by simp [dgA]; omega, by simp [baseV], by simp [baseV], fun x hx => ?_, ?_⟩
    · rw [dgA_marks hb hd] at hx
      have := marksL_rng b _ x hx; omega
    · show numR 2 0 (dgA b d b) = numR 2 0 (marksL (b : Int).toNat (iota ((b : Int) - d) d))
      rw [Int.toNat_natCast, dgA_marks hb hd]
  · have e : dgL 2 b d f = tkL f d b := rfl
    rw [e]
    refine ⟨by rw [tkL_length]; exact hb, by simp [baseV]; omega, by simp [baseV]; omega, fun x hx => ?_, rfl⟩
    have := tkL_rng (f := (f : Int)) (c := (d : Int)) (by omega) (by omega) b x hx; omega
  · have hd := h3 rfl
    have e : dgL 3 b d f = iota ((b : Int) - d + 1) d := rfl
    rw [e]
    refine ⟨by rw [iota_length]; omega, by simp [baseV]; omega, by simp [baseV]; omega, fun x hx => ?_, ?_⟩
    · have := iota_rng _ _ x hx; omega
    · show numR ((b : Int) + 1) 0 (iota ((b : Int) - d + 1) d) = numR ((b : Int) + 1) 1 (iota ((b : Int) - d) d)
      rw [numR_more, iota_map1]
  · have hd := h4 rfl
    have e : dgL 4 b d f = List.replicate d 26 := rfl
    rw [e]
    refine ⟨by simp; omega, by simp [baseV], by simp [baseV], fun x hx => ?_, rfl⟩
    rw [List.mem_replicate] at hx; omega
/-- Whether a contest is sealable. -/
noncomputable def seaB (p q g a : Int) (b c d f : Int) : Bool :=
  grpB p q g && (validCt a b c d f && (decide (gCode a b.toNat d.toNat f ≤ 100000) && (decide (gCode a b.toNat d.toNat f < q) && (!(decide (a = 1 ∨ a = 2)) || (decide (d - c < 8) && decide (d < q))))))
end Go.Proofs.YtpfccboighdcbaaGreat

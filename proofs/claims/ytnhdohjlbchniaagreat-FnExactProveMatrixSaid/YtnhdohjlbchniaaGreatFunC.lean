/- Contracts for slices.IndexFunc and slices.ContainsFunc over pairs of ints. -/
import Derived.Test.YtnhdohjlbchniaaGreatProg
import Derived.Test.YtnhdohjlbchniaaGreatFun
import Derived.Test.YtnhdohjlbchniaaGreatCiph
namespace Go.Proofs.YtnhdohjlbchniaaGreat
open Go.RowKit

/-- Called with a pair of l, function f with the captured values cap answers as p says. -/
def AnsC (f : Nat) (cap : Array Value) (w : World) (l : List (Int × Int)) (p : Int × Int → Bool) : Prop :=
  IsFn f ∧ ∀ x ∈ l, ∀ w', Ext w w' → Calls Tryz.prog f (#[.agg #[.int .i64 x.1, .int .i64 x.2]] ++ cap) w' fun e w'' => e = .returned (.bool (p x)) ∧ Ext w' w''

def idxG {α : Type} (p : α → Bool) (l : List α) : Int := match l.findIdx? p with | some i => (i : Int) | none => -1
theorem idxG_hit {α : Type} {p : α → Bool} {l : List α} {j : Nat} (hj : j < l.length) (hp : p l[j] = true) (h : ∀ i, (hi : i < l.length) → i < j → p l[i] = false) : idxG p l = j := by
  have : l.findIdx? p = some j := by
    rw [List.findIdx?_eq_some_iff_getElem]
    exact ⟨hj, hp, fun i hi => by simp [h i (by omega) hi]⟩
  rw [idxG, this]
theorem idxG_miss {α : Type} {p : α → Bool} {l : List α} (h : ∀ i, (hi : i < l.length) → p l[i] = false) : idxG p l = -1 := by
  have : l.findIdx? p = none := by
    rw [List.findIdx?_eq_none_iff]
    intro x hx
    obtain ⟨i, hi, rfl⟩ := List.getElem_of_mem hx
    simp [h i hi]
  rw [idxG, this]
theorem idxG_neg {α : Type} {p : α → Bool} {l : List α} : decide (0 ≤ idxG p l) = l.any p := by
  unfold idxG
  cases h : l.findIdx? p with
  | none =>
    rw [List.findIdx?_eq_none_iff] at h
    have : l.any p = false := by rw [List.any_eq_false]; intro x hx; simp [h x hx]
    rw [this]; rfl
  | some i =>
    rw [List.findIdx?_eq_some_iff_getElem] at h
    obtain ⟨hi, hp, _⟩ := h
    have : l.any p = true := by rw [List.any_eq_true]; exact ⟨_, List.getElem_mem hi, hp⟩
    rw [this]; simp


set_option maxHeartbeats 1000000 in
theorem IndexFuncCi_any (A : Option Addr) (n c : Nat) (l : List (Int × Int)) (f : Nat) (cap : Array Value) (w : World) (p : Int × Int → Bool) (ha : RdC w A l) (hl : l.length = n) (hn : n ≤ maxLen) (hf : AnsC f cap w l p) :
    Calls Tryz.prog 117 #[.slice A n c, .func (.func f) #[] cap] w fun e w' => e = .returned (.int .i64 (idxG p l)) ∧ Ext w w' := by
  unfold maxLen at hn
  subst hl
  go_enter Tryz.func117, Tryz.ntmps117
  go_wp2
  go_loopw [8] (fun i wr => ∃ j : Nat, j ≤ l.length ∧ i = .int .i64 j ∧ Hid (∀ i, (hi : i < l.length) → i < j → p l[i] = false) ∧ Ext w wr) (fun i _ => l.length - (intOf i).toNat)
  case atStart => exact ⟨0, Nat.zero_le _, rfl, fun i _ h => absurd h (by omega), Ext.refl _⟩
  case round =>
    obtain ⟨j, hj, rfl, hP, hE⟩ := hrel
    by_cases hlt : j < l.length
    · obtain ⟨ad, rfl, hc, hd⟩ := (ha.ext hE).at_ hlt
      have hfn : ∀ args w, (callFunc f args).run Tryz.prog w = .ok (.enter f args) w := hf.1
      go_wp2_with fail
      refine (hf.2 _ (List.getElem_mem hlt) _ hE).mono ?_
      rintro e w1 ⟨rfl, hb⟩
      cases hp : p l[j]
      · have HP := Lib.hid hp
        clear hp
        go_wp2
        go_roundw
        case rel =>
          refine ⟨j + 1, by omega, by go_num, fun i hi hij => ?_, hE.trans hb⟩
          by_cases e : i = j
          · subst e; exact HP.out
          · exact hP.out i hi (by omega)
        case measure => simp [intOf]; omega
      · have HP := Lib.hid hp
        clear hp
        go_wp2
        go_ret
        exact ⟨ret_int (idxG_hit hlt HP.out (fun i hi => hP.out i hi)).symm, hE.trans hb⟩
    · obtain rfl : j = l.length := by omega
      go_wp2
      go_ret
      exact ⟨ret_int (idxG_miss (fun i hi => hP.out i hi hi)).symm, hE⟩

set_option maxHeartbeats 400000 in
theorem ContainsFuncCi_any (A : Option Addr) (n c : Nat) (l : List (Int × Int)) (f : Nat) (cap : Array Value) (w : World) (p : Int × Int → Bool) (ha : RdC w A l) (hl : l.length = n) (hn : n ≤ maxLen) (hf : AnsC f cap w l p) :
    Calls Tryz.prog 106 #[.slice A n c, .func (.func f) #[] cap] w fun e w' => e = .returned (.bool (l.any p)) ∧ Ext w w' := by
  go_enter Tryz.func106, Tryz.ntmps106
  go_wp2_with fail
  refine (IndexFuncCi_any _ _ _ l _ _ _ p ha hl hn hf).mono ?_
  rintro e w1 ⟨rfl, hb⟩
  go_wp2
  go_ret
  exact ⟨ret_bool idxG_neg, hb⟩
end Go.Proofs.YtnhdohjlbchniaaGreat

/- Contracts for the functions that take a function: slices.IndexFunc, slices.ContainsFunc, areAll. -/
import Derived.Test.YtnekpofaflpmdaaGreatDoorProg
import Derived.Test.YtnekpofaflpmdaaGreatDoorIn
import Derived.KernelRfl
namespace Go.Proofs.YtnekpofaflpmdaaGreatDoor
open Go.RowKit

/-- Called with an element of l, from any world that has grown out of w, function f with the captured values cap answers as p says. -/
def IsFn (f : Nat) : Prop := ∀ args w, (callFunc f args).run Tryz.prog w = .ok (.enter f args) w
def Answers (f : Nat) (cap : Array Value) (w : World) (l : List Int) (p : Int → Bool) : Prop :=
  IsFn f ∧ ∀ x ∈ l, ∀ w', Ext w w' → Calls Tryz.prog f (#[.int .i64 x] ++ cap) w' fun e w'' => e = .returned (.bool (p x)) ∧ Ext w' w''
theorem Answers.ext {f : Nat} {cap : Array Value} {w w' : World} {l : List Int} {p : Int → Bool} (h : Answers f cap w l p) (hE : Ext w w') : Answers f cap w' l p :=
  ⟨h.1, fun x hx w'' h' => h.2 x hx w'' (hE.trans h')⟩

def idxOf (p : Int → Bool) (l : List Int) : Int := match l.findIdx? p with | some i => (i : Int) | none => -1

theorem findIdx_hit {p : Int → Bool} {l : List Int} {j : Nat} (hj : j < l.length) (hp : p l[j] = true) (h : ∀ i, (hi : i < l.length) → i < j → p l[i] = false) : idxOf p l = j := by
  have : l.findIdx? p = some j := by
    rw [List.findIdx?_eq_some_iff_getElem]
    exact ⟨hj, hp, fun i hi => by simp [h i (by omega) hi]⟩
  rw [idxOf, this]
theorem findIdx_miss {p : Int → Bool} {l : List Int} (h : ∀ i, (hi : i < l.length) → p l[i] = false) : idxOf p l = -1 := by
  have : l.findIdx? p = none := by
    rw [List.findIdx?_eq_none_iff]
    intro x hx
    obtain ⟨i, hi, rfl⟩ := List.getElem_of_mem hx
    simp [h i hi]
  rw [idxOf, this]
theorem idxOf_neg {p : Int → Bool} {l : List Int} : decide (0 ≤ idxOf p l) = l.any p := by
  unfold idxOf
  cases h : l.findIdx? p with
  | none =>
    rw [List.findIdx?_eq_none_iff] at h
    have : l.any p = false := by rw [List.any_eq_false]; intro x hx; simp [h x hx]
    rw [this]; rfl
  | some i =>
    rw [List.findIdx?_eq_some_iff_getElem] at h
    obtain ⟨hi, hp, _⟩ := h
    have : l.any p = true := by rw [List.any_eq_true]; exact ⟨_, List.getElem_mem hi, hp⟩
    rw [this]; simp
theorem idxOf_lt {p : Int → Bool} {l : List Int} : idxOf p l < 0 ↔ l.any p = false := by
  rw [← idxOf_neg]; simp

set_option maxHeartbeats 400000 in
theorem IndexFunc_any (A : Option Addr) (n c : Nat) (l : List Int) (f : Nat) (cap : Array Value) (w : World) (p : Int → Bool) (ha : RdI w A l) (hl : l.length = n) (hn : n ≤ maxLen) (hf : Answers f cap w l p) :
    Calls Tryz.prog 94 #[.slice A n c, .func (.func f) #[] cap] w fun e w' => e = .returned (.int .i64 (idxOf p l)) ∧ Ext w w' := by
  unfold maxLen at hn
  subst hl
  go_enter Tryz.func94, Tryz.ntmps94
  go_wp2
  go_loopw [8] (fun i wr => ∃ j : Nat, j ≤ l.length ∧ i = .int .i64 j ∧ Hid (∀ i, (hi : i < l.length) → i < j → p l[i] = false) ∧ Ext w wr) (fun i _ => l.length - (intOf i).toNat)
  case atStart => exact ⟨0, Nat.zero_le _, rfl, fun i _ h => absurd h (by omega), Ext.refl _⟩
  case round =>
    obtain ⟨j, hj, rfl, hP, hE⟩ := hrel
    by_cases hlt : j < l.length
    · obtain ⟨ad, rfl, hc⟩ := (ha.ext hE).at_ hlt
      have hfn : ∀ args w, (callFunc f args).run Tryz.prog w = .ok (.enter f args) w := hf.1
      go_wp2_with fail
      refine (hf.2 _ (List.getElem_mem hlt) _ hE).mono ?_
      rintro e w1 ⟨rfl, hb⟩
      cases hp : p l[j]
      · have HP := Lib.hid hp
        clear hp
        go_wp2
        go_roundw
        case rel =>
          refine ⟨j + 1, by omega, by go_num, fun i hi hij => ?_, hE.trans hb⟩
          by_cases e : i = j
          · subst e; exact HP.out
          · exact hP.out i hi (by omega)
        case measure => simp [intOf]; omega
      · have HP := Lib.hid hp
        clear hp
        go_wp2
        go_ret
        exact ⟨ret_int (findIdx_hit hlt HP.out (fun i hi => hP.out i hi)).symm, hE.trans hb⟩
    · obtain rfl : j = l.length := by omega
      go_wp2
      go_ret
      exact ⟨ret_int (findIdx_miss (fun i hi => hP.out i hi hi)).symm, hE⟩

set_option maxHeartbeats 400000 in
theorem ContainsFunc_any (A : Option Addr) (n c : Nat) (l : List Int) (f : Nat) (cap : Array Value) (w : World) (p : Int → Bool) (ha : RdI w A l) (hl : l.length = n) (hn : n ≤ maxLen) (hf : Answers f cap w l p) :
    Calls Tryz.prog 79 #[.slice A n c, .func (.func f) #[] cap] w fun e w' => e = .returned (.bool (l.any p)) ∧ Ext w w' := by
  go_enter Tryz.func79, Tryz.ntmps79
  go_wp2_with fail
  refine (IndexFunc_any _ _ _ l _ _ _ p ha hl hn hf).mono ?_
  rintro e w1 ⟨rfl, hb⟩
  go_wp2
  go_ret
  exact ⟨ret_bool idxOf_neg, hb⟩

set_option maxHeartbeats 400000 in
theorem areAll_any (A : Option Addr) (n c : Nat) (l : List Int) (f : Nat) (cap : Array Value) (w : World) (p : Int → Bool) (ha : RdI w A l) (hl : l.length = n) (hn : n ≤ maxLen) (hf : Answers f cap w l p) :
    Calls Tryz.prog 49 #[.slice A n c, .func (.func f) #[] cap] w fun e w' => e = .returned (.bool (l.all p)) ∧ Ext w w' := by
  have hf1 : ∀ w1, Ext w w1 → ∀ a, Blk w1 a.block 60 #[.func (.func f) #[] cap] → a.off = 0 → a.spot = none → Answers 80 #[.pointer (some a)] w1 l (fun x => !p x) := by
    rintro w1 h1 ⟨g, o, sp⟩ hB rfl rfl
    refine ⟨fun args w => by kernel_rfl, fun x hx w2 h2 => ?_⟩
    have C := (hB.ext h2).cells
    have hfn : ∀ args w, (callFunc f args).run Tryz.prog w = .ok (.enter f args) w := hf.1
    go_enter Tryz.func80, Tryz.ntmps80
    go_wp2_with fail
    refine (hf.2 x hx _ (h1.trans h2)).mono ?_
    rintro e w3 ⟨rfl, hb⟩
    go_wp2
    go_ret
    exact ⟨rfl, hb⟩
  go_enter Tryz.func49, Tryz.ntmps49
  go_wp2_with fail
  refine (ContainsFunc_any _ _ _ l _ _ _ (fun x => !p x) (ha.ext ((Ext.refl w).alloc _)) hl hn (hf1 _ ((Ext.refl w).alloc _) _ (Blk.new w _ _) rfl rfl)).mono ?_
  rintro e w1 ⟨rfl, hb⟩
  go_wp2
  go_ret
  refine ⟨ret_bool ?_, ((Ext.refl w).alloc _).trans hb⟩
  rw [List.all_eq_not_any_not]
end Go.Proofs.YtnekpofaflpmdaaGreatDoor

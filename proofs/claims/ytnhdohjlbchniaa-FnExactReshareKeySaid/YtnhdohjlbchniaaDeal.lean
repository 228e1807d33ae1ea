/- Contracts for shapes and for lists of valid dealings: the program's and the reference's. (Printed by tools/gen_deal.py.) -/
import Derived.Test.YtnhdohjlbchniaaProg
import Derived.Test.YtnhdohjlbchniaaDlG
import Derived.Test.YtnhdohjlbchniaaFunC
namespace Go.Proofs.Ytnhdohjlbchniaa
open Go.RowKit

/-- All dealings of a list are valid, and they are not too many. -/
noncomputable def dlsB (p q : Int) (ds : List (List Int × List Int)) : Bool := decide (ds.length ≤ 7) && ds.all fun d => dlB p q d.1 d.2
set_option maxHeartbeats 1000000 in
theorem sameShape_any (A : Option Addr) (n c : Nat) (B : Option Addr) (m d : Nat) (A' : Option Addr) (n' c' : Nat) (B' : Option Addr) (m' d' : Nat) (w : World) :
    Calls Try.prog 47 #[.agg #[.slice A n c, .slice B m d], .agg #[.slice A' n' c', .slice B' m' d']] w fun en w' => en = .returned (.bool (decide (n = n') && decide (m = m'))) ∧ Ext w w' := by
  have E := (((Ext.refl w).alloc (.cells #[.slice A n c, .slice B m d] 68)).alloc (.cells #[.slice A' n' c', .slice B' m' d'] 68))
  have B0 := ((Blk.new w 68 #[.slice A n c, .slice B m d]).alloc (.cells #[.slice A' n' c', .slice B' m' d'] 68))
  have B1 := (Blk.new (w.alloc (.cells #[.slice A n c, .slice B m d] 68)) 68 #[.slice A' n' c', .slice B' m' d'])
  simp only [World.size_alloc] at B1
  have C0 := B0.cells
  have C1 := B1.cells
  by_cases h1 : n = n'
  · by_cases h2 : m = m'
    · rw [decide_eq_true h1, decide_eq_true h2]
      have e1 : ((n : Int) == (n' : Int)) = true := by simp; omega
      have e2 : ((m : Int) == (m' : Int)) = true := by simp; omega
      clear h1 h2
      go_enter Try.func47, Try.ntmps47
      go_wp2
      go_ret
      exact ⟨rfl, E⟩
    · rw [decide_eq_true h1, decide_eq_false h2]
      have e1 : ((n : Int) == (n' : Int)) = true := by simp; omega
      have e2 : ((m : Int) == (m' : Int)) = false := by simp; omega
      clear h1 h2
      go_enter Try.func47, Try.ntmps47
      go_wp2
      go_ret
      exact ⟨rfl, E⟩
  · rw [decide_eq_false h1, Bool.false_and]
    have e1 : ((n : Int) == (n' : Int)) = false := by simp; omega
    clear h1
    go_enter Try.func47, Try.ntmps47
    go_wp2
    go_ret
    exact ⟨rfl, E⟩
set_option maxHeartbeats 1000000 in
theorem rAlike_any (A : Option Addr) (n c : Nat) (B : Option Addr) (m d : Nat) (A' : Option Addr) (n' c' : Nat) (B' : Option Addr) (m' d' : Nat) (w : World) :
    Calls Try.prog 35 #[.agg #[.slice A n c, .slice B m d], .agg #[.slice A' n' c', .slice B' m' d']] w fun en w' => en = .returned (.bool (decide (n = n') && decide (m = m'))) ∧ Ext w w' := by
  have E := (((Ext.refl w).alloc (.cells #[.slice A n c, .slice B m d] 28)).alloc (.cells #[.slice A' n' c', .slice B' m' d'] 68))
  have B0 := ((Blk.new w 28 #[.slice A n c, .slice B m d]).alloc (.cells #[.slice A' n' c', .slice B' m' d'] 68))
  have B1 := (Blk.new (w.alloc (.cells #[.slice A n c, .slice B m d] 28)) 68 #[.slice A' n' c', .slice B' m' d'])
  simp only [World.size_alloc] at B1
  have C0 := B0.cells
  have C1 := B1.cells
  by_cases h1 : n = n'
  · by_cases h2 : m = m'
    · rw [decide_eq_true h1, decide_eq_true h2]
      have e1 : ((n' : Int) == (n : Int)) = true := by simp; omega
      have e2 : ((m' : Int) == (m : Int)) = true := by simp; omega
      clear h1 h2
      go_enter Try.func35, Try.ntmps35
      go_wp2
      go_ret
      exact ⟨rfl, E⟩
    · rw [decide_eq_true h1, decide_eq_false h2]
      have e1 : ((n' : Int) == (n : Int)) = true := by simp; omega
      have e2 : ((m' : Int) == (m : Int)) = false := by simp; omega
      clear h1 h2
      go_enter Try.func35, Try.ntmps35
      go_wp2
      go_ret
      exact ⟨rfl, E⟩
  · rw [decide_eq_false h1, Bool.false_and]
    have e1 : ((n' : Int) == (n : Int)) = false := by simp; omega
    clear h1
    go_enter Try.func35, Try.ntmps35
    go_wp2
    go_ret
    exact ⟨rfl, E⟩
/-- Called with a dealing of ds, function f with the captured values cap answers as p says. -/
def AnsD (f : Nat) (cap : Array Value) (w : World) (ds : List (List Int × List Int)) (p : List Int × List Int → Bool) : Prop :=
  IsFn f ∧ ∀ x ∈ ds, ∀ (A : Option Addr) (n c : Nat) (B : Option Addr) (m d : Nat) (w' : World), Ext w w' → SlI w' A n c x.1 → SlI w' B m d x.2 → Calls Try.prog f (#[.agg #[.slice A n c, .slice B m d]] ++ cap) w' fun e w'' => e = .returned (.bool (p x)) ∧ Ext w' w''
set_option maxHeartbeats 1000000 in
theorem IndexFuncD_any (A : Option Addr) (n c : Nat) (l : List (List Int × List Int)) (f : Nat) (cap : Array Value) (w : World) (p : List Int × List Int → Bool) (ha : RdD w A l) (hl : l.length = n) (hn : n ≤ maxLen) (hf : AnsD f cap w l p) :
    Calls Try.prog 119 #[.slice A n c, .func (.func f) #[] cap] w fun e w' => e = .returned (.int .i64 (idxG p l)) ∧ Ext w w' := by
  unfold maxLen at hn
  subst hl
  go_enter Try.func119, Try.ntmps119
  go_wp2
  go_loopw [8] (fun i wr => ∃ j : Nat, j ≤ l.length ∧ i = .int .i64 j ∧ Hid (∀ i, (hi : i < l.length) → i < j → p l[i] = false) ∧ Ext w wr) (fun i _ => l.length - (intOf i).toNat)
  case atStart => exact ⟨0, Nat.zero_le _, rfl, fun i _ h => absurd h (by omega), Ext.refl _⟩
  case round =>
    obtain ⟨j, hj, rfl, hP, hE⟩ := hrel
    by_cases hlt : j < l.length
    · obtain ⟨ad, rfl, A1, n1, c1, B1, m1, d1, hc, hd, s1, s2⟩ := (ha.ext hE).at_ hlt
      have hfn : ∀ args w, (callFunc f args).run Try.prog w = .ok (.enter f args) w := hf.1
      go_wp2_with fail
      refine (hf.2 _ (List.getElem_mem hlt) _ _ _ _ _ _ _ hE s1 s2).mono ?_
      rintro e w1 ⟨rfl, hb⟩
      cases hp : p l[j]
      · have HP := Lib.hid hp
        clear hp
        go_wp2
        go_roundw
        case rel =>
          refine ⟨j + 1, by omega, by go_num, fun i hi hij => ?_, hE.trans hb⟩
          by_cases e : i = j
          · subst e; exact HP.out
          · exact hP.out i hi (by omega)
        case measure => simp [intOf]; omega
      · have HP := Lib.hid hp
        clear hp
        go_wp2
        go_ret
        exact ⟨ret_int (idxG_hit hlt HP.out (fun i hi => hP.out i hi)).symm, hE.trans hb⟩
    · obtain rfl : j = l.length := by omega
      go_wp2
      go_ret
      exact ⟨ret_int (idxG_miss (fun i hi => hP.out i hi hi)).symm, hE⟩
set_option maxHeartbeats 400000 in
theorem ContainsFuncD_any (A : Option Addr) (n c : Nat) (l : List (List Int × List Int)) (f : Nat) (cap : Array Value) (w : World) (p : List Int × List Int → Bool) (ha : RdD w A l) (hl : l.length = n) (hn : n ≤ maxLen) (hf : AnsD f cap w l p) :
    Calls Try.prog 81 #[.slice A n c, .func (.func f) #[] cap] w fun e w' => e = .returned (.bool (l.any p)) ∧ Ext w w' := by
  go_enter Try.func81, Try.ntmps81
  go_wp2_with fail
  refine (IndexFuncD_any _ _ _ l _ _ _ p ha hl hn hf).mono ?_
  rintro e w1 ⟨rfl, hb⟩
  go_wp2
  go_ret
  exact ⟨ret_bool idxG_neg, hb⟩
theorem hasDealings_ans (p q g : Int) (w : World) (k : Nat) (ds : List (List Int × List Int)) (h : GrpB p q) (hB : Blk w k 31 #[.int .i64 p, .int .i64 q, .int .i64 g]) : AnsD 82 #[.pointer (some ⟨k, 0, none⟩)] w ds (fun d => !dlB p q d.1 d.2) := by
  refine ⟨fun args w => by kernel_rfl, fun x _ A n c B m d w' hE s1 s2 => ?_⟩
  have E := (Ext.refl w').alloc (.cells #[.slice A n c, .slice B m d] 68)
  have B0 := Blk.new w' 68 #[.slice A n c, .slice B m d]
  have C0 := B0.cells
  have C1 := (hB.ext (hE.trans E)).cells
  obtain ⟨v, hv⟩ : ∃ v, dlB p q x.1 x.2 = v := ⟨_, rfl⟩
  show Calls Try.prog _ _ _ (fun e w'' => e = .returned (.bool (!dlB p q x.1 x.2)) ∧ Ext w' w'')
  rw [hv]
  have HV := Lib.hid hv
  clear hv
  go_enter Try.func82, Try.ntmps82
  go_wp2_with fail
  refine (hasDealing_any p q g A n c x.1 B m d x.2 _ h (s1.ext E) (s2.ext E)).mono ?_
  rintro en w2 ⟨he, hb⟩
  rw [HV.out] at he; subst he
  go_wp2
  go_ret
  exact ⟨rfl, E.trans hb⟩
set_option maxHeartbeats 1000000 in
theorem hasDealings_any (p q g : Int) (A : Option Addr) (n c : Nat) (ds : List (List Int × List Int)) (w : World) (h : GrpB p q) (ha : RdD w A ds) (hl : ds.length = n) (hn : n ≤ maxLen) :
    Calls Try.prog 44 #[.agg #[.int .i64 p, .int .i64 q, .int .i64 g], .slice A n c] w fun en w' => en = .returned (.bool (dlsB p q ds)) ∧ Ext w w' := by
  have E := (Ext.refl w).alloc (.cells #[.int .i64 p, .int .i64 q, .int .i64 g] 31)
  have B0 := Blk.new w 31 #[.int .i64 p, .int .i64 q, .int .i64 g]
  have hf := hasDealings_ans p q g _ _ ds h B0
  by_cases h7 : n ≤ 7
  · have hv : dlsB p q ds = !(ds.any fun d => !dlB p q d.1 d.2) := by
      unfold dlsB
      rw [decide_eq_true (by omega), Bool.true_and, List.all_eq_not_any_not]
    have HV := Lib.hid hv
    clear hv
    go_enter Try.func44, Try.ntmps44
    go_wp2_with fail
    refine (ContainsFuncD_any A n c ds _ _ _ _ (ha.ext E) hl hn hf).mono ?_
    rintro en w2 ⟨rfl, hb⟩
    go_wp2
    go_ret
    exact ⟨ret_bool HV.out.symm, E.trans hb⟩
  · have hv : dlsB p q ds = false := by
      unfold dlsB
      rw [decide_eq_false (by omega), Bool.false_and]
    have HV := Lib.hid hv
    clear hv
    go_enter Try.func44, Try.ntmps44
    go_wp2
    go_ret
    exact ⟨ret_bool HV.out.symm, E⟩
set_option maxHeartbeats 2000000 in
theorem rList_any (p q g : Int) (A : Option Addr) (n c : Nat) (ds : List (List Int × List Int)) (w : World) (h : GrpB p q) (ha : RdD w A ds) (hl : ds.length = n) (hn : n ≤ maxLen) :
    Calls Try.prog 30 #[.agg #[.int .i64 p, .int .i64 q, .int .i64 g], .slice A n c] w fun en w' => en = .returned (.bool (dlsB p q ds)) ∧ Ext w w' := by
  subst hl
  unfold maxLen at hn
  have E := (Ext.refl w).alloc (.cells #[.int .i64 p, .int .i64 q, .int .i64 g] 31)
  have B0 := Blk.new w 31 #[.int .i64 p, .int .i64 q, .int .i64 g]
  go_enter Try.func30, Try.ntmps30
  go_wp2
  generalize w.alloc (.cells #[.int .i64 p, .int .i64 q, .int .i64 g] 31) = Wb at *
  go_loopw [9] (fun i wr => ∃ j : Nat, j ≤ ds.length ∧ i = .int .i64 j ∧ Hid (∀ i, (hi : i < ds.length) → i < j → dlB p q ds[i].1 ds[i].2 = true) ∧ Ext Wb wr) (fun i _ => ds.length - (intOf i).toNat)
  case atStart => exact ⟨0, Nat.zero_le _, rfl, fun i _ h => absurd h (by omega), Ext.refl _⟩
  case round =>
    obtain ⟨j, hj, rfl, hP, hE⟩ := hrel
    by_cases hlt : j < ds.length
    · obtain ⟨ad, rfl, A1, n1, c1, A2, m1, d1, hc, hd, s1, s2⟩ := (ha.ext (E.trans hE)).at_ hlt
      have E2 := hE.alloc (.cells #[.slice A1 n1 c1, .slice A2 m1 d1] 68)
      have B2 := Blk.new wr 68 #[.slice A1 n1 c1, .slice A2 m1 d1]
      have C0 := (B0.ext E2).cells
      have C2 := B2.cells
      have hx := (Ext.refl wr).alloc (.cells #[.slice A1 n1 c1, .slice A2 m1 d1] 68)
      cases hp : dlB p q ds[j].1 ds[j].2
      · have HP := Lib.hid hp
        have hv : dlsB p q ds = false := by
          have : (ds.all fun d => dlB p q d.1 d.2) = false := by
            rw [List.all_eq_false]
            exact ⟨ds[j], List.getElem_mem hlt, by rw [hp]; simp⟩
          rw [dlsB, this, Bool.and_false]
        have HV := Lib.hid hv
        clear hp hv
        go_wp2_with fail
        refine (sDealing_any p q g A1 n1 c1 _ A2 m1 d1 _ _ h (s1.ext hx) (s2.ext hx)).mono ?_
        rintro en w3 ⟨he, hb⟩
        rw [HP.out] at he; subst he
        go_wp2
        go_ret
        exact ⟨ret_bool HV.out.symm, (E.trans E2).trans hb⟩
      · have HP := Lib.hid hp
        clear hp
        go_wp2_with fail
        refine (sDealing_any p q g A1 n1 c1 _ A2 m1 d1 _ _ h (s1.ext hx) (s2.ext hx)).mono ?_
        rintro en w3 ⟨he, hb⟩
        rw [HP.out] at he; subst he
        go_wp2
        go_roundw
        case rel =>
          refine ⟨j + 1, by omega, by go_num, fun i hi hij => ?_, E2.trans hb⟩
          by_cases e : i = j
          · subst e; exact HP.out
          · exact hP.out i hi (by omega)
        case measure => simp [intOf]; omega
    · obtain rfl : j = ds.length := by omega
      have hv : dlsB p q ds = decide ((ds.length : Int) ≤ 7) := by
        have : (ds.all fun d => dlB p q d.1 d.2) = true := by
          rw [List.all_eq_true]
          intro x hx
          obtain ⟨i, hi, rfl⟩ := List.getElem_of_mem hx
          exact hP.out i hi hi
        rw [dlsB, this, Bool.and_true, decide_eq_decide]
        omega
      have HV := Lib.hid hv
      clear hv
      go_wp2
      all_goals
        go_ret
        exact ⟨by rw [HV.out]; first | rfl | simp [*], E.trans hE⟩
end Go.Proofs.Ytnhdohjlbchniaa

/- The lists that a mix by a matrix takes, the program's test. -/
import Derived.Test.YtnhdohjlbchniaaGreatProg
import Derived.Test.YtnhdohjlbchniaaGreatIn
import Derived.Test.YtnhdohjlbchniaaGreatEncG
import Derived.Test.YtnhdohjlbchniaaGreatFunC
namespace Go.Proofs.YtnhdohjlbchniaaGreat
open Go.RowKit
set_option linter.unusedVariables false
set_option linter.unusedSimpArgs false

theorem hasCiphers_ans (p q g : Int) (g0 : Nat) (l : List (Int × Int)) (w : World) (h : GrpB p q) (B0 : Blk w g0 33 #[.int .i64 p, .int .i64 q, .int .i64 g]) :
    AnsC 107 #[.pointer (some ⟨g0, 0, none⟩)] w l (fun c => !(ciB p q c)) := by
  refine ⟨fun args w => by kernel_rfl, fun x _ w' hE => ?_⟩
  obtain ⟨a, b⟩ := x
  have B1 := (B0.ext hE).alloc (.cells #[.int .i64 a, .int .i64 b] 54)
  have C1 := B1.cells
  obtain ⟨v, hv⟩ : ∃ v, (elB p q a && elB p q b) = v := ⟨_, rfl⟩
  have hv2 : ciB p q (a, b) = v := hv
  simp only [hv2]
  have HV := Lib.hid hv
  clear hv hv2
  go_enter Tryz.func107, Tryz.ntmps107
  go_wp2_with fail
  refine (hasCipher_any p q g a b _ h).mono ?_
  rintro en w2 ⟨he, hb⟩
  rw [HV.out] at he; subst he
  go_wp2
  go_ret
  exact ⟨rfl, ((Ext.refl w').alloc _).trans hb⟩
set_option maxHeartbeats 1000000 in
theorem hasCiphers_any (p q g : Int) (A : Option Addr) (n c : Nat) (l : List (Int × Int)) (w : World) (h : GrpB p q) (ha : RdC w A l) (hl : l.length = n) (hn : n ≤ maxLen) :
    Calls Tryz.prog 89 #[.agg #[.int .i64 p, .int .i64 q, .int .i64 g], .slice A n c] w fun e w' => e = .returned (.bool (decide (n ≤ 24) && l.all (ciB p q))) ∧ Ext w w' := by
  have E := (Ext.refl w).alloc (.cells #[.int .i64 p, .int .i64 q, .int .i64 g] 33)
  have B0 := Blk.new w 33 #[.int .i64 p, .int .i64 q, .int .i64 g]
  have hf := hasCiphers_ans p q g _ l _ h B0
  have hno : (!(l.any fun c => !(ciB p q c))) = l.all (ciB p q) := by
    rw [List.any_eq_not_all_not]; simp
  by_cases h24 : n ≤ 24
  · rw [decide_eq_true h24, Bool.true_and]
    have hz : (n : Int) ≤ 24 := by omega
    obtain ⟨v, hv⟩ : ∃ v, (l.any fun c => !(ciB p q c)) = v := ⟨_, rfl⟩
    have HV := Lib.hid hv
    rw [hv] at hno
    have HN := Lib.hid hno
    clear hv hno
    go_enter Tryz.func89, Tryz.ntmps89
    go_wp2_with fail
    refine (ContainsFuncCi_any A n c l _ _ _ _ (ha.ext E) hl hn hf).mono ?_
    rintro en w2 ⟨he, hb⟩
    rw [HV.out] at he; subst he
    go_wp2
    go_ret
    exact ⟨ret_bool HN.out, E.trans hb⟩
  · rw [decide_eq_false h24, Bool.false_and]
    have hz : ¬ (n : Int) ≤ 24 := by omega
    clear hno hf
    go_enter Tryz.func89, Tryz.ntmps89
    go_wp2
    go_ret
    exact ⟨rfl, E⟩
/-- The lists that a mix by a matrix takes. -/
noncomputable def amB (p q : Int) (l : List (Int × Int)) : Bool := inR l.length 1 12 && (decide (l.length ≤ 24) && l.all (ciB p q))
set_option maxHeartbeats 1000000 in
theorem areMixed_any (p q g : Int) (A : Option Addr) (n c : Nat) (l : List (Int × Int)) (w : World) (h : GrpB p q) (ha : RdC w A l) (hl : l.length = n) (hn : n ≤ maxLen) :
    Calls Tryz.prog 53 #[.agg #[.int .i64 p, .int .i64 q, .int .i64 g], .slice A n c] w fun e w' => e = .returned (.bool (amB p q l)) ∧ Ext w w' := by
  have HL := Lib.hid hl
  have hE := (Ext.refl w).alloc (.cells #[.int .i64 p, .int .i64 q, .int .i64 g] 33)
  have C := (Blk.new w 33 #[.int .i64 p, .int .i64 q, .int .i64 g]).cells
  have hn9 : n ≤ 9223372036854775807 := by unfold maxLen at hn; omega
  clear hl
  obtain ⟨z, hz⟩ : ∃ z, (decide (n ≤ 24) && l.all (ciB p q)) = z := ⟨_, rfl⟩
  cases h1 : inR (n : Int) 1 12
  · have HO : Hid (amB p q l = false) := by show _ = _; unfold amB; rw [HL.out, h1, Bool.false_and]
    have H1 := Lib.hid h1
    clear h1 hz
    go_enter Tryz.func53, Tryz.ntmps53
    go_wp2_with fail
    refine (within_any _ _ _ _).mono ?_
    rintro e w1 ⟨he, rfl⟩
    rw [H1.out] at he; subst he
    go_wp2
    go_ret
    exact ⟨by rw [HO.out]; rfl, hE⟩
  · have HO : Hid (amB p q l = z) := by show _ = _; unfold amB; rw [HL.out, h1, Bool.true_and, hz]
    have H1 := Lib.hid h1
    have HZ := Lib.hid hz
    clear h1 hz
    go_enter Tryz.func53, Tryz.ntmps53
    go_wp2_with fail
    refine (within_any _ _ _ _).mono ?_
    rintro e w1 ⟨he, rfl⟩
    rw [H1.out] at he; subst he
    go_wp2_with fail
    refine (hasCiphers_any p q g A n c l _ h (ha.ext hE) HL.out hn).mono ?_
    rintro e w2 ⟨he, hb⟩
    rw [HZ.out] at he; subst he
    go_wp2
    go_ret
    exact ⟨by rw [HO.out]; rfl, hE.trans hb⟩
end Go.Proofs.YtnhdohjlbchniaaGreat

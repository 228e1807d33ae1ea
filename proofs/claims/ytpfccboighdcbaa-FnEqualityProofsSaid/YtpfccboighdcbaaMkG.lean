/- Contracts for MakeGroup: the program's and the reference's. -/
import Derived.Test.YtpfccboighdcbaaProg
import Derived.Test.YtpfccboighdcbaaGrpC
import Derived.Test.YtpfccboighdcbaaMem
import Derived.Deep.RegionHeld3
namespace Go.Proofs.Ytpfccboighdcbaa
open Go.RowKit
set_option linter.unusedVariables false
set_option linter.unusedSimpArgs false

/-- P is the prime of order q's group: the least prime among q t + 1. -/
def IsMk (q P : Nat) : Prop := ∃ t, 1 ≤ t ∧ P = q * t + 1 ∧ P ≤ 2000000000 ∧ PrimeN P ∧ ∀ t', 1 ≤ t' → t' < t → ¬ PrimeN (q * t' + 1)
/-- h is the least number from 2 on whose k-th power is not 1. -/
def IsGen (P k h : Nat) : Prop := 2 ≤ h ∧ h ^ k % P ≠ 1 ∧ ∀ j, 2 ≤ j → j < h → j ^ k % P = 1
theorem IsMk.uniq {q P P' : Nat} (hq : 1 ≤ q) (h : IsMk q P) (h' : IsMk q P') : P = P' := by
  obtain ⟨t, t1, rfl, _, hp, hl⟩ := h
  obtain ⟨t', t1', rfl, _, hp', hl'⟩ := h'
  rcases Nat.lt_trichotomy t t' with h | h | h
  · exact absurd hp (hl' t t1 h)
  · rw [h]
  · exact absurd hp' (hl t' t1' h)
theorem IsGen.uniq {P k h h' : Nat} (a : IsGen P k h) (b : IsGen P k h') : h = h' := by
  rcases Nat.lt_trichotomy h h' with g | g | g
  · exact absurd (b.2.2 h a.1 g) a.2.1
  · exact g
  · exact absurd (a.2.2 h' b.1 g) b.2.1
/-- What MakeGroup returns. -/
def MkOut (q : Int) (v : Value) (ok : Bool) : Prop :=
  (inR q 2 1000000 && primeB q) = true ∧ (∃ P t h : Nat, IsMk q.toNat P ∧ P = q.toNat * t + 1 ∧ IsGen P t h ∧ v = .agg #[.int .i64 P, .int .i64 q, .int .i64 (powM h t P)] ∧ ok = true) ∨
  ((inR q 2 1000000 && primeB q) = false ∨ ¬ ∃ P, IsMk q.toNat P) ∧ v = .agg #[.int .i64 0, .int .i64 0, .int .i64 0] ∧ ok = false
def MkPost (q : Int) (w : World) (e : Ending) (w' : World) : Prop := ∃ v ok, e = .returned (.tuple #[v, .bool ok]) ∧ MkOut q v ok ∧ Ext w w'
theorem MkOut.uniq {q : Int} {v v' : Value} {o o' : Bool} (a : MkOut q v o) (b : MkOut q v' o') : v = v' ∧ o = o' := by
  have hq : (inR q 2 1000000 && primeB q) = true → 1 ≤ q.toNat := fun h => by
    rw [Bool.and_eq_true] at h
    have := inR_iff.1 h.1
    omega
  rcases a with ⟨a0, P, t, h, a1, a2, a3, rfl, rfl⟩ | ⟨a1, rfl, rfl⟩
  · rcases b with ⟨b0, P', t', h', b1, b2, b3, rfl, rfl⟩ | ⟨b1, rfl, rfl⟩
    · obtain rfl := IsMk.uniq (hq a0) a1 b1
      have hq1 := hq a0
      have ht : t = t' := by
        have h1 : q.toNat * t = q.toNat * t' := by omega
        exact Nat.eq_of_mul_eq_mul_left (by omega) h1
      subst ht
      obtain rfl := a3.uniq b3
      exact ⟨rfl, rfl⟩
    · rcases b1 with b1 | b1
      · rw [a0] at b1; cases b1
      · exact absurd ⟨P, a1⟩ b1
  · rcases b with ⟨b0, P', t', h', b1, b2, b3, rfl, rfl⟩ | ⟨b1, rfl, rfl⟩
    · rcases a1 with a1 | a1
      · rw [b0] at a1; cases a1
      · exact absurd ⟨P', b1⟩ a1
    · exact ⟨rfl, rfl⟩
/-- At the return: a struct of three ints that lies in a cell, and a bool. -/
theorem ret_grp {fn : Func} {w : World} {g : Nat} {t u : Tmp} {a b c : Int} {o : Bool} {tm : Array Value} {Q : Ending → World → Prop}
    (B : Blk w g 38 #[.int .i64 a, .int .i64 b, .int .i64 c])
    (h : fn.results = #[.cell t 38, .tmp u]) (ht : tm.getD t undef = .pointer (some ⟨g, 0, none⟩)) (hu : tm.getD u undef = .bool o) (hQ : Q (.returned (.tuple #[.agg #[.int .i64 a, .int .i64 b, .int .i64 c], .bool o])) w) :
    bodyPost Try.prog fn Q .ret { tmps := tm, defers := [] } w := by
  have C := B.cells
  refine bodyPost_ret (v := .tuple #[.agg #[.int .i64 a, .int .i64 b, .int .i64 c], .bool o]) ?_ rfl hQ
  have ht' : (tm[t]?).getD undef = .pointer (some ⟨g, 0, none⟩) := by simpa using ht
  have hu' : (tm[u]?).getD undef = .bool o := by simpa using hu
  simp [results, h, ht', hu', go_sem, C]
theorem mk_bd {q t : Nat} (hq : 2 ≤ q) (hP : PrimeN (q * t + 1)) (ht : 1 ≤ t) : t + 1 < q * t + 1 := by
  have : 2 * t ≤ q * t := Nat.mul_le_mul_right _ hq
  omega

set_option maxRecDepth 100000 in
set_option maxHeartbeats 4000000 in
theorem sMk_yes (q : Nat) (w : World) (h1 : inR (q : Int) 2 1000000 = true) (h2 : primeB (q : Int) = true) :
    Calls Try.prog 223 #[.int .i64 q] w fun e w' => MkPost q w e w' := by
  have hq := inR_iff.1 h1
  have hg : (inR (q : Int) 2 1000000 && primeB (q : Int)) = true := by rw [h1, h2]; rfl
  have HG := Lib.hid hg
  have H1 := Lib.hid h1
  have H2 := Lib.hid h2
  have E := (Ext.refl w).alloc (.cells #[.int .i64 0, .int .i64 0, .int .i64 0] 38)
  have B := Blk.new w 38 #[.int .i64 0, .int .i64 0, .int .i64 0]
  have hq0 : ((q : Int) == 0) = false := by simp; omega
  clear h1 h2 hg
  go_enter Try.func223, Try.ntmps223
  go_wp2_with fail
  refine (l1In_any _ _ _ _).mono ?_
  rintro e w1 ⟨he, rfl⟩
  rw [H1.out] at he; subst he
  go_wp2_with fail
  refine (nPrime_any _ _ (by omega)).mono ?_
  rintro e w1 ⟨he, rfl⟩
  rw [H2.out] at he; subst he
  have C := B.cells
  have F := B.frozen
  go_wp2
  go_loop [4] (fun s => ∃ P t : Nat, s = .int .i64 P ∧ Hid (P = q * t + 1) ∧ 1 ≤ t ∧ P ≤ 2001000000 ∧ 3 ≤ P ∧ Hid (∀ t', 1 ≤ t' → t' < t → ¬ PrimeN (q * t' + 1))) (fun s => 2000000001 - (intOf s).toNat)
  case atStart => exact ⟨q + 1, 1, by go_num, (by show q + 1 = q * 1 + 1; omega), Nat.le_refl _, by omega, by omega, fun t' h1 h2 => absurd h2 (by omega)⟩
  case round =>
    obtain ⟨P, t, rfl, HP, ht, hPb, hP3, HL⟩ := hrel
    by_cases hle : P ≤ 2000000000
    · cases hp : primeB (P : Int)
      · have HN : Hid (∀ t', 1 ≤ t' → t' < t + 1 → ¬ PrimeN (q * t' + 1)) := fun t' g1 g2 => by
          by_cases e : t' = t
          · subst e; rw [← HP.out]; have := primeB_iff'.1 hp; simpa using this
          · exact HL.out t' g1 (by omega)
        have HPP := Lib.hid hp
        clear hp
        go_wp2_with fail
        refine (nPrime_any _ _ (by omega)).mono ?_
        rintro e w1 ⟨he, rfl⟩
        rw [HPP.out] at he; subst he
        go_wp2
        go_round
        case rel => exact ⟨P + q, t + 1, by go_num, (by show P + q = q * (t + 1) + 1; rw [HP.out, Nat.mul_add]; omega), by omega, by omega, by omega, HN.out⟩
        case measure => simp [intOf]; omega
      · have hpn : PrimeN P := by have := primeB_iff.1 hp; simpa using this
        have hmk : IsMk q P := ⟨t, ht, HP.out, hle, hpn, HL.out⟩
        have htb : t + 1 < P := by have h9 := mk_bd (q := q) (t := t) (by omega) (by rw [← HP.out]; exact hpn) ht; rw [← HP.out] at h9; exact h9
        obtain ⟨h0, g1, g2, g3⟩ := nonroot hpn ht htb
        have hdv : ((P : Int) - 1) / (q : Int) = (t : Int) := by
          have h9 := HP.out
          rw [show (P : Int) - 1 = (q : Int) * (t : Int) by rw [← Int.natCast_mul]; omega, Int.mul_ediv_cancel_left _ (by omega)]
        have HMK := Lib.hid hmk
        have HPP := Lib.hid hp
        have G3 := Lib.hid g3
        clear hp hpn hmk g3 HL
        go_wp2_with fail
        refine (nPrime_any _ _ (by omega)).mono ?_
        rintro e w1 ⟨he, rfl⟩
        rw [HPP.out] at he; subst he
        go_wp2_with fail
        go_loop [5] (fun s => ∃ h : Nat, s = .int .i64 h ∧ 2 ≤ h ∧ h ≤ h0 ∧ Hid (∀ j, 2 ≤ j → j < h → j ^ t % P = 1)) (fun s => h0 - (intOf s).toNat)
        case atStart => exact ⟨2, rfl, by omega, by omega, fun j a b => absurd b (by omega)⟩
        case round =>
          obtain ⟨h, rfl, hh2, hh0, HJ⟩ := hrel
          have hpw := powM_nat h t P
          by_cases hx : h ^ t % P = 1
          · have hne : h < h0 := Nat.lt_of_le_of_ne hh0 (fun e => G3.out (by rw [← e]; exact hx))
            have hpe : (powM h t P == 1) = true := by rw [hpw, hx]; rfl
            have HX := Lib.hid hx
            clear hx hpw
            go_wp2_with fail
            refine (nPower_any h t P _ (by omega) (by omega) (by omega) (by omega) (by omega) (by omega)).mono ?_
            rintro e w1 ⟨rfl, rfl⟩
            go_wp2
            go_round
            case rel =>
              refine ⟨h + 1, by go_num, by omega, by omega, fun j a b => ?_⟩
              by_cases e : j = h
              · subst e; exact HX.out
              · exact HJ.out j a (by omega)
            case measure => simp [intOf]; omega
          · have hpe : (powM h t P == 1) = false := by rw [hpw, beq_eq_false_iff_ne]; intro e; exact hx (by exact_mod_cast e)
            have HX := Lib.hid hx
            clear hx hpw
            go_wp2_with fail
            refine (nPower_any h t P _ (by omega) (by omega) (by omega) (by omega) (by omega) (by omega)).mono ?_
            rintro e w1 ⟨rfl, rfl⟩
            go_wp2_with fail
            refine (nPower_any h t P _ (by omega) (by omega) (by omega) (by omega) (by omega) (by omega)).mono ?_
            rintro e w1 ⟨rfl, rfl⟩
            go_wp2
            refine ret_grp (Blk.new w _ _) rfl rfl rfl ?_
            exact ⟨_, _, rfl, .inl ⟨HG.out, P, t, h, by rw [Int.toNat_natCast]; exact HMK.out, by rw [Int.toNat_natCast]; exact HP.out, ⟨hh2, HX.out, HJ.out⟩, rfl, rfl⟩, (Ext.refl w).alloc _⟩
    · have hno : ¬ ∃ P, IsMk (q : Int).toNat P := by
        rintro ⟨P', t', g1, g2, g3, g4, _⟩
        rw [Int.toNat_natCast] at g2
        have h9 := HP.out
        have hlt : t' < t := Nat.lt_of_not_le fun hh => by
          have := Nat.mul_le_mul_left q hh
          omega
        exact HL.out t' g1 hlt (by rw [← g2]; exact g4)
      have HNO := Lib.hid hno
      have hgt : ¬ (P : Int) ≤ 2000000000 := by omega
      clear hno hle
      go_wp2
      refine ret_grp (Blk.new w _ _) rfl rfl rfl ?_
      exact ⟨_, _, rfl, .inr ⟨.inr HNO.out, rfl, rfl⟩, (Ext.refl w).alloc _⟩
set_option maxHeartbeats 1000000 in
theorem sMakeGroup_any (q : Int) (w : World) :
    Calls Try.prog 223 #[.int .i64 q] w fun e w' => MkPost q w e w' := by
  have E := (Ext.refl w).alloc (.cells #[.int .i64 0, .int .i64 0, .int .i64 0] 38)
  cases h1 : inR q 2 1000000
  · have ho : MkOut q (.agg #[.int .i64 0, .int .i64 0, .int .i64 0]) false := .inr ⟨.inl (by rw [h1]; rfl), rfl, rfl⟩
    go_enter Try.func223, Try.ntmps223
    go_wp2_with fail
    refine (l1In_any _ _ _ _).mono ?_
    rintro e w1 ⟨he, rfl⟩
    rw [h1] at he; subst he
    go_wp2
    refine ret_grp (Blk.new w _ _) rfl rfl rfl ?_
    exact ⟨_, _, rfl, ho, E⟩
  have hb := inR_iff.1 h1
  cases h2 : primeB q
  · have ho : MkOut q (.agg #[.int .i64 0, .int .i64 0, .int .i64 0]) false := .inr ⟨.inl (by rw [h1, h2]; rfl), rfl, rfl⟩
    have H2 := Lib.hid h2
    clear h2
    go_enter Try.func223, Try.ntmps223
    go_wp2_with fail
    refine (l1In_any _ _ _ _).mono ?_
    rintro e w1 ⟨he, rfl⟩
    rw [h1] at he; subst he
    go_wp2_with fail
    refine (nPrime_any _ _ (by omega)).mono ?_
    rintro e w1 ⟨he, rfl⟩
    rw [H2.out] at he; subst he
    go_wp2
    refine ret_grp (Blk.new w _ _) rfl rfl rfl ?_
    exact ⟨_, _, rfl, ho, E⟩
  obtain ⟨Q, rfl⟩ := Int.eq_ofNat_of_zero_le (show 0 ≤ q by omega)
  exact sMk_yes Q w h1 h2

end Go.Proofs.Ytpfccboighdcbaa

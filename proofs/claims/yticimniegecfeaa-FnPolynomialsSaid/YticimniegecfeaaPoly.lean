/- Contracts for polynomials: guards, values, the program's sum. -/
import Derived.Test.YticimniegecfeaaProg
import Derived.Test.YticimniegecfeaaRes
import Derived.Test.YticimniegecfeaaOwn
import Derived.Test.YticimniegecfeaaGood
import Derived.Test.YticimniegecfeaaPolyP
namespace Go.Proofs.Yticimniegecfeaa
open Go.RowKit

noncomputable def polyB (q : Int) (f : List Int) : Bool := fieldB q && (decide (f.length ≤ 24) && allR f 0 (q - 1))
theorem polyB_iff {q : Int} {f : List Int} : polyB q f = true ↔ fieldB q = true ∧ f.length ≤ 24 ∧ ∀ x ∈ f, 0 ≤ x ∧ x ≤ q - 1 := by
  unfold polyB
  rw [Bool.and_eq_true, Bool.and_eq_true, allR_iff, decide_eq_true_iff]

set_option maxHeartbeats 1000000 in
theorem isPoly_any (q : Int) (A : Option Addr) (n c : Nat) (l : List Int) (w : World) (ha : RdI w A l) (hl : l.length = n) (hn : n ≤ 1000000) :
    Calls Try.prog 144 #[.int .i64 q, .slice A n c] w fun e w' => e = .returned (.bool (polyB q l)) ∧ Ext w w' := by
  obtain ⟨t, ht⟩ : ∃ t, polyB q l = t := ⟨_, rfl⟩
  rw [ht]
  cases h1 : fieldB q
  · have e1 : t = false := by rw [← ht]; simp [polyB, h1]
    subst e1
    have HT := Lib.hid ht
    clear ht
    go_enter Try.func144, Try.ntmps144
    go_wp2_with fail
    refine (isField_any _ _).mono ?_
    rintro e w1 ⟨he, rfl⟩
    rw [h1] at he; subst he
    go_wp2
    go_ret
    exact ⟨rfl, Ext.refl _⟩
  have hb := fieldB_rng h1
  by_cases h2 : n ≤ 24
  · have hlt : t = allR l 0 (q - 1) := by rw [← ht]; simp [polyB, h1, hl, h2]
    subst hlt
    have H1 := Lib.hid h1
    clear ht h1
    go_enter Try.func144, Try.ntmps144
    go_wp2_with fail
    refine (isField_any _ _).mono ?_
    rintro e w1 ⟨he, rfl⟩
    rw [H1.out] at he; subst he
    go_wp2_with fail
    refine (areBelow_any A n c l q _ ha hl (by unfold maxLen; omega) (by omega) (by omega)).mono ?_
    rintro e w1 ⟨rfl, hE⟩
    go_wp2
    go_ret
    exact ⟨rfl, hE⟩
  · have e1 : t = false := by rw [← ht]; simp [polyB, h1, hl, h2]
    subst e1
    have H1 := Lib.hid h1
    clear ht h1
    go_enter Try.func144, Try.ntmps144
    go_wp2_with fail
    refine (isField_any _ _).mono ?_
    rintro e w1 ⟨he, rfl⟩
    rw [H1.out] at he; subst he
    go_wp2
    go_ret
    exact ⟨rfl, Ext.refl _⟩
set_option maxHeartbeats 1000000 in
theorem evalPoly_any (q x : Int) (A : Option Addr) (n c : Nat) (f : List Int) (w : World) (ha : RdI w A f) (hl : f.length = n) (hn : n ≤ 1000000) (hq : 2 ≤ q) (hq2 : q ≤ 2000000000) (hf : ∀ y ∈ f, 0 ≤ y ∧ y ≤ q - 1) (hx : 0 ≤ x ∧ x ≤ q - 1) :
    Calls Try.prog 150 #[.int .i64 q, .slice A n c, .int .i64 x] w fun e w' => e = .returned (.int .i64 (ev f x % q)) ∧ Ext w w' := by
  subst hl
  have HF := Lib.hid hf
  have h0 : (q == 0) = false := by simp; omega
  clear hf
  go_enter Try.func150, Try.ntmps150
  go_wp2
  go_loopw [7, 8] (fun o i wr => ∃ (j N : Nat) (s z : Int), j ≤ f.length ∧ i = .int .i64 z ∧ z = (j : Int) - 1 ∧ o = .int .i64 s ∧ wr = w.drewN N ∧ 0 ≤ s ∧ s < q ∧ Hid (s = ev (f.drop j) x % q)) (fun _ i _ => (intOf i + 1).toNat)
  case atStart => exact ⟨f.length, 0, 0, (f.length : Int) - 1, Nat.le_refl _, rfl, rfl, rfl, rfl, by omega, by omega, by rw [Hid, List.drop_length]; simp [ev]⟩
  case round =>
    obtain ⟨j, N, s, z, hj, rfl, hz, rfl, rfl, hs1, hs2, HS⟩ := hrel
    rcases j with _ | k
    · obtain rfl : z = -1 := by omega
      clear hz
      go_wp2
      go_ret
      exact ⟨ret_int HS.out, (Ext.refl w).drewN _⟩
    · obtain rfl : z = (k : Int) := by omega
      clear hz
      have hlt : k < f.length := by omega
      obtain ⟨ad, rfl, hca⟩ := ha.at_ hlt
      have hy := HF.out _ (List.getElem_mem hlt)
      have H1 := Lib.hid (ev_down (q := q) (x := x) hlt)
      generalize f[k] = y at *
      have hxy := intmul_bd s x hs1 hx.1 (by omega) (by omega)
      have hp := Int.emod_lt_of_pos (s * x) (show 0 < q by omega)
      have hp2 := Int.emod_nonneg (s * x) (show q ≠ 0 by omega)
      have hr := Int.emod_lt_of_pos (s * x % q + y) (show 0 < q by omega)
      have hr2 := Int.emod_nonneg (s * x % q + y) (show q ≠ 0 by omega)
      go_wp2
      go_quiet (fail)
      go_wp2
      go_roundw
      case rel => exact ⟨k, _, (s * x % q + y) % q, (k : Int) - 1, by omega, by go_num, rfl, rfl, rfl, hr2, hr, by rw [Hid, HS.out]; exact H1.out⟩
      case measure => simp [intOf]
set_option maxHeartbeats 1000000 in
theorem EvalPoly_yes (q x : Int) (A : Option Addr) (n c : Nat) (f : List Int) (w : World) (ha : RdI w A f) (hl : f.length = n) (hp : polyB q f = true) (hx : 0 ≤ x ∧ x ≤ q - 1) :
    Calls Try.prog 55 #[.int .i64 q, .slice A n c, .int .i64 x] w fun e w' => e = .returned (.tuple #[.int .i64 (ev f x % q), .bool true]) ∧ Ext w w' := by
  have HP := Lib.hid hp
  obtain ⟨h1, h2, h3⟩ := polyB_iff.1 hp
  have hq := fieldB_rng h1
  have H3 := Lib.hid h3
  have HX := Lib.hid (inR_iff.2 hx)
  clear hp h1 h3
  go_enter Try.func55, Try.ntmps55
  go_wp2_with fail
  refine (isPoly_any q A n c f _ ha hl (by omega)).mono ?_
  rintro e w1 ⟨rfl, hE⟩
  rw [HP.out]
  go_wp2_with fail
  refine (within_any _ _ _ _).mono ?_
  rintro e w2 ⟨he, rfl⟩
  rw [HX.out] at he; subst he
  go_wp2_with fail
  refine (evalPoly_any q x A n c f _ (ha.ext hE) hl (by omega) hq.1 hq.2 H3.out hx).mono ?_
  rintro e w3 ⟨rfl, hE2⟩
  go_wp2
  go_ret2
  exact ⟨rfl, hE.trans hE2⟩

/-- What a function of two polynomials returns: the list v, where ok. -/
def PolyPost (base : Nat) (good : Bool) (v : List Int) (w : World) (e : Ending) (w' : World) : Prop :=
  ∃ A n c p, e = .returned (.tuple #[.slice A n c, .bool good]) ∧ OwnI w' base 3 A n c p ∧ p = (if good then v else []) ∧ Ext w w'
theorem PolyPost.no {w w' : World} {base : Nat} {v : List Int} (hE : Ext w w') : PolyPost base false v w (.returned (.tuple #[.slice none 0 0, .bool false])) w' :=
  ⟨none, 0, 0, [], rfl, OwnI.nil _ _ _, rfl, hE⟩
theorem addIn_succ {q : Int} {g o : List Int} {k : Nat} {y x : Int} (hy : (addIn q g o k).getD k 0 = y) (hx : g.getD k 0 = x) : (addIn q g o k).set k ((y + x) % q) = addIn q g o (k + 1) := by rw [addIn, hy, hx]
set_option maxHeartbeats 4000000 in
theorem iAddPolys_any (q : Int) (A B : Option Addr) (n c m d : Nat) (f g : List Int) (w : World) (rf : RdI w A f) (hl : f.length = n) (hn : n ≤ 1000000) (rg : RdI w B g) (hm : g.length = m) (hm2 : m ≤ 1000000) :
    Calls Try.prog 53 #[.int .i64 q, .slice A n c, .slice B m d] w fun e w' => PolyPost w.heap.size (polyB q f && polyB q g) (addI q f g) w e w' := by
  subst hl hm
  cases h1 : polyB q f
  · have H1 := Lib.hid h1
    clear h1
    go_enter Try.func53, Try.ntmps53
    go_wp2_with fail
    refine (isPoly_any q A _ c f _ rf rfl (by omega)).mono ?_
    rintro e w1 ⟨rfl, hE⟩
    rw [H1.out]
    go_wp2
    go_ret2
    exact PolyPost.no hE
  cases h2 : polyB q g
  · have H1 := Lib.hid h1
    have H2 := Lib.hid h2
    clear h1 h2
    go_enter Try.func53, Try.ntmps53
    go_wp2_with fail
    refine (isPoly_any q A _ c f _ rf rfl (by omega)).mono ?_
    rintro e w1 ⟨rfl, hE⟩
    rw [H1.out]
    go_wp2_with fail
    refine (isPoly_any q B _ d g _ (rg.ext hE) rfl (by omega)).mono ?_
    rintro e w2 ⟨rfl, hE2⟩
    rw [H2.out]
    go_wp2
    go_ret2
    exact PolyPost.no (hE.trans hE2)
  have H1 := Lib.hid h1
  have H2 := Lib.hid h2
  obtain ⟨g1, g2, g3⟩ := polyB_iff.1 h1
  obtain ⟨_, g4, g5⟩ := polyB_iff.1 h2
  have hq := fieldB_rng g1
  have HF := Lib.hid g3
  have HG := Lib.hid g5
  have hq0 : (q == 0) = false := by simp; omega
  clear h1 h2 g1 g3 g5
  by_cases hlt : f.length < g.length
  · go_enter Try.func53, Try.ntmps53
    go_wp2_with fail
    refine (isPoly_any q A _ c f _ rf rfl (by omega)).mono ?_
    rintro e w1 ⟨rfl, hE⟩
    rw [H1.out]
    go_wp2_with fail
    refine (isPoly_any q B _ d g _ (rg.ext hE) rfl (by omega)).mono ?_
    rintro e w2 ⟨rfl, hE2⟩
    rw [H2.out]
    replace hE := hE.trans hE2
    clear hE2
    go_wp2_with fail
    refine (Clone_any B g.length d g _ (rg.ext hE) rfl (by omega)).mono ?_
    rintro e w3 ⟨A', c', rfl, hO, hE3⟩
    replace hO := hO.more (base' := w.heap.size) hE.size
    replace hE := hE.trans hE3
    clear hE3
    go_wp2
    go_loopw [32] (fun i wr => ∃ j : Nat, j ≤ f.length ∧ i = .int .i64 j ∧ OwnI wr w.heap.size 3 A' g.length c' (addIn q f g j) ∧ Ext w wr) (fun i _ => f.length - (intOf i).toNat)
    case atStart => exact ⟨0, Nat.zero_le _, rfl, hO, hE⟩
    case round =>
      clear hO hE
      obtain ⟨j, hj, rfl, hO, hE⟩ := hrel
      by_cases hj2 : j < f.length
      · obtain ⟨ad, rfl, hca⟩ := (rf.ext hE).at_ hj2
        have hx := HF.out _ (List.getElem_mem hj2)
        have HX := Lib.hid (getD_get hj2)
        have hjl : j < (addIn q f g j).length := by rw [addIn_length]; omega
        have hy := addIn_bd (show 0 < q by omega) f HG.out j _ (List.getElem_mem hjl)
        have HY := Lib.hid (getD_get hjl)
        obtain ⟨g0, rfl, hg0, hfr, hce⟩ := hO.addr (by omega)
        have hcj := hce j hjl
        have hfj := hfr j
        generalize f[j] = x at *
        generalize (addIn q f g j)[j] = y at *
        have hO2 := hO.set (j := j) ((y + x) % q)
        rw [addIn_succ HY.out HX.out] at hO2
        clear hce hfr hjl
        go_wp2
        go_roundw
        case rel => exact ⟨j + 1, by omega, by go_num, hO2, hE.setCell hg0 _⟩
        case measure => simp [intOf]; omega
      · obtain rfl : j = f.length := by omega
        go_wp2
        go_ret2
        exact ⟨_, _, _, _, rfl, hO, (by show _ = if true = true then _ else _; rw [if_pos rfl, addI, if_pos hlt]), hE⟩
  · go_enter Try.func53, Try.ntmps53
    go_wp2_with fail
    refine (isPoly_any q A _ c f _ rf rfl (by omega)).mono ?_
    rintro e w1 ⟨rfl, hE⟩
    rw [H1.out]
    go_wp2_with fail
    refine (isPoly_any q B _ d g _ (rg.ext hE) rfl (by omega)).mono ?_
    rintro e w2 ⟨rfl, hE2⟩
    rw [H2.out]
    replace hE := hE.trans hE2
    clear hE2
    go_wp2_with fail
    refine (Clone_any A f.length c f _ (rf.ext hE) rfl (by omega)).mono ?_
    rintro e w3 ⟨A', c', rfl, hO, hE3⟩
    replace hO := hO.more (base' := w.heap.size) hE.size
    replace hE := hE.trans hE3
    clear hE3
    go_wp2
    go_loopw [32] (fun i wr => ∃ j : Nat, j ≤ g.length ∧ i = .int .i64 j ∧ OwnI wr w.heap.size 3 A' f.length c' (addIn q g f j) ∧ Ext w wr) (fun i _ => g.length - (intOf i).toNat)
    case atStart => exact ⟨0, Nat.zero_le _, rfl, hO, hE⟩
    case round =>
      clear hO hE
      obtain ⟨j, hj, rfl, hO, hE⟩ := hrel
      by_cases hj2 : j < g.length
      · obtain ⟨ad, rfl, hca⟩ := (rg.ext hE).at_ hj2
        have hx := HG.out _ (List.getElem_mem hj2)
        have HX := Lib.hid (getD_get hj2)
        have hjl : j < (addIn q g f j).length := by rw [addIn_length]; omega
        have hy := addIn_bd (show 0 < q by omega) g HF.out j _ (List.getElem_mem hjl)
        have HY := Lib.hid (getD_get hjl)
        obtain ⟨g0, rfl, hg0, hfr, hce⟩ := hO.addr (by omega)
        have hcj := hce j hjl
        have hfj := hfr j
        generalize g[j] = x at *
        generalize (addIn q g f j)[j] = y at *
        have hO2 := hO.set (j := j) ((y + x) % q)
        rw [addIn_succ HY.out HX.out] at hO2
        clear hce hfr hjl
        go_wp2
        go_roundw
        case rel => exact ⟨j + 1, by omega, by go_num, hO2, hE.setCell hg0 _⟩
        case measure => simp [intOf]; omega
      · obtain rfl : j = g.length := by omega
        go_wp2
        go_ret2
        exact ⟨_, _, _, _, rfl, hO, (by show _ = if true = true then _ else _; rw [if_pos rfl, addI, if_neg hlt]), hE⟩
end Go.Proofs.Yticimniegecfeaa

/- Bases for a mix, the form of a matrix proof, its challenges, quotients, the closure of its equations: the program's and the reference's. (Printed by tools/gen_vmx3.py.) -/
import Derived.Test.YtnhdohjlbchniaaGreatProg
import Derived.Test.YtnhdohjlbchniaaGreatVmx2
import Derived.Test.YtnhdohjlbchniaaGreatChals2
import Derived.Test.YtnhdohjlbchniaaGreatCol
namespace Go.Proofs.YtnhdohjlbchniaaGreat
open Go.RowKit
set_option linter.unusedVariables false
set_option linter.unusedSimpArgs false

theorem rd_twoV {w V : World} {x y : Int} {k : Nat} (hk : k = w.heap.size) (hE : Ext (w.alloc (.cells #[.int .i64 x, .int .i64 y] 3)) V) : RdI V (some ⟨k, 0, none⟩) [x, y] := (rd_two hk).ext hE
set_option maxRecDepth 100000 in
set_option maxHeartbeats 4000000 in
theorem mixBases_any (p q g key : Int) (A : Option Addr) (n c : Nat) (l : List (Int × Int)) (w : World) (ha : RdC w A l) (hl : l.length = n) (hn : n ≤ maxLen) :
    Calls Tryz.prog 23 #[.agg #[.int .i64 p, .int .i64 q, .int .i64 g], .int .i64 key, .slice A n c] w fun e w' => BasPost p q g (mxB p q g key l && basK p q g n) n w e w' := by
  have HL := Lib.hid hl
  have hn9 : n ≤ 9223372036854775807 := by unfold maxLen at hn; omega
  clear hl
  have E := (((Ext.refl w).alloc (.cells #[.int .i64 p, .int .i64 q, .int .i64 g] 33)).alloc (.cells #[.int .i64 0, .slice none 0 0] 49))
  have B0 := ((Blk.new w 33 #[.int .i64 p, .int .i64 q, .int .i64 g]).alloc (.cells #[.int .i64 0, .slice none 0 0] 49))
  have B1 := (Blk.new (w.alloc (.cells #[.int .i64 p, .int .i64 q, .int .i64 g] 33)) 49 #[.int .i64 0, .slice none 0 0])
  simp only [World.size_alloc] at B1
  cases h1 : grpB p q g
  · have H1 := Lib.hid h1
    have hv : (mxB p q g key l && basK p q g n) = false := by simp only [mxB, h1, Bool.true_and, Bool.false_and]
    have HV := Lib.hid hv
    clear hv
    clear h1
    go_enter Tryz.func23, Tryz.ntmps23
    have CC0 := B0.cells
    have CC1 := B1.cells
    go_wp2_with fail
    refine (IsValidGroup_any p q g _).mono ?_
    rintro en w9 ⟨hen, hb9⟩
    rw [H1.out] at hen; subst hen
    replace E := E.trans hb9
    replace B0 := B0.ext hb9
    replace B1 := B1.ext hb9
    clear hb9 CC0 CC1
    have CZ := B1.cells
    have FZ := B1.frozen
    go_wp2
    refine ret_bas (h := 0) (A := none) (m := 0) (c := 0) (k := false) ((B1.set_ 0 (.int .i64 0)).set_ 1 (.slice none 0 0)) rfl rfl rfl ?_
    rw [HV.out]
    exact BasPost.no ((E.setCell (by simp) _).setCell (by simp) _)
  have H1 := Lib.hid h1
  have HG := Lib.hid (grpB_in h1).bd
  cases h2 : elB p q key
  · have H2 := Lib.hid h2
    have hv : (mxB p q g key l && basK p q g n) = false := by simp only [mxB, h1, h2, Bool.true_and, Bool.false_and]
    have HV := Lib.hid hv
    clear hv
    clear h1 h2
    go_enter Tryz.func23, Tryz.ntmps23
    have CC0 := B0.cells
    have CC1 := B1.cells
    go_wp2_with fail
    refine (IsValidGroup_any p q g _).mono ?_
    rintro en w9 ⟨hen, hb9⟩
    rw [H1.out] at hen; subst hen
    replace E := E.trans hb9
    replace B0 := B0.ext hb9
    replace B1 := B1.ext hb9
    clear hb9 CC0 CC1
    have CC0 := B0.cells
    have CC1 := B1.cells
    go_wp2_with fail
    refine (has_any p q g key _ HG.out).mono ?_
    rintro en w9 ⟨hen, hb9⟩
    rw [H2.out] at hen; subst hen
    replace E := E.trans hb9
    replace B0 := B0.ext hb9
    replace B1 := B1.ext hb9
    clear hb9 CC0 CC1
    have CZ := B1.cells
    have FZ := B1.frozen
    go_wp2
    refine ret_bas (h := 0) (A := none) (m := 0) (c := 0) (k := false) ((B1.set_ 0 (.int .i64 0)).set_ 1 (.slice none 0 0)) rfl rfl rfl ?_
    rw [HV.out]
    exact BasPost.no ((E.setCell (by simp) _).setCell (by simp) _)
  have H2 := Lib.hid h2
  cases h3 : amB p q l
  · have H3 := Lib.hid h3
    have hv : (mxB p q g key l && basK p q g n) = false := by simp only [mxB, h1, h2, h3, Bool.true_and, Bool.false_and]
    have HV := Lib.hid hv
    clear hv
    clear h1 h2 h3
    go_enter Tryz.func23, Tryz.ntmps23
    have CC0 := B0.cells
    have CC1 := B1.cells
    go_wp2_with fail
    refine (IsValidGroup_any p q g _).mono ?_
    rintro en w9 ⟨hen, hb9⟩
    rw [H1.out] at hen; subst hen
    replace E := E.trans hb9
    replace B0 := B0.ext hb9
    replace B1 := B1.ext hb9
    clear hb9 CC0 CC1
    have CC0 := B0.cells
    have CC1 := B1.cells
    go_wp2_with fail
    refine (has_any p q g key _ HG.out).mono ?_
    rintro en w9 ⟨hen, hb9⟩
    rw [H2.out] at hen; subst hen
    replace E := E.trans hb9
    replace B0 := B0.ext hb9
    replace B1 := B1.ext hb9
    clear hb9 CC0 CC1
    have CC0 := B0.cells
    have CC1 := B1.cells
    go_wp2_with fail
    refine (areMixed_any p q g A n c l _ HG.out (ha.ext E) HL.out hn).mono ?_
    rintro en w9 ⟨hen, hb9⟩
    rw [H3.out] at hen; subst hen
    replace E := E.trans hb9
    replace B0 := B0.ext hb9
    replace B1 := B1.ext hb9
    clear hb9 CC0 CC1
    have CZ := B1.cells
    have FZ := B1.frozen
    go_wp2
    refine ret_bas (h := 0) (A := none) (m := 0) (c := 0) (k := false) ((B1.set_ 0 (.int .i64 0)).set_ 1 (.slice none 0 0)) rfl rfl rfl ?_
    rw [HV.out]
    exact BasPost.no ((E.setCell (by simp) _).setCell (by simp) _)
  have H3 := Lib.hid h3
  have hv : (mxB p q g key l && basK p q g n) = basK p q g n := by simp only [mxB, h1, h2, h3, Bool.true_and]
  have HV := Lib.hid hv
  have HGG := Lib.hid h1
  have hn24 : n ≤ 24 := by have := (amB_in h3).2.1; have := HL.out; omega
  obtain ⟨K, hK⟩ : ∃ K, basK p q g n = K := ⟨_, rfl⟩
  have HK := Lib.hid hK
  clear hv h1 h2 h3 hK
  go_enter Tryz.func23, Tryz.ntmps23
  have CC0 := B0.cells
  have CC1 := B1.cells
  go_wp2_with fail
  refine (IsValidGroup_any p q g _).mono ?_
  rintro en w9 ⟨hen, hb9⟩
  rw [H1.out] at hen; subst hen
  replace E := E.trans hb9
  replace B0 := B0.ext hb9
  replace B1 := B1.ext hb9
  clear hb9 CC0 CC1
  have CC0 := B0.cells
  have CC1 := B1.cells
  go_wp2_with fail
  refine (has_any p q g key _ HG.out).mono ?_
  rintro en w9 ⟨hen, hb9⟩
  rw [H2.out] at hen; subst hen
  replace E := E.trans hb9
  replace B0 := B0.ext hb9
  replace B1 := B1.ext hb9
  clear hb9 CC0 CC1
  have CC0 := B0.cells
  have CC1 := B1.cells
  go_wp2_with fail
  refine (areMixed_any p q g A n c l _ HG.out (ha.ext E) HL.out hn).mono ?_
  rintro en w9 ⟨hen, hb9⟩
  rw [H3.out] at hen; subst hen
  replace E := E.trans hb9
  replace B0 := B0.ext hb9
  replace B1 := B1.ext hb9
  clear hb9 CC0 CC1
  have CC0 := B0.cells
  go_wp2_with fail
  refine (basesOf_any p q g n _ HGG.out hn24).mono ?_
  rintro en w9 ⟨H, A', m', c', he, hy, hno, hb9⟩
  rw [HK.out] at he hy hno
  subst he
  replace E := E.trans hb9
  have hlo := B1.lt
  replace B1 := B1.ext hb9
  clear hb9 CC0
  have CZ := B1.cells
  have FZ := B1.frozen
  go_wp2
  refine ret_bas (h := H) (A := A') (m := m') (c := c') (k := K) ((B1.set_ 0 (.int .i64 H)).set_ 1 (.slice A' m' c')) rfl rfl rfl ?_
  rw [HV.out, HK.out]
  refine ⟨H, A', m', c', rfl, fun hk => ⟨(hy hk).1, ?_⟩, hno, (E.setCell (by simp) _).setCell (by simp) _⟩
  have hO := (hy hk).2
  have hlt8 := hO.lt
  exact ((hO.keep (w' := w9.setCell ⟨w.heap.size + 1, 0, none⟩ (.int .i64 H)) fun a ha => Below.heap_setCell _ _ _ _ (by have := (hlt8 a ha).1; simp only [ne_eq]; omega)).keep (w' := (w9.setCell ⟨w.heap.size + 1, 0, none⟩ (.int .i64 H)).setCell ⟨w.heap.size + 1, 1, none⟩ (.slice A' m' c')) fun a ha => Below.heap_setCell _ _ _ _ (by have := (hlt8 a ha).1; simp only [ne_eq]; omega)).more (by omega)
set_option maxRecDepth 100000 in
set_option maxHeartbeats 4000000 in
theorem mList_any (p q g key : Int) (A : Option Addr) (n c : Nat) (l : List (Int × Int)) (w : World) (ha : RdC w A l) (hl : l.length = n) (hn : n ≤ maxLen) :
    Calls Tryz.prog 17 #[.agg #[.int .i64 p, .int .i64 q, .int .i64 g], .int .i64 key, .slice A n c] w fun e w' => e = .returned (.bool (mxB p q g key l)) ∧ Ext w w' := by
  have HL := Lib.hid hl
  have hn9 : n ≤ 9223372036854775807 := by unfold maxLen at hn; omega
  clear hl
  have E := ((Ext.refl w).alloc (.cells #[.int .i64 p, .int .i64 q, .int .i64 g] 33))
  have B0 := (Blk.new w 33 #[.int .i64 p, .int .i64 q, .int .i64 g])
  cases h1 : (grpB p q g && elB p q key)
  · have H1 := Lib.hid h1
    have hv : mxB p q g key l = false := by unfold mxB amB; rw [HL.out, ← Bool.and_assoc, h1, Bool.false_and]
    have HV := Lib.hid hv
    clear hv
    clear h1
    go_enter Tryz.func17, Tryz.ntmps17
    have CC0 := B0.cells
    go_wp2_with fail
    refine (eKey_any p q g key _).mono ?_
    rintro en w9 ⟨hen, hb9⟩
    rw [H1.out] at hen; subst hen
    replace E := E.trans hb9
    replace B0 := B0.ext hb9
    clear hb9 CC0
    go_wp2
    go_ret
    exact ⟨by rw [HV.out]; rfl, E⟩
  have H1 := Lib.hid h1
  have HG := Lib.hid (grpB_in (g := g) (by simp only [Bool.and_eq_true] at h1; exact h1.1)).bd
  cases h2 : inR (n : Int) 1 12
  · have H2 := Lib.hid h2
    have hv : mxB p q g key l = false := by unfold mxB amB; rw [HL.out, ← Bool.and_assoc, h1, Bool.true_and, h2, Bool.false_and]
    have HV := Lib.hid hv
    clear hv
    clear h1 h2
    go_enter Tryz.func17, Tryz.ntmps17
    have CC0 := B0.cells
    go_wp2_with fail
    refine (eKey_any p q g key _).mono ?_
    rintro en w9 ⟨hen, hb9⟩
    rw [H1.out] at hen; subst hen
    replace E := E.trans hb9
    replace B0 := B0.ext hb9
    clear hb9 CC0
    have CC0 := B0.cells
    go_wp2_with fail
    refine (l1In_any _ _ _ _).mono ?_
    rintro en w9 ⟨hen, rfl⟩
    rw [H2.out] at hen; subst hen
    clear CC0
    go_wp2
    go_ret
    exact ⟨by rw [HV.out]; rfl, E⟩
  have H2 := Lib.hid h2
  obtain ⟨v, h3⟩ : ∃ v, (decide (n ≤ 24) && l.all (ciB p q)) = v := ⟨_, rfl⟩
  have hv : mxB p q g key l = v := by unfold mxB amB; rw [HL.out, ← Bool.and_assoc, h1, Bool.true_and, h2, Bool.true_and, h3]
  have HV := Lib.hid hv
  clear hv
  have H3 := Lib.hid h3
  clear h1 h2 h3
  go_enter Tryz.func17, Tryz.ntmps17
  have CC0 := B0.cells
  go_wp2_with fail
  refine (eKey_any p q g key _).mono ?_
  rintro en w9 ⟨hen, hb9⟩
  rw [H1.out] at hen; subst hen
  replace E := E.trans hb9
  replace B0 := B0.ext hb9
  clear hb9 CC0
  have CC0 := B0.cells
  go_wp2_with fail
  refine (l1In_any _ _ _ _).mono ?_
  rintro en w9 ⟨hen, rfl⟩
  rw [H2.out] at hen; subst hen
  clear CC0
  have CC0 := B0.cells
  go_wp2_with fail
  refine (eGood_any p q g A n c l _ HG.out (ha.ext E) HL.out hn).mono ?_
  rintro en w9 ⟨hen, hb9⟩
  rw [H3.out] at hen; subst hen
  replace E := E.trans hb9
  replace B0 := B0.ext hb9
  clear hb9 CC0
  go_wp2
  go_ret
  exact ⟨by rw [HV.out]; rfl, E⟩
set_option maxRecDepth 100000 in
set_option maxHeartbeats 4000000 in
theorem mChallenges_any (p q g key : Int) (A : Option Addr) (n c : Nat) (B : Option Addr) (m d : Nat) (a b : List (Int × Int)) (R : Option Addr) (s e : Nat) (r : List Int) (w : World) (h : grpB p q g = true) (ha : RdC w A a) (hla : a.length = n) (hb : RdC w B b) (hlb : b.length = m) (hn : n ≤ 100) (hm : m ≤ 100) (hr : RdI w R r) (hlr : r.length = s) (hs : s ≤ 1000) (hk : chN 4 colS (mlL key a b r) = true) :
    Calls Tryz.prog 42 #[.agg #[.int .i64 p, .int .i64 q, .int .i64 g], .int .i64 key, .slice A n c, .slice B m d, .slice R s e] w fun en w' => SlPost (vmE p q g key a b r) w en w' := by
  have HA := Lib.hid hla
  have HB := Lib.hid hlb
  have HR := Lib.hid hlr
  have HK := Lib.hid hk
  have HE : Hid (vmE p q g key a b r = chsL p q g colS (mlL key a b r) n) := by show _ = _; unfold vmE; rw [hla]
  clear hla hlb hlr hk
  have E := ((Ext.refl w).alloc (.cells #[.int .i64 p, .int .i64 q, .int .i64 g] 33))
  have B0 := (Blk.new w 33 #[.int .i64 p, .int .i64 q, .int .i64 g])
  go_enter Tryz.func42, Tryz.ntmps42
  go_upto_region 1 with (fail)
  generalize (w.alloc (.cells #[.int .i64 p, .int .i64 q, .int .i64 g] 33)) = Wb at *
  have hS : ∀ V, Ext Wb V → V.cell? ⟨w.heap.size, 0, none⟩ = some (.int .i64 p) ∧ V.cell? ⟨w.heap.size, 1, none⟩ = some (.int .i64 q) ∧ V.cell? ⟨w.heap.size, 2, none⟩ = some (.int .i64 g) := fun V hV => by
    have a0 := (B0.ext hV).cells
    exact ⟨a0 0, a0 1, a0 2⟩
  refine wp_region_held_drew (S := fun V => V.cell? ⟨w.heap.size, 0, none⟩ = some (.int .i64 p) ∧ V.cell? ⟨w.heap.size, 1, none⟩ = some (.int .i64 q) ∧ V.cell? ⟨w.heap.size, 2, none⟩ = some (.int .i64 g)) (by kernel_rfl) ?_ (fun hHeld => ?_)
  · exact hS _ (by repeat (first | with_reducible assumption | with_reducible exact Ext.refl _ | with_reducible apply Ext.alloc | with_reducible apply Ext.drew | with_reducible apply Ext.drewN))
  refine' wpAnyH_take (i := 0) (v := _) ?hi0 (by kernel_rfl) (by kernel_rfl) (by kernel_rfl) ?hQ0 ?hy0 (by assumption) ?_
  case hi0 => (simp only [List.getElem?_toArray, List.getElem?_cons_zero]; rfl)
  case hy0 => refine Or.inl ⟨by rfl, ?_⟩; intro w hSw; (try dsimp only at hSw); go_simp <;> with_reducible rfl
  case hQ0 => exact fun _ _ _ h => h
  try simp only [Act.put, List.setIfInBounds_toArray, List.set_cons_zero, List.set_cons_succ]
  refine' wpAnyH_take (i := 1) (v := _) ?hi1 (by kernel_rfl) (by kernel_rfl) (by kernel_rfl) ?hQ1 ?hy1 (by assumption) ?_
  case hi1 => (simp only [List.getElem?_toArray, List.getElem?_cons_succ, List.getElem?_cons_zero]; rfl)
  case hy1 => refine Or.inl ⟨by rfl, ?_⟩; intro w hSw; (try dsimp only at hSw); go_simp <;> with_reducible rfl
  case hQ1 => exact fun _ _ _ h => h
  try simp only [Act.put, List.setIfInBounds_toArray, List.set_cons_zero, List.set_cons_succ]
  refine' wpAnyH_take (i := 2) (v := _) ?hi2 (by kernel_rfl) (by kernel_rfl) (by kernel_rfl) ?hQ2 ?hy2 (by assumption) ?_
  case hi2 => (simp only [List.getElem?_toArray, List.getElem?_cons_succ, List.getElem?_cons_zero]; rfl)
  case hy2 => refine Or.inl ⟨by rfl, ?_⟩; intro w hSw; (try dsimp only at hSw); go_simp <;> with_reducible rfl
  case hQ2 => exact fun _ _ _ h => h
  try simp only [Act.put, List.setIfInBounds_toArray, List.set_cons_zero, List.set_cons_succ]
  refine' wpAnyH_take (i := 3) (v := _) ?hi3 (by kernel_rfl) (by kernel_rfl) (by kernel_rfl) ?hQ3 ?hy3 (by assumption) ?_
  case hi3 => (simp only [List.getElem?_toArray, List.getElem?_cons_succ, List.getElem?_cons_zero]; rfl)
  case hy3 => refine Or.inl ⟨by rfl, ?_⟩; intro w hSw; (try dsimp only at hSw); go_simp <;> with_reducible rfl
  case hQ3 => exact fun _ _ _ h => h
  try simp only [Act.put, List.setIfInBounds_toArray, List.set_cons_zero, List.set_cons_succ]
  refine' wpAnyH_take (i := 4) (v := _) ?hi4 (by kernel_rfl) (by kernel_rfl) (by kernel_rfl) ?hQ4 ?hy4 (by assumption) ?_
  case hi4 => (simp only [List.getElem?_toArray, List.getElem?_cons_succ, List.getElem?_cons_zero]; rfl)
  case hy4 => refine Or.inl ⟨by rfl, ?_⟩; intro w hSw; (try dsimp only at hSw); go_simp <;> with_reducible rfl
  case hQ4 => exact fun _ _ _ h => h
  try simp only [Act.put, List.setIfInBounds_toArray, List.set_cons_zero, List.set_cons_succ]
  refine' wpAnyH_take (i := 6) (v := _) ?hi6 (by kernel_rfl) (by kernel_rfl) (by kernel_rfl) ?hQ6 ?hy6 (by assumption) ?_
  case hi6 => (simp only [List.getElem?_toArray, List.getElem?_cons_succ, List.getElem?_cons_zero]; rfl)
  case hy6 => refine Or.inl ⟨by rfl, ?_⟩; intro w hSw; (try dsimp only at hSw); go_simp <;> with_reducible rfl
  case hQ6 => exact fun _ _ _ h => h
  try simp only [Act.put, List.setIfInBounds_toArray, List.set_cons_zero, List.set_cons_succ]
  refine' wpAnyH_take (i := 7) (v := _) ?hi7 (by kernel_rfl) (by kernel_rfl) (by kernel_rfl) ?hQ7 ?hy7 (by assumption) ?_
  case hi7 => (simp only [List.getElem?_toArray, List.getElem?_cons_succ, List.getElem?_cons_zero]; rfl)
  case hy7 => refine Or.inl ⟨by rfl, ?_⟩; intro w hSw; (try dsimp only at hSw); go_simp <;> with_reducible rfl
  case hQ7 => exact fun _ _ _ h => h
  try simp only [Act.put, List.setIfInBounds_toArray, List.set_cons_zero, List.set_cons_succ]
  refine wpAnyH_ready (rs := [5]) (by kernel_rfl) (by simp) ?_
  refine AllReadyH.cons rfl (fun KK hKK => ?_) ?_
  · go_simp
    go_at_call 83
    refine (mListed_any key A n c B m d R s e a b r _ (ha.ext (Ext.trans E (by repeat (first | with_reducible assumption | with_reducible exact Ext.refl _ | with_reducible apply Ext.alloc | with_reducible apply Ext.drew | with_reducible apply Ext.drewN)))) HA.out (hb.ext (Ext.trans E (by repeat (first | with_reducible assumption | with_reducible exact Ext.refl _ | with_reducible apply Ext.alloc | with_reducible apply Ext.drew | with_reducible apply Ext.drewN)))) HB.out (hr.ext (Ext.trans E (by repeat (first | with_reducible assumption | with_reducible exact Ext.refl _ | with_reducible apply Ext.alloc | with_reducible apply Ext.drew | with_reducible apply Ext.drewN)))) HR.out (by omega) (by omega) (by omega)).mono ?_
    rintro ek wk5 ⟨U, k, c1, rfl, hO5, hb5⟩
    have hx5 := Ext.trans (w := Wb) (by repeat (first | with_reducible assumption | with_reducible exact Ext.refl _ | with_reducible apply Ext.alloc | with_reducible apply Ext.drew | with_reducible apply Ext.drewN)) hb5
    refine hKK.out _ _ ?_ (fun hHeld => ?_)
    · exact hS _ (by repeat (first | with_reducible assumption | with_reducible exact Ext.refl _ | with_reducible apply Ext.alloc | with_reducible apply Ext.drew | with_reducible apply Ext.drewN))
    clear hKK KK
    try simp only [Act.put, List.setIfInBounds_toArray, List.set_cons_zero, List.set_cons_succ]
    refine wpAnyH_ready (rs := [8]) (by kernel_rfl) (by simp) ?_
    refine AllReadyH.cons rfl (fun KK hKK => ?_) ?_
    · go_simp
      go_at_call 82
      refine (hChallenges_any p q g colS U k c1 (mlL key a b r) n _ h (hO5.rd.ext (by repeat (first | with_reducible assumption | with_reducible exact Ext.refl _ | with_reducible apply Ext.alloc | with_reducible apply Ext.drew | with_reducible apply Ext.drewN))) hO5.len (by omega) HK.out).mono ?_
      rintro ek wk8 ⟨D, f, e9, rfl, r1, r2, r3, hb8⟩
      have hx8 := Ext.trans (w := Wb) (Ext.trans hx5 (by repeat (first | with_reducible assumption | with_reducible exact Ext.refl _ | with_reducible apply Ext.alloc | with_reducible apply Ext.drew | with_reducible apply Ext.drewN))) hb8
      refine hKK.out _ _ ?_ (fun hHeld => ?_)
      · exact hS _ (by repeat (first | with_reducible assumption | with_reducible exact Ext.refl _ | with_reducible apply Ext.alloc | with_reducible apply Ext.drew | with_reducible apply Ext.drewN))
      clear hKK KK
      try simp only [Act.put, List.setIfInBounds_toArray, List.set_cons_zero, List.set_cons_succ]
      refine' wpAnyH_take (i := 9) (v := _) ?hi9 (by kernel_rfl) (by kernel_rfl) (by kernel_rfl) ?hQ9 ?hy9 (by assumption) ?_
      case hi9 => (simp only [List.getElem?_toArray, List.getElem?_cons_succ, List.getElem?_cons_zero]; rfl)
      case hy9 => refine Or.inl ⟨by rfl, ?_⟩; intro w hSw; (try dsimp only at hSw); go_simp <;> with_reducible rfl
      case hQ9 => exact fun _ _ _ h => h
      try simp only [Act.put, List.setIfInBounds_toArray, List.set_cons_zero, List.set_cons_succ]
      refine wpAnyH_done (by kernel_rfl) ?_ _
      go_wp2
      go_ret
      exact ⟨D, f, e9, rfl, by rw [HE.out]; exact r1, by rw [HE.out]; exact r2, r3, E.trans hx8⟩
    exact AllReadyH.nil
  exact AllReadyH.nil
set_option maxRecDepth 100000 in
set_option maxHeartbeats 4000000 in
theorem mChallenge_any (p q g key : Int) (A : Option Addr) (n c : Nat) (B : Option Addr) (m d : Nat) (a b : List (Int × Int)) (C1 : Option Addr) (k1 e1 : Nat) (C2 : Option Addr) (k2 e2 : Nat) (C3 : Option Addr) (k3 e3 : Nat) (C4 : Option Addr) (k4 e4 : Nat) (C5 : Option Addr) (k5 e5 : Nat) (co cn cm : List Int) (w : World) (h : grpB p q g = true) (ha : RdC w A a) (hla : a.length = n) (hb : RdC w B b) (hlb : b.length = m) (hn : n ≤ 100) (hm : m ≤ 100) (s1 : SlI w C1 k1 e1 co) (s2 : SlI w C2 k2 e2 cn) (s3 : SlI w C3 k3 e3 cm) (hk1 : k1 ≤ 1000) (hk2 : k2 ≤ 1000) (hk3 : k3 ≤ 1000) (hk : allR (mlL key a b co ++ cn ++ cm) 0 4611686018427387903 = true) :
    Calls Tryz.prog 48 #[.agg #[.int .i64 p, .int .i64 q, .int .i64 g], .int .i64 key, .slice A n c, .slice B m d, .agg #[.slice C1 k1 e1, .slice C2 k2 e2, .slice C3 k3 e3, .slice C4 k4 e4, .slice C5 k5 e5]] w fun en w' => en = .returned (.int .i64 (vmZ p q g key a b co cn cm)) ∧ Ext w w' := by
  have HA := Lib.hid hla
  have HB := Lib.hid hlb
  have HK := Lib.hid hk
  have HZ : Hid (vmZ p q g key a b co cn cm = chV p q g endS (mlL key a b co ++ cn ++ cm)) := by show _ = _; unfold vmZ; rfl
  clear hla hlb hk
  have E := (((Ext.refl w).alloc (.cells #[.int .i64 p, .int .i64 q, .int .i64 g] 33)).alloc (.cells #[.slice C1 k1 e1, .slice C2 k2 e2, .slice C3 k3 e3, .slice C4 k4 e4, .slice C5 k5 e5] 30))
  have B0 := ((Blk.new w 33 #[.int .i64 p, .int .i64 q, .int .i64 g]).alloc (.cells #[.slice C1 k1 e1, .slice C2 k2 e2, .slice C3 k3 e3, .slice C4 k4 e4, .slice C5 k5 e5] 30))
  have B1 := (Blk.new (w.alloc (.cells #[.int .i64 p, .int .i64 q, .int .i64 g] 33)) 30 #[.slice C1 k1 e1, .slice C2 k2 e2, .slice C3 k3 e3, .slice C4 k4 e4, .slice C5 k5 e5])
  simp only [World.size_alloc] at B1
  go_enter Tryz.func48, Tryz.ntmps48
  go_upto_region 1 with (fail)
  generalize ((w.alloc (.cells #[.int .i64 p, .int .i64 q, .int .i64 g] 33)).alloc (.cells #[.slice C1 k1 e1, .slice C2 k2 e2, .slice C3 k3 e3, .slice C4 k4 e4, .slice C5 k5 e5] 30)) = Wb at *
  have hS : ∀ V, Ext Wb V → V.cell? ⟨w.heap.size, 0, none⟩ = some (.int .i64 p) ∧ V.cell? ⟨w.heap.size, 1, none⟩ = some (.int .i64 q) ∧ V.cell? ⟨w.heap.size, 2, none⟩ = some (.int .i64 g) ∧ V.cell? ⟨w.heap.size + 1, 0, none⟩ = some (.slice C1 k1 e1) ∧ V.cell? ⟨w.heap.size + 1, 1, none⟩ = some (.slice C2 k2 e2) ∧ V.cell? ⟨w.heap.size + 1, 2, none⟩ = some (.slice C3 k3 e3) ∧ V.cell? ⟨w.heap.size + 1, 3, none⟩ = some (.slice C4 k4 e4) ∧ V.cell? ⟨w.heap.size + 1, 4, none⟩ = some (.slice C5 k5 e5) := fun V hV => by
    have a0 := (B0.ext hV).cells
    have a1 := (B1.ext hV).cells
    exact ⟨a0 0, a0 1, a0 2, a1 0, a1 1, a1 2, a1 3, a1 4⟩
  have hszb : Wb.heap.size ≤ Wb.heap.size := Nat.le_refl _
  refine wp_region_held_drew (S := fun V => V.cell? ⟨w.heap.size, 0, none⟩ = some (.int .i64 p) ∧ V.cell? ⟨w.heap.size, 1, none⟩ = some (.int .i64 q) ∧ V.cell? ⟨w.heap.size, 2, none⟩ = some (.int .i64 g) ∧ V.cell? ⟨w.heap.size + 1, 0, none⟩ = some (.slice C1 k1 e1) ∧ V.cell? ⟨w.heap.size + 1, 1, none⟩ = some (.slice C2 k2 e2) ∧ V.cell? ⟨w.heap.size + 1, 2, none⟩ = some (.slice C3 k3 e3) ∧ V.cell? ⟨w.heap.size + 1, 3, none⟩ = some (.slice C4 k4 e4) ∧ V.cell? ⟨w.heap.size + 1, 4, none⟩ = some (.slice C5 k5 e5)) (by kernel_rfl) ?_ (fun hHeld => ?_)
  · exact hS _ (by repeat (first | with_reducible assumption | with_reducible exact Ext.refl _ | with_reducible apply Ext.alloc | with_reducible apply Ext.drew | with_reducible apply Ext.drewN))
  refine' wpAnyH_take (i := 0) (v := _) ?hi0 (by kernel_rfl) (by kernel_rfl) (by kernel_rfl) ?hQ0 ?hy0 (by assumption) ?_
  case hi0 => (simp only [List.getElem?_toArray, List.getElem?_cons_zero]; rfl)
  case hy0 => refine Or.inl ⟨by rfl, ?_⟩; intro w hSw; (try dsimp only at hSw); go_simp <;> with_reducible rfl
  case hQ0 => exact fun _ _ _ h => h
  try simp only [Act.put, List.setIfInBounds_toArray, List.set_cons_zero, List.set_cons_succ]
  refine' wpAnyH_take (i := 1) (v := _) ?hi1 (by kernel_rfl) (by kernel_rfl) (by kernel_rfl) ?hQ1 ?hy1 (by assumption) ?_
  case hi1 => (simp only [List.getElem?_toArray, List.getElem?_cons_succ, List.getElem?_cons_zero]; rfl)
  case hy1 => refine Or.inl ⟨by rfl, ?_⟩; intro w hSw; (try dsimp only at hSw); go_simp <;> with_reducible rfl
  case hQ1 => exact fun _ _ _ h => h
  try simp only [Act.put, List.setIfInBounds_toArray, List.set_cons_zero, List.set_cons_succ]
  refine' wpAnyH_take (i := 2) (v := _) ?hi2 (by kernel_rfl) (by kernel_rfl) (by kernel_rfl) ?hQ2 ?hy2 (by assumption) ?_
  case hi2 => (simp only [List.getElem?_toArray, List.getElem?_cons_succ, List.getElem?_cons_zero]; rfl)
  case hy2 => refine Or.inl ⟨by rfl, ?_⟩; intro w hSw; (try dsimp only at hSw); go_simp <;> with_reducible rfl
  case hQ2 => exact fun _ _ _ h => h
  try simp only [Act.put, List.setIfInBounds_toArray, List.set_cons_zero, List.set_cons_succ]
  refine' wpAnyH_take (i := 3) (v := _) ?hi3 (by kernel_rfl) (by kernel_rfl) (by kernel_rfl) ?hQ3 ?hy3 (by assumption) ?_
  case hi3 => (simp only [List.getElem?_toArray, List.getElem?_cons_succ, List.getElem?_cons_zero]; rfl)
  case hy3 => refine Or.inl ⟨by rfl, ?_⟩; intro w hSw; (try dsimp only at hSw); go_simp <;> with_reducible rfl
  case hQ3 => exact fun _ _ _ h => h
  try simp only [Act.put, List.setIfInBounds_toArray, List.set_cons_zero, List.set_cons_succ]
  refine' wpAnyH_take (i := 4) (v := _) ?hi4 (by kernel_rfl) (by kernel_rfl) (by kernel_rfl) ?hQ4 ?hy4 (by assumption) ?_
  case hi4 => (simp only [List.getElem?_toArray, List.getElem?_cons_succ, List.getElem?_cons_zero]; rfl)
  case hy4 => refine Or.inl ⟨by rfl, ?_⟩; intro w hSw; (try dsimp only at hSw); go_simp <;> with_reducible rfl
  case hQ4 => exact fun _ _ _ h => h
  try simp only [Act.put, List.setIfInBounds_toArray, List.set_cons_zero, List.set_cons_succ]
  refine' wpAnyH_take (i := 6) (v := _) ?hi6 (by kernel_rfl) (by kernel_rfl) (by kernel_rfl) ?hQ6 ?hy6 (by assumption) ?_
  case hi6 => (simp only [List.getElem?_toArray, List.getElem?_cons_succ, List.getElem?_cons_zero]; rfl)
  case hy6 => refine Or.inl ⟨by rfl, ?_⟩; intro w hSw; (try dsimp only at hSw); go_simp <;> with_reducible rfl
  case hQ6 => exact fun _ _ _ h => h
  try simp only [Act.put, List.setIfInBounds_toArray, List.set_cons_zero, List.set_cons_succ]
  refine' wpAnyH_take (i := 7) (v := _) ?hi7 (by kernel_rfl) (by kernel_rfl) (by kernel_rfl) ?hQ7 ?hy7 (by assumption) ?_
  case hi7 => (simp only [List.getElem?_toArray, List.getElem?_cons_succ, List.getElem?_cons_zero]; rfl)
  case hy7 => refine Or.inl ⟨by rfl, ?_⟩; intro w hSw; (try dsimp only at hSw); go_simp <;> with_reducible rfl
  case hQ7 => exact fun _ _ _ h => h
  try simp only [Act.put, List.setIfInBounds_toArray, List.set_cons_zero, List.set_cons_succ]
  refine wpAnyH_ready (rs := [5]) (by kernel_rfl) (by simp) ?_
  refine AllReadyH.cons rfl (fun KK hKK => ?_) ?_
  · go_simp
    go_at_call 83
    refine (mListed_any key A n c B m d C1 k1 e1 a b co _ (ha.ext (Ext.trans E (by repeat (first | with_reducible assumption | with_reducible exact Ext.refl _ | with_reducible apply Ext.alloc | with_reducible apply Ext.drew | with_reducible apply Ext.drewN)))) HA.out (hb.ext (Ext.trans E (by repeat (first | with_reducible assumption | with_reducible exact Ext.refl _ | with_reducible apply Ext.alloc | with_reducible apply Ext.drew | with_reducible apply Ext.drewN)))) HB.out (s1.rd.ext (Ext.trans E (by repeat (first | with_reducible assumption | with_reducible exact Ext.refl _ | with_reducible apply Ext.alloc | with_reducible apply Ext.drew | with_reducible apply Ext.drewN)))) s1.len (by omega) (by omega) (by omega)).mono ?_
    rintro ek wk5 ⟨U, k, c1, rfl, hO5, hb5⟩
    have hx5 := Ext.trans (w := Wb) (by repeat (first | with_reducible assumption | with_reducible exact Ext.refl _ | with_reducible apply Ext.alloc | with_reducible apply Ext.drew | with_reducible apply Ext.drewN)) hb5
    have hlk := hO5.len
    rw [mlL_length, s1.len, HA.out, HB.out] at hlk
    refine hKK.out _ _ ?_ (fun hHeld => ?_)
    · exact hS _ (by repeat (first | with_reducible assumption | with_reducible exact Ext.refl _ | with_reducible apply Ext.alloc | with_reducible apply Ext.drew | with_reducible apply Ext.drewN))
    clear hKK KK
    try simp only [Act.put, List.setIfInBounds_toArray, List.set_cons_zero, List.set_cons_succ]
    refine wpAnyH_ready (rs := [8]) (by kernel_rfl) (by simp) ?_
    refine AllReadyH.cons rfl (fun KK hKK => ?_) ?_
    · refine step_appL (m := k2) intSl (by rfl) _ _ (by rfl) (hO5.ext (by repeat (first | with_reducible assumption | with_reducible exact Ext.refl _ | with_reducible apply Ext.alloc | with_reducible apply Ext.drew | with_reducible apply Ext.drewN))) (by rfl) (s2.rd.ext (Ext.trans E (Ext.trans hx5 (by repeat (first | with_reducible assumption | with_reducible exact Ext.refl _ | with_reducible apply Ext.alloc | with_reducible apply Ext.drew | with_reducible apply Ext.drewN))))) s2.len (by rfl) (by omega) (Nat.le_trans hszb (Ext.size (w := Wb) (Ext.trans hx5 (by repeat (first | with_reducible assumption | with_reducible exact Ext.refl _ | with_reducible apply Ext.alloc | with_reducible apply Ext.drew | with_reducible apply Ext.drewN))))) ?_
      intro U2 c2 wk8 hO8 hbl8
      have hx8 := Ext.then (w := Wb) (Ext.trans hx5 (by repeat (first | with_reducible assumption | with_reducible exact Ext.refl _ | with_reducible apply Ext.alloc | with_reducible apply Ext.drew | with_reducible apply Ext.drewN))) hbl8 (by first | exact Ext.size (w := Wb) (by repeat (first | with_reducible assumption | with_reducible exact Ext.refl _ | with_reducible apply Ext.alloc | with_reducible apply Ext.drew | with_reducible apply Ext.drewN)) | exact Nat.le_refl _ | (simp; done))
      refine hKK.out _ _ ?_ (fun hHeld => ?_)
      · exact hS _ (by repeat (first | with_reducible assumption | with_reducible exact Ext.refl _ | with_reducible apply Ext.alloc | with_reducible apply Ext.drew | with_reducible apply Ext.drewN))
      clear hKK KK
      try simp only [List.getElem_toArray, List.getElem_cons_succ, List.getElem_cons_zero]
      try simp only [Act.put, List.setIfInBounds_toArray, List.set_cons_zero, List.set_cons_succ]
      refine' wpAnyH_take (i := 9) (v := _) ?hi9 (by kernel_rfl) (by kernel_rfl) (by kernel_rfl) ?hQ9 ?hy9 (by assumption) ?_
      case hi9 => (simp only [List.getElem?_toArray, List.getElem?_cons_succ, List.getElem?_cons_zero]; rfl)
      case hy9 => refine Or.inl ⟨by rfl, ?_⟩; intro w hSw; (try dsimp only at hSw); go_simp <;> with_reducible rfl
      case hQ9 => exact fun _ _ _ h => h
      try simp only [Act.put, List.setIfInBounds_toArray, List.set_cons_zero, List.set_cons_succ]
      refine wpAnyH_done (by kernel_rfl) ?_ _
      go_wp2
      have hO9 := hO8
      have hx9 := hx8
      refine wp_region_held_drew (S := fun V => V.cell? ⟨w.heap.size, 0, none⟩ = some (.int .i64 p) ∧ V.cell? ⟨w.heap.size, 1, none⟩ = some (.int .i64 q) ∧ V.cell? ⟨w.heap.size, 2, none⟩ = some (.int .i64 g) ∧ V.cell? ⟨w.heap.size + 1, 0, none⟩ = some (.slice C1 k1 e1) ∧ V.cell? ⟨w.heap.size + 1, 1, none⟩ = some (.slice C2 k2 e2) ∧ V.cell? ⟨w.heap.size + 1, 2, none⟩ = some (.slice C3 k3 e3) ∧ V.cell? ⟨w.heap.size + 1, 3, none⟩ = some (.slice C4 k4 e4) ∧ V.cell? ⟨w.heap.size + 1, 4, none⟩ = some (.slice C5 k5 e5)) (by kernel_rfl) ?_ (fun hHeld => ?_)
      · exact hS _ (by repeat (first | with_reducible assumption | with_reducible exact Ext.refl _ | with_reducible apply Ext.alloc | with_reducible apply Ext.drew | with_reducible apply Ext.drewN))
      refine' wpAnyH_take (i := 0) (v := _) ?hi0 (by kernel_rfl) (by kernel_rfl) (by kernel_rfl) ?hQ0 ?hy0 (by assumption) ?_
      case hi0 => (simp only [List.getElem?_toArray, List.getElem?_cons_zero]; rfl)
      case hy0 => refine Or.inl ⟨by rfl, ?_⟩; intro w hSw; (try dsimp only at hSw); go_simp <;> with_reducible rfl
      case hQ0 => exact fun _ _ _ h => h
      try simp only [Act.put, List.setIfInBounds_toArray, List.set_cons_zero, List.set_cons_succ]
      refine' wpAnyH_take (i := 1) (v := _) ?hi1 (by kernel_rfl) (by kernel_rfl) (by kernel_rfl) ?hQ1 ?hy1 (by assumption) ?_
      case hi1 => (simp only [List.getElem?_toArray, List.getElem?_cons_succ, List.getElem?_cons_zero]; rfl)
      case hy1 => refine Or.inl ⟨by rfl, ?_⟩; intro w hSw; (try dsimp only at hSw); go_simp <;> with_reducible rfl
      case hQ1 => exact fun _ _ _ h => h
      try simp only [Act.put, List.setIfInBounds_toArray, List.set_cons_zero, List.set_cons_succ]
      refine' wpAnyH_take (i := 2) (v := _) ?hi2 (by kernel_rfl) (by kernel_rfl) (by kernel_rfl) ?hQ2 ?hy2 (by assumption) ?_
      case hi2 => (simp only [List.getElem?_toArray, List.getElem?_cons_succ, List.getElem?_cons_zero]; rfl)
      case hy2 => refine Or.inl ⟨by rfl, ?_⟩; intro w hSw; (try dsimp only at hSw); go_simp <;> with_reducible rfl
      case hQ2 => exact fun _ _ _ h => h
      try simp only [Act.put, List.setIfInBounds_toArray, List.set_cons_zero, List.set_cons_succ]
      refine' wpAnyH_take (i := 3) (v := _) ?hi3 (by kernel_rfl) (by kernel_rfl) (by kernel_rfl) ?hQ3 ?hy3 (by assumption) ?_
      case hi3 => (simp only [List.getElem?_toArray, List.getElem?_cons_succ, List.getElem?_cons_zero]; rfl)
      case hy3 => refine Or.inl ⟨by rfl, ?_⟩; intro w hSw; (try dsimp only at hSw); go_simp <;> with_reducible rfl
      case hQ3 => exact fun _ _ _ h => h
      try simp only [Act.put, List.setIfInBounds_toArray, List.set_cons_zero, List.set_cons_succ]
      refine' wpAnyH_take (i := 4) (v := _) ?hi4 (by kernel_rfl) (by kernel_rfl) (by kernel_rfl) ?hQ4 ?hy4 (by assumption) ?_
      case hi4 => (simp only [List.getElem?_toArray, List.getElem?_cons_succ, List.getElem?_cons_zero]; rfl)
      case hy4 => refine Or.inl ⟨by rfl, ?_⟩; intro w hSw; (try dsimp only at hSw); go_simp <;> with_reducible rfl
      case hQ4 => exact fun _ _ _ h => h
      try simp only [Act.put, List.setIfInBounds_toArray, List.set_cons_zero, List.set_cons_succ]
      refine wpAnyH_ready (rs := [5]) (by kernel_rfl) (by simp) ?_
      refine AllReadyH.cons rfl (fun KK hKK => ?_) ?_
      · refine step_appL (m := k3) intSl (by rfl) _ _ (by rfl) (hO9.ext (by repeat (first | with_reducible assumption | with_reducible exact Ext.refl _ | with_reducible apply Ext.alloc | with_reducible apply Ext.drew | with_reducible apply Ext.drewN))) (by rfl) (s3.rd.ext (Ext.trans E (Ext.trans hx9 (by repeat (first | with_reducible assumption | with_reducible exact Ext.refl _ | with_reducible apply Ext.alloc | with_reducible apply Ext.drew | with_reducible apply Ext.drewN))))) s3.len (by rfl) (by omega) (Nat.le_trans hszb (Ext.size (w := Wb) (Ext.trans hx9 (by repeat (first | with_reducible assumption | with_reducible exact Ext.refl _ | with_reducible apply Ext.alloc | with_reducible apply Ext.drew | with_reducible apply Ext.drewN))))) ?_
        intro U3 c3 wk5b hO10 hbl5
        have hx10 := Ext.then (w := Wb) (Ext.trans hx9 (by repeat (first | with_reducible assumption | with_reducible exact Ext.refl _ | with_reducible apply Ext.alloc | with_reducible apply Ext.drew | with_reducible apply Ext.drewN))) hbl5 (by first | exact Ext.size (w := Wb) (by repeat (first | with_reducible assumption | with_reducible exact Ext.refl _ | with_reducible apply Ext.alloc | with_reducible apply Ext.drew | with_reducible apply Ext.drewN)) | exact Nat.le_refl _ | (simp; done))
        refine hKK.out _ _ ?_ (fun hHeld => ?_)
        · exact hS _ (by repeat (first | with_reducible assumption | with_reducible exact Ext.refl _ | with_reducible apply Ext.alloc | with_reducible apply Ext.drew | with_reducible apply Ext.drewN))
        clear hKK KK
        try simp only [List.getElem_toArray, List.getElem_cons_succ, List.getElem_cons_zero]
        try simp only [Act.put, List.setIfInBounds_toArray, List.set_cons_zero, List.set_cons_succ]
        refine wpAnyH_ready (rs := [6]) (by kernel_rfl) (by simp) ?_
        refine AllReadyH.cons rfl (fun KK hKK => ?_) ?_
        · go_simp
          go_at_call 85
          refine (hChallenge_any p q g endS U3 (k + k2 + k3) c3 (mlL key a b co ++ cn ++ cm) _ h (hO10.rd.ext (by repeat (first | with_reducible assumption | with_reducible exact Ext.refl _ | with_reducible apply Ext.alloc | with_reducible apply Ext.drew | with_reducible apply Ext.drewN))) hO10.len (by omega) (by decide) HK.out).mono ?_
          rintro ek wk6 ⟨hek, hb6⟩
          rw [← HZ.out] at hek; subst hek
          have hx11 := Ext.trans (w := Wb) (Ext.trans hx10 (by repeat (first | with_reducible assumption | with_reducible exact Ext.refl _ | with_reducible apply Ext.alloc | with_reducible apply Ext.drew | with_reducible apply Ext.drewN))) hb6
          refine hKK.out _ _ ?_ (fun hHeld => ?_)
          · exact hS _ (by repeat (first | with_reducible assumption | with_reducible exact Ext.refl _ | with_reducible apply Ext.alloc | with_reducible apply Ext.drew | with_reducible apply Ext.drewN))
          clear hKK KK
          try simp only [Act.put, List.setIfInBounds_toArray, List.set_cons_zero, List.set_cons_succ]
          refine' wpAnyH_take (i := 7) (v := _) ?hi7 (by kernel_rfl) (by kernel_rfl) (by kernel_rfl) ?hQ7 ?hy7 (by assumption) ?_
          case hi7 => (simp only [List.getElem?_toArray, List.getElem?_cons_succ, List.getElem?_cons_zero]; rfl)
          case hy7 => refine Or.inl ⟨by rfl, ?_⟩; intro w hSw; (try dsimp only at hSw); go_simp <;> with_reducible rfl
          case hQ7 => exact fun _ _ _ h => h
          try simp only [Act.put, List.setIfInBounds_toArray, List.set_cons_zero, List.set_cons_succ]
          refine wpAnyH_done (by kernel_rfl) ?_ _
          go_wp2
          go_ret
          exact ⟨rfl, E.trans hx11⟩
        exact AllReadyH.nil
      exact AllReadyH.nil
    exact AllReadyH.nil
  exact AllReadyH.nil
end Go.Proofs.YtnhdohjlbchniaaGreat

/- Contracts for ColumnCommits: the program's and the reference's; the reference's bases. -/
import Derived.Test.YtnhdohjlbchniaaGreatProg
import Derived.Test.YtnhdohjlbchniaaGreatMix
import Derived.Test.YtnhdohjlbchniaaGreatApplyC
namespace Go.Proofs.YtnhdohjlbchniaaGreat
open Go.RowKit

theorem desK_hs {p q g : Int} (h : grpB p q g = true) {n : Nat} (hn : n ≤ 24) : desK p q g ⟨#[104, 115]⟩ n = derA p q g ⟨#[104, 115]⟩ n := by
  have h2 : inR (n : Int) 0 100 = true := inR_iff.2 ⟨by omega, by omega⟩
  have h3 : (ByteArray.size ⟨#[104, 115]⟩) ≤ 40 := by decide
  simp [desK, h, h2, h3]
theorem BasPost.no {p q g : Int} {n : Nat} {w w' : World} (hE : Ext w w') : BasPost p q g false n w (.returned (.tuple #[.agg #[.int .i64 0, .slice none 0 0], .bool false])) w' :=
  ⟨0, none, 0, 0, rfl, fun h => (by cases h), fun _ => ⟨rfl, rfl, rfl, rfl⟩, hE⟩
set_option maxRecDepth 100000 in
set_option maxHeartbeats 4000000 in
theorem sBasesOf_any (p q g n : Int) (w : World) :
    Calls Tryz.prog 20 #[.agg #[.int .i64 p, .int .i64 q, .int .i64 g], .int .i64 n] w fun e w' => BasPost p q g (grpB p q g && (inR n 0 24 && basK p q g n.toNat)) n.toNat w e w' := by
  have E := ((Ext.refl w).alloc (.cells #[.int .i64 p, .int .i64 q, .int .i64 g] 33)).alloc (.cells #[.int .i64 0, .slice none 0 0] 49)
  have B := (Blk.new w 33 #[.int .i64 p, .int .i64 q, .int .i64 g]).alloc (.cells #[.int .i64 0, .slice none 0 0] 49)
  have BZ := Blk.new (w.alloc (.cells #[.int .i64 p, .int .i64 q, .int .i64 g] 33)) 49 #[.int .i64 0, .slice none 0 0]
  simp only [World.size_alloc] at BZ
  cases h1 : grpB p q g
  · have H1 := Lib.hid h1
    rw [Bool.false_and]
    clear h1
    go_enter Tryz.func20, Tryz.ntmps20
    have C := B.cells
    go_wp2_with fail
    refine (l2Good_any p q g _).mono ?_
    rintro e w1 ⟨he, hb⟩
    rw [H1.out] at he; subst he
    replace BZ := BZ.ext hb
    have CZ := BZ.cells
    have FZ := BZ.frozen
    go_wp2
    refine ret_bas (h := 0) (A := none) (m := 0) (c := 0) (k := false) ((BZ.set_ 0 (.int .i64 0)).set_ 1 (.slice none 0 0)) rfl rfl rfl ?_
    exact BasPost.no (((E.trans hb).setCell (by simp) _).setCell (by simp) _)
  have H1 := Lib.hid h1
  rw [Bool.true_and]
  cases h2 : inR n 0 24
  · have H2 := Lib.hid h2
    rw [Bool.false_and]
    clear h1 h2
    go_enter Tryz.func20, Tryz.ntmps20
    have C := B.cells
    go_wp2_with fail
    refine (l2Good_any p q g _).mono ?_
    rintro e w1 ⟨he, hb⟩
    rw [H1.out] at he; subst he
    replace BZ := BZ.ext hb
    have CZ := BZ.cells
    have FZ := BZ.frozen
    go_wp2_with fail
    refine (l1In_any _ _ _ _).mono ?_
    rintro e w2 ⟨he, rfl⟩
    rw [H2.out] at he; subst he
    go_wp2
    refine ret_bas (h := 0) (A := none) (m := 0) (c := 0) (k := false) ((BZ.set_ 0 (.int .i64 0)).set_ 1 (.slice none 0 0)) rfl rfl rfl ?_
    exact BasPost.no (((E.trans hb).setCell (by simp) _).setCell (by simp) _)
  have H2 := Lib.hid h2
  have hn := inR_iff.1 h2
  obtain ⟨N, rfl⟩ := Int.eq_ofNat_of_zero_le hn.1
  have hN : N ≤ 24 := by omega
  rw [Bool.true_and, Int.toNat_natCast]
  have hdk := desK_hs h1 hN
  have HDK := Lib.hid hdk
  obtain ⟨V0, hV0⟩ : ∃ V0, derV p q g ⟨#[104]⟩ 0 = V0 := ⟨_, rfl⟩
  obtain ⟨one, hone⟩ : ∃ one, (V0 != 0) = one := ⟨_, rfl⟩
  obtain ⟨two, htwo⟩ : ∃ two, derA p q g ⟨#[104, 115]⟩ N = two := ⟨_, rfl⟩
  have HK : Hid (basK p q g N = (one && two)) := by show _ = _; unfold basK; rw [hV0, hone, htwo]
  have HV0 := Lib.hid hV0
  have HONE := Lib.hid hone
  have HTWO := Lib.hid htwo
  clear h1 h2 hdk hV0 hone htwo
  go_enter Tryz.func20, Tryz.ntmps20
  have C := B.cells
  go_wp2_with fail
  refine (l2Good_any p q g _).mono ?_
  rintro e w1 ⟨he, hb⟩
  rw [H1.out] at he; subst he
  replace E := E.trans hb
  replace B := B.ext hb
  replace BZ := BZ.ext hb
  clear hb C
  have C := B.cells
  go_wp2_with fail
  refine (l1In_any _ _ _ _).mono ?_
  rintro e w2 ⟨he, rfl⟩
  rw [H2.out] at he; subst he
  go_wp2_with fail
  refine (sDeriveElement_yes p q g ⟨#[104]⟩ 0 _ H1.out (by decide) (by omega)).mono ?_
  rintro e w3 ⟨he, hb⟩
  rw [HV0.out, HONE.out] at he; subst he
  replace E := E.trans hb
  replace B := B.ext hb
  replace BZ := BZ.ext hb
  clear hb C
  have C := B.cells
  have hb3 : w.heap.size + 1 < w3.heap.size := BZ.lt
  go_wp2_with fail
  refine (sDeriveElements_any p q g ⟨#[104, 115]⟩ N _ (by decide)).mono ?_
  rintro e w4 ⟨A, m, c, he, hO, hb⟩
  rw [HDK.out, HTWO.out] at he; subst he
  replace E := E.trans hb
  replace B := B.ext hb
  replace BZ := BZ.ext hb
  have hzl := BZ.lt
  clear hb C
  have CZ := BZ.cells
  have FZ := BZ.frozen
  cases one
  · have hk : basK p q g N = false := by rw [HK.out]; rfl
    have HKK := Lib.hid hk
    clear hk
    go_wp2
    refine ret_bas (h := 0) (A := none) (m := 0) (c := 0) (k := false) ((BZ.set_ 0 (.int .i64 0)).set_ 1 (.slice none 0 0)) rfl rfl rfl ?_
    rw [HKK.out]
    exact BasPost.no ((E.setCell (by simp) _).setCell (by simp) _)
  cases two
  · have hk : basK p q g N = false := by rw [HK.out]; rfl
    have HKK := Lib.hid hk
    clear hk
    go_wp2
    refine ret_bas (h := 0) (A := none) (m := 0) (c := 0) (k := false) ((BZ.set_ 0 (.int .i64 0)).set_ 1 (.slice none 0 0)) rfl rfl rfl ?_
    rw [HKK.out]
    exact BasPost.no ((E.setCell (by simp) _).setCell (by simp) _)
  · have hk : basK p q g N = true := by rw [HK.out]; rfl
    have HKK := Lib.hid hk
    clear hk
    have hdl : desL p q g ⟨#[104, 115]⟩ N = derL p q g ⟨#[104, 115]⟩ N := by unfold desL; rw [HDK.out, HTWO.out]; rfl
    rw [hdl] at hO
    have hlt8 := hO.lt
    have hO5 := (hO.keep (w' := w4.setCell ⟨w.heap.size + 1, 0, none⟩ (.int .i64 V0)) fun a ha => Below.heap_setCell _ _ _ _ (by have := (hlt8 a ha).1; simp only [ne_eq]; omega)).keep (w' := (w4.setCell ⟨w.heap.size + 1, 0, none⟩ (.int .i64 V0)).setCell ⟨w.heap.size + 1, 1, none⟩ (.slice A m c)) fun a ha => Below.heap_setCell _ _ _ _ (by have := (hlt8 a ha).1; simp only [ne_eq]; omega)
    go_wp2
    refine ret_bas (h := V0) (A := A) (m := m) (c := c) (k := true) ((BZ.set_ 0 (.int .i64 V0)).set_ 1 (.slice A m c)) rfl rfl rfl ?_
    rw [HKK.out]
    exact ⟨V0, A, m, c, rfl, fun _ => ⟨HV0.out.symm, hO5.more (by omega)⟩, fun h9 => (by cases h9), (E.setCell (by simp) _).setCell (by simp) _⟩
end Go.Proofs.YtnhdohjlbchniaaGreat

/- Contracts for the exported functions of a group. (Printed by tools/gen_grpo.py.) -/
import Derived.Test.YtdimmfniefjjkaaProg
import Derived.Test.YtdimmfniefjjkaaGrpC
namespace Go.Proofs.Ytdimmfniefjjkaa
open Go.RowKit

theorem el_rng {p q x : Int} (h : elB p q x = true) : 1 ≤ x ∧ x ≤ p - 1 := (elB_iff.1 h).1



set_option maxHeartbeats 2000000 in
theorem iExpOf_any (p q g : Int) (x e0 : Int) (w : World) :
    Calls Try.prog 48 #[.agg #[.int .i64 p, .int .i64 q, .int .i64 g], .int .i64 x, .int .i64 e0] w fun e w' => e = .returned (.tuple #[.int .i64 (if (grpB p q g && (elB p q x && inR e0 0 (q - 1))) = true then gpw p q x e0 else 0), .bool (grpB p q g && (elB p q x && inR e0 0 (q - 1)))]) ∧ Ext w w' := by
  obtain ⟨vv, hvv⟩ : ∃ v, (if (grpB p q g && (elB p q x && inR e0 0 (q - 1))) = true then gpw p q x e0 else 0) = v := ⟨_, rfl⟩
  rw [hvv]
  obtain ⟨kk, hkk⟩ : ∃ k, (grpB p q g && (elB p q x && inR e0 0 (q - 1))) = k := ⟨_, rfl⟩
  rw [hkk]
  have E := (Ext.refl w).alloc (.cells #[.int .i64 p, .int .i64 q, .int .i64 g] 37)
  have B := Blk.new w 37 #[.int .i64 p, .int .i64 q, .int .i64 g]
  cases h1 : (grpB p q g)
  · have hk : kk = false := by rw [← hkk]; simp [h1]
    have hv : vv = 0 := by rw [← hvv]; simp [h1]
    rw [hv, hk]
    have H1 := Lib.hid h1
    clear hk hv hkk hvv h1
    go_enter Try.func48, Try.ntmps48
    have C0 := B.cells
    go_wp2_with fail
    refine (IsValidGroup_any p q g _).mono ?_
    rintro e w1 ⟨he, hb⟩
    rw [H1.out] at he; subst he
    replace E := E.trans hb
    replace B := B.ext hb
    clear hb C0
    go_wp2
    go_ret2
    exact ⟨rfl, E⟩
  have hG := (grpB_in h1).bd
  have hGI := grpB_in h1
  cases h2 : (elB p q x)
  · have hk : kk = false := by rw [← hkk]; simp [h1, h2]
    have hv : vv = 0 := by rw [← hvv]; simp [h1, h2]
    rw [hv, hk]
    have H1 := Lib.hid h1
    have H2 := Lib.hid h2
    clear hk hv hkk hvv h1 h2
    go_enter Try.func48, Try.ntmps48
    have C0 := B.cells
    go_wp2_with fail
    refine (IsValidGroup_any p q g _).mono ?_
    rintro e w1 ⟨he, hb⟩
    rw [H1.out] at he; subst he
    replace E := E.trans hb
    replace B := B.ext hb
    clear hb C0
    have C1 := B.cells
    go_wp2_with fail
    refine (has_any p q g x _ hG).mono ?_
    rintro e w2 ⟨he, hb⟩
    rw [H2.out] at he; subst he
    replace E := E.trans hb
    replace B := B.ext hb
    clear hb C1
    go_wp2
    go_ret2
    exact ⟨rfl, E⟩
  cases h3 : (inR e0 0 (q - 1))
  · have hk : kk = false := by rw [← hkk]; simp [h1, h2, h3]
    have hv : vv = 0 := by rw [← hvv]; simp [h1, h2, h3]
    rw [hv, hk]
    have H1 := Lib.hid h1
    have H2 := Lib.hid h2
    have H3 := Lib.hid h3
    clear hk hv hkk hvv h1 h2 h3
    go_enter Try.func48, Try.ntmps48
    have C0 := B.cells
    go_wp2_with fail
    refine (IsValidGroup_any p q g _).mono ?_
    rintro e w1 ⟨he, hb⟩
    rw [H1.out] at he; subst he
    replace E := E.trans hb
    replace B := B.ext hb
    clear hb C0
    have C1 := B.cells
    go_wp2_with fail
    refine (has_any p q g x _ hG).mono ?_
    rintro e w2 ⟨he, hb⟩
    rw [H2.out] at he; subst he
    replace E := E.trans hb
    replace B := B.ext hb
    clear hb C1
    have C2 := B.cells
    go_wp2_with fail
    refine (isExp_any p q g e0 _ hG).mono ?_
    rintro e w3 ⟨he, hb⟩
    rw [H3.out] at he; subst he
    replace E := E.trans hb
    replace B := B.ext hb
    clear hb C2
    go_wp2
    go_ret2
    exact ⟨rfl, E⟩
  have hk : kk = true := by rw [← hkk]; simp [h1, h2, h3]
  have hv : vv = gpw p q x e0 := by rw [← hvv]; simp [h1, h2, h3]
  rw [hv, hk]
  have H1 := Lib.hid h1
  have H2 := Lib.hid h2
  have H3 := Lib.hid h3
  have hp2 := hGI.p9
  clear hk hv hkk hvv h1 h2 h3
  go_enter Try.func48, Try.ntmps48
  have C0 := B.cells
  go_wp2_with fail
  refine (IsValidGroup_any p q g _).mono ?_
  rintro e w1 ⟨he, hb⟩
  rw [H1.out] at he; subst he
  replace E := E.trans hb
  replace B := B.ext hb
  clear hb C0
  have C1 := B.cells
  go_wp2_with fail
  refine (has_any p q g x _ hG).mono ?_
  rintro e w2 ⟨he, hb⟩
  rw [H2.out] at he; subst he
  replace E := E.trans hb
  replace B := B.ext hb
  clear hb C1
  have C2 := B.cells
  go_wp2_with fail
  refine (isExp_any p q g e0 _ hG).mono ?_
  rintro e w3 ⟨he, hb⟩
  rw [H3.out] at he; subst he
  replace E := E.trans hb
  replace B := B.ext hb
  clear hb C2
  have CF := B.cells
  go_wp2_with fail
  refine (pow_any p q g x e0 _ hG (by have := el_rng H2.out; omega) (by have := el_rng H2.out; omega) (by have := inR_iff.1 H3.out; omega) (by have := inR_iff.1 H3.out; have := hGI.qp; omega)).mono ?_
  rintro e wf ⟨rfl, hb⟩
  go_wp2
  go_ret2
  exact ⟨rfl, E.trans hb⟩

set_option maxHeartbeats 1000000 in
theorem iIsElement_any (p q g x : Int) (w : World) :
    Calls Try.prog 54 #[.agg #[.int .i64 p, .int .i64 q, .int .i64 g], .int .i64 x] w fun e w' => e = .returned (.tuple #[.bool (grpB p q g && elB p q x), .bool (grpB p q g)]) ∧ Ext w w' := by
  have E := (Ext.refl w).alloc (.cells #[.int .i64 p, .int .i64 q, .int .i64 g] 37)
  have B := Blk.new w 37 #[.int .i64 p, .int .i64 q, .int .i64 g]
  cases h1 : grpB p q g
  · have hk : (false && elB p q x) = false := rfl
    rw [hk]; clear hk
    go_enter Try.func54, Try.ntmps54
    go_wp2_with fail
    refine (IsValidGroup_any p q g _).mono ?_
    rintro e w1 ⟨he, hb⟩
    rw [h1] at he; subst he
    go_wp2
    go_ret2
    exact ⟨rfl, E.trans hb⟩
  · have hG := (grpB_in h1).bd
    have H1 := Lib.hid h1
    rw [Bool.true_and]
    clear h1
    go_enter Try.func54, Try.ntmps54
    go_wp2_with fail
    refine (IsValidGroup_any p q g _).mono ?_
    rintro e w1 ⟨he, hb⟩
    rw [H1.out] at he; subst he
    replace E := E.trans hb
    have C := (B.ext hb).cells
    clear hb
    go_wp2_with fail
    refine (has_any p q g x _ hG).mono ?_
    rintro e w2 ⟨rfl, hb⟩
    go_wp2
    go_ret2
    exact ⟨rfl, E.trans hb⟩

end Go.Proofs.Ytdimmfniefjjkaa

/- Contracts for the exported functions of a group. (Printed by tools/gen_grpo.py.) -/
import Derived.Test.YticimniegecfeaaProg
import Derived.Test.YticimniegecfeaaGrpC
namespace Go.Proofs.Yticimniegecfeaa
open Go.RowKit

theorem el_rng {p q x : Int} (h : elB p q x = true) : 1 ≤ x ∧ x ≤ p - 1 := (elB_iff.1 h).1

set_option maxHeartbeats 2000000 in
theorem iInverseOf_any (p q g : Int) (x : Int) (w : World) :
    Calls Try.prog 31 #[.agg #[.int .i64 p, .int .i64 q, .int .i64 g], .int .i64 x] w fun e w' => e = .returned (.tuple #[.int .i64 (if (grpB p q g && elB p q x) = true then gpw p q x (-1) else 0), .bool (grpB p q g && elB p q x)]) ∧ Ext w w' := by
  obtain ⟨vv, hvv⟩ : ∃ v, (if (grpB p q g && elB p q x) = true then gpw p q x (-1) else 0) = v := ⟨_, rfl⟩
  rw [hvv]
  obtain ⟨kk, hkk⟩ : ∃ k, (grpB p q g && elB p q x) = k := ⟨_, rfl⟩
  rw [hkk]
  have E := (Ext.refl w).alloc (.cells #[.int .i64 p, .int .i64 q, .int .i64 g] 43)
  have B := Blk.new w 43 #[.int .i64 p, .int .i64 q, .int .i64 g]
  cases h1 : (grpB p q g)
  · have hk : kk = false := by rw [← hkk]; simp [h1]
    have hv : vv = 0 := by rw [← hvv]; simp [h1]
    rw [hv, hk]
    have H1 := Lib.hid h1
    clear hk hv hkk hvv h1
    go_enter Try.func31, Try.ntmps31
    have C0 := B.cells
    go_wp2_with fail
    refine (IsValidGroup_any p q g _).mono ?_
    rintro e w1 ⟨he, hb⟩
    rw [H1.out] at he; subst he
    replace E := E.trans hb
    replace B := B.ext hb
    clear hb C0
    go_wp2
    go_ret2
    exact ⟨rfl, E⟩
  have hG := (grpB_in h1).bd
  have hGI := grpB_in h1
  cases h2 : (elB p q x)
  · have hk : kk = false := by rw [← hkk]; simp [h1, h2]
    have hv : vv = 0 := by rw [← hvv]; simp [h1, h2]
    rw [hv, hk]
    have H1 := Lib.hid h1
    have H2 := Lib.hid h2
    clear hk hv hkk hvv h1 h2
    go_enter Try.func31, Try.ntmps31
    have C0 := B.cells
    go_wp2_with fail
    refine (IsValidGroup_any p q g _).mono ?_
    rintro e w1 ⟨he, hb⟩
    rw [H1.out] at he; subst he
    replace E := E.trans hb
    replace B := B.ext hb
    clear hb C0
    have C1 := B.cells
    go_wp2_with fail
    refine (has_any p q g x _ hG).mono ?_
    rintro e w2 ⟨he, hb⟩
    rw [H2.out] at he; subst he
    replace E := E.trans hb
    replace B := B.ext hb
    clear hb C1
    go_wp2
    go_ret2
    exact ⟨rfl, E⟩
  have hk : kk = true := by rw [← hkk]; simp [h1, h2]
  have hv : vv = gpw p q x (-1) := by rw [← hvv]; simp [h1, h2]
  rw [hv, hk]
  have H1 := Lib.hid h1
  have H2 := Lib.hid h2
  have hp2 := hGI.p9
  clear hk hv hkk hvv h1 h2
  go_enter Try.func31, Try.ntmps31
  have C0 := B.cells
  go_wp2_with fail
  refine (IsValidGroup_any p q g _).mono ?_
  rintro e w1 ⟨he, hb⟩
  rw [H1.out] at he; subst he
  replace E := E.trans hb
  replace B := B.ext hb
  clear hb C0
  have C1 := B.cells
  go_wp2_with fail
  refine (has_any p q g x _ hG).mono ?_
  rintro e w2 ⟨he, hb⟩
  rw [H2.out] at he; subst he
  replace E := E.trans hb
  replace B := B.ext hb
  clear hb C1
  have CF := B.cells
  go_wp2_with fail
  refine (inv_any p q g x _ hG (by have := el_rng H2.out; omega) (by have := el_rng H2.out; omega)).mono ?_
  rintro e wf ⟨rfl, hb⟩
  go_wp2
  go_ret2
  exact ⟨rfl, E.trans hb⟩

set_option maxHeartbeats 2000000 in
theorem sInverseOf_any (p q g : Int) (x : Int) (w : World) :
    Calls Try.prog 32 #[.agg #[.int .i64 p, .int .i64 q, .int .i64 g], .int .i64 x] w fun e w' => e = .returned (.tuple #[.int .i64 (if (grpB p q g && elB p q x) = true then gpw p q x (-1) else 0), .bool (grpB p q g && elB p q x)]) ∧ Ext w w' := by
  obtain ⟨vv, hvv⟩ : ∃ v, (if (grpB p q g && elB p q x) = true then gpw p q x (-1) else 0) = v := ⟨_, rfl⟩
  rw [hvv]
  obtain ⟨kk, hkk⟩ : ∃ k, (grpB p q g && elB p q x) = k := ⟨_, rfl⟩
  rw [hkk]
  have E := (Ext.refl w).alloc (.cells #[.int .i64 p, .int .i64 q, .int .i64 g] 43)
  have B := Blk.new w 43 #[.int .i64 p, .int .i64 q, .int .i64 g]
  cases h1 : (grpB p q g)
  · have hk : kk = false := by rw [← hkk]; simp [h1]
    have hv : vv = 0 := by rw [← hvv]; simp [h1]
    rw [hv, hk]
    have H1 := Lib.hid h1
    clear hk hv hkk hvv h1
    go_enter Try.func32, Try.ntmps32
    have C0 := B.cells
    go_wp2_with fail
    refine (l2Good_any p q g _).mono ?_
    rintro e w1 ⟨he, hb⟩
    rw [H1.out] at he; subst he
    replace E := E.trans hb
    replace B := B.ext hb
    clear hb C0
    go_wp2
    go_ret2
    exact ⟨rfl, E⟩
  have hG := (grpB_in h1).bd
  have hGI := grpB_in h1
  cases h2 : (elB p q x)
  · have hk : kk = false := by rw [← hkk]; simp [h1, h2]
    have hv : vv = 0 := by rw [← hvv]; simp [h1, h2]
    rw [hv, hk]
    have H1 := Lib.hid h1
    have H2 := Lib.hid h2
    clear hk hv hkk hvv h1 h2
    go_enter Try.func32, Try.ntmps32
    have C0 := B.cells
    go_wp2_with fail
    refine (l2Good_any p q g _).mono ?_
    rintro e w1 ⟨he, hb⟩
    rw [H1.out] at he; subst he
    replace E := E.trans hb
    replace B := B.ext hb
    clear hb C0
    have C1 := B.cells
    go_wp2_with fail
    have hI : OwnI (w1.alloc (.cells #[.int .i64 x] 3)) w1.heap.size 3 (some ⟨w1.heap.size, 0, none⟩) 1 1 [x] := ownI_lit [x] rfl rfl (Nat.le_refl _) (by decide)
    replace E := E.alloc (.cells #[.int .i64 x] 3)
    replace B := B.alloc (.cells #[.int .i64 x] 3)
    refine (gIs_any p q g _ 1 1 [x] _ hG hI.rd rfl (by decide)).mono ?_
    rintro e w2 ⟨he, hb⟩
    simp only [List.all_cons, List.all_nil, Bool.and_true] at he
    rw [H2.out] at he; subst he
    clear hI
    replace E := E.trans hb
    replace B := B.ext hb
    clear hb C1
    go_wp2
    go_ret2
    exact ⟨rfl, E⟩
  have hk : kk = true := by rw [← hkk]; simp [h1, h2]
  have hv : vv = gpw p q x (-1) := by rw [← hvv]; simp [h1, h2]
  rw [hv, hk]
  have H1 := Lib.hid h1
  have H2 := Lib.hid h2
  have hp2 := hGI.p9
  clear hk hv hkk hvv h1 h2
  go_enter Try.func32, Try.ntmps32
  have C0 := B.cells
  go_wp2_with fail
  refine (l2Good_any p q g _).mono ?_
  rintro e w1 ⟨he, hb⟩
  rw [H1.out] at he; subst he
  replace E := E.trans hb
  replace B := B.ext hb
  clear hb C0
  have C1 := B.cells
  go_wp2_with fail
  have hI : OwnI (w1.alloc (.cells #[.int .i64 x] 3)) w1.heap.size 3 (some ⟨w1.heap.size, 0, none⟩) 1 1 [x] := ownI_lit [x] rfl rfl (Nat.le_refl _) (by decide)
  replace E := E.alloc (.cells #[.int .i64 x] 3)
  replace B := B.alloc (.cells #[.int .i64 x] 3)
  refine (gIs_any p q g _ 1 1 [x] _ hG hI.rd rfl (by decide)).mono ?_
  rintro e w2 ⟨he, hb⟩
  simp only [List.all_cons, List.all_nil, Bool.and_true] at he
  rw [H2.out] at he; subst he
  clear hI
  replace E := E.trans hb
  replace B := B.ext hb
  clear hb C1
  have CF := B.cells
  go_wp2_with fail
  refine (gInv_any p q g x _ hG (by have := el_rng H2.out; omega) (by have := el_rng H2.out; omega)).mono ?_
  rintro e wf ⟨rfl, hb⟩
  go_wp2
  go_ret2
  exact ⟨rfl, E.trans hb⟩

set_option maxHeartbeats 2000000 in
theorem iExpOf_any (p q g : Int) (x e0 : Int) (w : World) :
    Calls Try.prog 39 #[.agg #[.int .i64 p, .int .i64 q, .int .i64 g], .int .i64 x, .int .i64 e0] w fun e w' => e = .returned (.tuple #[.int .i64 (if (grpB p q g && (elB p q x && inR e0 0 (q - 1))) = true then gpw p q x e0 else 0), .bool (grpB p q g && (elB p q x && inR e0 0 (q - 1)))]) ∧ Ext w w' := by
  obtain ⟨vv, hvv⟩ : ∃ v, (if (grpB p q g && (elB p q x && inR e0 0 (q - 1))) = true then gpw p q x e0 else 0) = v := ⟨_, rfl⟩
  rw [hvv]
  obtain ⟨kk, hkk⟩ : ∃ k, (grpB p q g && (elB p q x && inR e0 0 (q - 1))) = k := ⟨_, rfl⟩
  rw [hkk]
  have E := (Ext.refl w).alloc (.cells #[.int .i64 p, .int .i64 q, .int .i64 g] 43)
  have B := Blk.new w 43 #[.int .i64 p, .int .i64 q, .int .i64 g]
  cases h1 : (grpB p q g)
  · have hk : kk = false := by rw [← hkk]; simp [h1]
    have hv : vv = 0 := by rw [← hvv]; simp [h1]
    rw [hv, hk]
    have H1 := Lib.hid h1
    clear hk hv hkk hvv h1
    go_enter Try.func39, Try.ntmps39
    have C0 := B.cells
    go_wp2_with fail
    refine (IsValidGroup_any p q g _).mono ?_
    rintro e w1 ⟨he, hb⟩
    rw [H1.out] at he; subst he
    replace E := E.trans hb
    replace B := B.ext hb
    clear hb C0
    go_wp2
    go_ret2
    exact ⟨rfl, E⟩
  have hG := (grpB_in h1).bd
  have hGI := grpB_in h1
  cases h2 : (elB p q x)
  · have hk : kk = false := by rw [← hkk]; simp [h1, h2]
    have hv : vv = 0 := by rw [← hvv]; simp [h1, h2]
    rw [hv, hk]
    have H1 := Lib.hid h1
    have H2 := Lib.hid h2
    clear hk hv hkk hvv h1 h2
    go_enter Try.func39, Try.ntmps39
    have C0 := B.cells
    go_wp2_with fail
    refine (IsValidGroup_any p q g _).mono ?_
    rintro e w1 ⟨he, hb⟩
    rw [H1.out] at he; subst he
    replace E := E.trans hb
    replace B := B.ext hb
    clear hb C0
    have C1 := B.cells
    go_wp2_with fail
    refine (has_any p q g x _ hG).mono ?_
    rintro e w2 ⟨he, hb⟩
    rw [H2.out] at he; subst he
    replace E := E.trans hb
    replace B := B.ext hb
    clear hb C1
    go_wp2
    go_ret2
    exact ⟨rfl, E⟩
  cases h3 : (inR e0 0 (q - 1))
  · have hk : kk = false := by rw [← hkk]; simp [h1, h2, h3]
    have hv : vv = 0 := by rw [← hvv]; simp [h1, h2, h3]
    rw [hv, hk]
    have H1 := Lib.hid h1
    have H2 := Lib.hid h2
    have H3 := Lib.hid h3
    clear hk hv hkk hvv h1 h2 h3
    go_enter Try.func39, Try.ntmps39
    have C0 := B.cells
    go_wp2_with fail
    refine (IsValidGroup_any p q g _).mono ?_
    rintro e w1 ⟨he, hb⟩
    rw [H1.out] at he; subst he
    replace E := E.trans hb
    replace B := B.ext hb
    clear hb C0
    have C1 := B.cells
    go_wp2_with fail
    refine (has_any p q g x _ hG).mono ?_
    rintro e w2 ⟨he, hb⟩
    rw [H2.out] at he; subst he
    replace E := E.trans hb
    replace B := B.ext hb
    clear hb C1
    have C2 := B.cells
    go_wp2_with fail
    refine (isExp_any p q g e0 _ hG).mono ?_
    rintro e w3 ⟨he, hb⟩
    rw [H3.out] at he; subst he
    replace E := E.trans hb
    replace B := B.ext hb
    clear hb C2
    go_wp2
    go_ret2
    exact ⟨rfl, E⟩
  have hk : kk = true := by rw [← hkk]; simp [h1, h2, h3]
  have hv : vv = gpw p q x e0 := by rw [← hvv]; simp [h1, h2, h3]
  rw [hv, hk]
  have H1 := Lib.hid h1
  have H2 := Lib.hid h2
  have H3 := Lib.hid h3
  have hp2 := hGI.p9
  clear hk hv hkk hvv h1 h2 h3
  go_enter Try.func39, Try.ntmps39
  have C0 := B.cells
  go_wp2_with fail
  refine (IsValidGroup_any p q g _).mono ?_
  rintro e w1 ⟨he, hb⟩
  rw [H1.out] at he; subst he
  replace E := E.trans hb
  replace B := B.ext hb
  clear hb C0
  have C1 := B.cells
  go_wp2_with fail
  refine (has_any p q g x _ hG).mono ?_
  rintro e w2 ⟨he, hb⟩
  rw [H2.out] at he; subst he
  replace E := E.trans hb
  replace B := B.ext hb
  clear hb C1
  have C2 := B.cells
  go_wp2_with fail
  refine (isExp_any p q g e0 _ hG).mono ?_
  rintro e w3 ⟨he, hb⟩
  rw [H3.out] at he; subst he
  replace E := E.trans hb
  replace B := B.ext hb
  clear hb C2
  have CF := B.cells
  go_wp2_with fail
  refine (pow_any p q g x e0 _ hG (by have := el_rng H2.out; omega) (by have := el_rng H2.out; omega) (by have := inR_iff.1 H3.out; omega) (by have := inR_iff.1 H3.out; have := hGI.qp; omega)).mono ?_
  rintro e wf ⟨rfl, hb⟩
  go_wp2
  go_ret2
  exact ⟨rfl, E.trans hb⟩

set_option maxHeartbeats 1000000 in
theorem iIsElement_any (p q g x : Int) (w : World) :
    Calls Try.prog 37 #[.agg #[.int .i64 p, .int .i64 q, .int .i64 g], .int .i64 x] w fun e w' => e = .returned (.tuple #[.bool (grpB p q g && elB p q x), .bool (grpB p q g)]) ∧ Ext w w' := by
  have E := (Ext.refl w).alloc (.cells #[.int .i64 p, .int .i64 q, .int .i64 g] 43)
  have B := Blk.new w 43 #[.int .i64 p, .int .i64 q, .int .i64 g]
  cases h1 : grpB p q g
  · have hk : (false && elB p q x) = false := rfl
    rw [hk]; clear hk
    go_enter Try.func37, Try.ntmps37
    go_wp2_with fail
    refine (IsValidGroup_any p q g _).mono ?_
    rintro e w1 ⟨he, hb⟩
    rw [h1] at he; subst he
    go_wp2
    go_ret2
    exact ⟨rfl, E.trans hb⟩
  · have hG := (grpB_in h1).bd
    have H1 := Lib.hid h1
    rw [Bool.true_and]
    clear h1
    go_enter Try.func37, Try.ntmps37
    go_wp2_with fail
    refine (IsValidGroup_any p q g _).mono ?_
    rintro e w1 ⟨he, hb⟩
    rw [H1.out] at he; subst he
    replace E := E.trans hb
    have C := (B.ext hb).cells
    clear hb
    go_wp2_with fail
    refine (has_any p q g x _ hG).mono ?_
    rintro e w2 ⟨rfl, hb⟩
    go_wp2
    go_ret2
    exact ⟨rfl, E.trans hb⟩

set_option maxHeartbeats 2000000 in
theorem iMulOf_any (p q g : Int) (A : Option Addr) (n c : Nat) (l : List Int) (w : World) (ha : RdI w A l) (hl : l.length = n) (hn : n ≤ 24) :
    Calls Try.prog 38 #[.agg #[.int .i64 p, .int .i64 q, .int .i64 g], .slice A n c] w fun e w' => e = .returned (.tuple #[.int .i64 (if (grpB p q g && l.all (elB p q)) = true then gmul p l else 0), .bool (grpB p q g && l.all (elB p q))]) ∧ Ext w w' := by
  have E := (Ext.refl w).alloc (.cells #[.int .i64 p, .int .i64 q, .int .i64 g] 43)
  have B := Blk.new w 43 #[.int .i64 p, .int .i64 q, .int .i64 g]
  have hnm : n ≤ maxLen := by unfold maxLen; omega
  have HL := Lib.hid hl
  clear hl
  cases h1 : grpB p q g
  · have hk : (false && l.all (elB p q)) = false := rfl
    have hv : (if false = true then gmul p l else 0) = 0 := rfl
    rw [hk, hv]; clear hk hv
    go_enter Try.func38, Try.ntmps38
    go_wp2_with fail
    refine (IsValidGroup_any p q g _).mono ?_
    rintro e w1 ⟨he, hb⟩
    rw [h1] at he; subst he
    go_wp2
    go_ret2
    exact ⟨rfl, E.trans hb⟩
  have hG := (grpB_in h1).bd
  have hGI := grpB_in h1
  have H1 := Lib.hid h1
  clear h1
  cases h2 : l.all (elB p q)
  · have H2 := Lib.hid h2
    have hv : (if (true && false) = true then gmul p l else 0) = 0 := rfl
    rw [hv, Bool.and_false]
    clear h2 hv
    go_enter Try.func38, Try.ntmps38
    go_wp2_with fail
    refine (IsValidGroup_any p q g _).mono ?_
    rintro e w1 ⟨he, hb⟩
    rw [H1.out] at he; subst he
    replace E := E.trans hb
    replace B := B.ext hb
    have C := B.cells
    clear hb
    go_wp2_with fail
    refine (hasAll_any p q g A n c l _ hG (ha.ext E) HL.out hnm).mono ?_
    rintro e w2 ⟨he, hb⟩
    rw [H2.out] at he; subst he
    go_wp2
    go_ret2
    exact ⟨rfl, E.trans hb⟩
  · have H2 := Lib.hid h2
    have hv : (if (true && true) = true then gmul p l else 0) = gmul p l := rfl
    rw [hv, Bool.and_true]
    clear h2 hv
    go_enter Try.func38, Try.ntmps38
    go_wp2_with fail
    refine (IsValidGroup_any p q g _).mono ?_
    rintro e w1 ⟨he, hb⟩
    rw [H1.out] at he; subst he
    replace E := E.trans hb
    replace B := B.ext hb
    have C := B.cells
    clear hb
    go_wp2_with fail
    refine (hasAll_any p q g A n c l _ hG (ha.ext E) HL.out hnm).mono ?_
    rintro e w2 ⟨he, hb⟩
    rw [H2.out] at he; subst he
    replace E := E.trans hb
    replace B := B.ext hb
    have C2 := B.cells
    clear hb C
    have hp9 := hGI.p9
    go_wp2_with fail
    refine (mul_any p q g A n c l _ hG (ha.ext E) HL.out hnm (fun x hx => by have := el_rng (List.all_eq_true.1 H2.out x hx); omega)).mono ?_
    rintro e w3 ⟨rfl, hb⟩
    go_wp2
    go_ret2
    exact ⟨rfl, E.trans hb⟩
end Go.Proofs.Yticimniegecfeaa

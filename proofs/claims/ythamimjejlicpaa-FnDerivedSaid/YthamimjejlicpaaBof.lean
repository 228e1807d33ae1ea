/- Contracts for BasesOf, the program's and the reference's, and for valid bases. (The reference's is out of Col.) -/
import Derived.Test.YthamimjejlicpaaProg
import Derived.Test.YthamimjejlicpaaBas
import Derived.Test.YthamimjejlicpaaApp
namespace Go.Proofs.Ythamimjejlicpaa
open Go.RowKit

theorem desK_hs {p q g : Int} (h : grpB p q g = true) {n : Nat} (hn : n ≤ 24) : desK p q g ⟨#[104, 115]⟩ n = derA p q g ⟨#[104, 115]⟩ n := by
  have h2 : inR (n : Int) 0 100 = true := inR_iff.2 ⟨by omega, by omega⟩
  have h3 : (ByteArray.size ⟨#[104, 115]⟩) ≤ 40 := by decide
  simp [desK, h, h2, h3]
theorem BasPost.no {p q g : Int} {n : Nat} {w w' : World} (hE : Ext w w') : BasPost p q g false n w (.returned (.tuple #[.agg #[.int .i64 0, .slice none 0 0], .bool false])) w' :=
  ⟨0, none, 0, 0, rfl, fun h => (by cases h), fun _ => ⟨rfl, rfl, rfl, rfl⟩, hE⟩
set_option maxRecDepth 100000 in
set_option maxHeartbeats 4000000 in
theorem sBasesOf_any (p q g n : Int) (w : World) :
    Calls Try.prog 20 #[.agg #[.int .i64 p, .int .i64 q, .int .i64 g], .int .i64 n] w fun e w' => BasPost p q g (grpB p q g && (inR n 0 24 && basK p q g n.toNat)) n.toNat w e w' := by
  have E := ((Ext.refl w).alloc (.cells #[.int .i64 p, .int .i64 q, .int .i64 g] 25)).alloc (.cells #[.int .i64 0, .slice none 0 0] 39)
  have B := (Blk.new w 25 #[.int .i64 p, .int .i64 q, .int .i64 g]).alloc (.cells #[.int .i64 0, .slice none 0 0] 39)
  have BZ := Blk.new (w.alloc (.cells #[.int .i64 p, .int .i64 q, .int .i64 g] 25)) 39 #[.int .i64 0, .slice none 0 0]
  simp only [World.size_alloc] at BZ
  cases h1 : grpB p q g
  · have H1 := Lib.hid h1
    rw [Bool.false_and]
    clear h1
    go_enter Try.func20, Try.ntmps20
    have C := B.cells
    go_wp2_with fail
    refine (l2Good_any p q g _).mono ?_
    rintro e w1 ⟨he, hb⟩
    rw [H1.out] at he; subst he
    replace BZ := BZ.ext hb
    have CZ := BZ.cells
    have FZ := BZ.frozen
    go_wp2
    refine ret_bas (h := 0) (A := none) (m := 0) (c := 0) (k := false) ((BZ.set_ 0 (.int .i64 0)).set_ 1 (.slice none 0 0)) rfl rfl rfl ?_
    exact BasPost.no (((E.trans hb).setCell (by simp) _).setCell (by simp) _)
  have H1 := Lib.hid h1
  rw [Bool.true_and]
  cases h2 : inR n 0 24
  · have H2 := Lib.hid h2
    rw [Bool.false_and]
    clear h1 h2
    go_enter Try.func20, Try.ntmps20
    have C := B.cells
    go_wp2_with fail
    refine (l2Good_any p q g _).mono ?_
    rintro e w1 ⟨he, hb⟩
    rw [H1.out] at he; subst he
    replace BZ := BZ.ext hb
    have CZ := BZ.cells
    have FZ := BZ.frozen
    go_wp2_with fail
    refine (l1In_any _ _ _ _).mono ?_
    rintro e w2 ⟨he, rfl⟩
    rw [H2.out] at he; subst he
    go_wp2
    refine ret_bas (h := 0) (A := none) (m := 0) (c := 0) (k := false) ((BZ.set_ 0 (.int .i64 0)).set_ 1 (.slice none 0 0)) rfl rfl rfl ?_
    exact BasPost.no (((E.trans hb).setCell (by simp) _).setCell (by simp) _)
  have H2 := Lib.hid h2
  have hn := inR_iff.1 h2
  obtain ⟨N, rfl⟩ := Int.eq_ofNat_of_zero_le hn.1
  have hN : N ≤ 24 := by omega
  rw [Bool.true_and, Int.toNat_natCast]
  have hdk := desK_hs h1 hN
  have HDK := Lib.hid hdk
  obtain ⟨V0, hV0⟩ : ∃ V0, derV p q g ⟨#[104]⟩ 0 = V0 := ⟨_, rfl⟩
  obtain ⟨one, hone⟩ : ∃ one, (V0 != 0) = one := ⟨_, rfl⟩
  obtain ⟨two, htwo⟩ : ∃ two, derA p q g ⟨#[104, 115]⟩ N = two := ⟨_, rfl⟩
  have HK : Hid (basK p q g N = (one && two)) := by show _ = _; unfold basK; rw [hV0, hone, htwo]
  have HV0 := Lib.hid hV0
  have HONE := Lib.hid hone
  have HTWO := Lib.hid htwo
  clear h1 h2 hdk hV0 hone htwo
  go_enter Try.func20, Try.ntmps20
  have C := B.cells
  go_wp2_with fail
  refine (l2Good_any p q g _).mono ?_
  rintro e w1 ⟨he, hb⟩
  rw [H1.out] at he; subst he
  replace E := E.trans hb
  replace B := B.ext hb
  replace BZ := BZ.ext hb
  clear hb C
  have C := B.cells
  go_wp2_with fail
  refine (l1In_any _ _ _ _).mono ?_
  rintro e w2 ⟨he, rfl⟩
  rw [H2.out] at he; subst he
  go_wp2_with fail
  refine (sDeriveElement_yes p q g ⟨#[104]⟩ 0 _ H1.out (by decide) (by omega)).mono ?_
  rintro e w3 ⟨he, hb⟩
  rw [HV0.out, HONE.out] at he; subst he
  replace E := E.trans hb
  replace B := B.ext hb
  replace BZ := BZ.ext hb
  clear hb C
  have C := B.cells
  have hb3 : w.heap.size + 1 < w3.heap.size := BZ.lt
  go_wp2_with fail
  refine (sDeriveElements_any p q g ⟨#[104, 115]⟩ N _ (by decide)).mono ?_
  rintro e w4 ⟨A, m, c, he, hO, hb⟩
  rw [HDK.out, HTWO.out] at he; subst he
  replace E := E.trans hb
  replace B := B.ext hb
  replace BZ := BZ.ext hb
  have hzl := BZ.lt
  clear hb C
  have CZ := BZ.cells
  have FZ := BZ.frozen
  cases one
  · have hk : basK p q g N = false := by rw [HK.out]; rfl
    have HKK := Lib.hid hk
    clear hk
    go_wp2
    refine ret_bas (h := 0) (A := none) (m := 0) (c := 0) (k := false) ((BZ.set_ 0 (.int .i64 0)).set_ 1 (.slice none 0 0)) rfl rfl rfl ?_
    rw [HKK.out]
    exact BasPost.no ((E.setCell (by simp) _).setCell (by simp) _)
  cases two
  · have hk : basK p q g N = false := by rw [HK.out]; rfl
    have HKK := Lib.hid hk
    clear hk
    go_wp2
    refine ret_bas (h := 0) (A := none) (m := 0) (c := 0) (k := false) ((BZ.set_ 0 (.int .i64 0)).set_ 1 (.slice none 0 0)) rfl rfl rfl ?_
    rw [HKK.out]
    exact BasPost.no ((E.setCell (by simp) _).setCell (by simp) _)
  · have hk : basK p q g N = true := by rw [HK.out]; rfl
    have HKK := Lib.hid hk
    clear hk
    have hdl : desL p q g ⟨#[104, 115]⟩ N = derL p q g ⟨#[104, 115]⟩ N := by unfold desL; rw [HDK.out, HTWO.out]; rfl
    rw [hdl] at hO
    have hlt8 := hO.lt
    have hO5 := (hO.keep (w' := w4.setCell ⟨w.heap.size + 1, 0, none⟩ (.int .i64 V0)) fun a ha => Below.heap_setCell _ _ _ _ (by have := (hlt8 a ha).1; simp only [ne_eq]; omega)).keep (w' := (w4.setCell ⟨w.heap.size + 1, 0, none⟩ (.int .i64 V0)).setCell ⟨w.heap.size + 1, 1, none⟩ (.slice A m c)) fun a ha => Below.heap_setCell _ _ _ _ (by have := (hlt8 a ha).1; simp only [ne_eq]; omega)
    go_wp2
    refine ret_bas (h := V0) (A := A) (m := m) (c := c) (k := true) ((BZ.set_ 0 (.int .i64 V0)).set_ 1 (.slice A m c)) rfl rfl rfl ?_
    rw [HKK.out]
    exact ⟨V0, A, m, c, rfl, fun _ => ⟨HV0.out.symm, hO5.more (by omega)⟩, fun h9 => (by cases h9), (E.setCell (by simp) _).setCell (by simp) _⟩
set_option maxRecDepth 100000 in
set_option maxHeartbeats 4000000 in
theorem iBasesOf_any (p q g n : Int) (w : World) :
    Calls Try.prog 19 #[.agg #[.int .i64 p, .int .i64 q, .int .i64 g], .int .i64 n] w fun e w' => BasPost p q g (grpB p q g && (inR n 0 24 && basK p q g n.toNat)) n.toNat w e w' := by
  have E := ((Ext.refl w).alloc (.cells #[.int .i64 p, .int .i64 q, .int .i64 g] 25)).alloc (.cells #[.int .i64 0, .slice none 0 0] 39)
  have B := (Blk.new w 25 #[.int .i64 p, .int .i64 q, .int .i64 g]).alloc (.cells #[.int .i64 0, .slice none 0 0] 39)
  have BZ := Blk.new (w.alloc (.cells #[.int .i64 p, .int .i64 q, .int .i64 g] 25)) 39 #[.int .i64 0, .slice none 0 0]
  simp only [World.size_alloc] at BZ
  cases h1 : grpB p q g
  · have H1 := Lib.hid h1
    rw [Bool.false_and]
    clear h1
    go_enter Try.func19, Try.ntmps19
    have C := B.cells
    go_wp2_with fail
    refine (IsValidGroup_any p q g _).mono ?_
    rintro e w1 ⟨he, hb⟩
    rw [H1.out] at he; subst he
    replace BZ := BZ.ext hb
    have CZ := BZ.cells
    have FZ := BZ.frozen
    go_wp2
    refine ret_bas (h := 0) (A := none) (m := 0) (c := 0) (k := false) ((BZ.set_ 0 (.int .i64 0)).set_ 1 (.slice none 0 0)) rfl rfl rfl ?_
    exact BasPost.no (((E.trans hb).setCell (by simp) _).setCell (by simp) _)
  have H1 := Lib.hid h1
  rw [Bool.true_and]
  cases h2 : inR n 0 24
  · have H2 := Lib.hid h2
    rw [Bool.false_and]
    clear h1 h2
    go_enter Try.func19, Try.ntmps19
    have C := B.cells
    go_wp2_with fail
    refine (IsValidGroup_any p q g _).mono ?_
    rintro e w1 ⟨he, hb⟩
    rw [H1.out] at he; subst he
    replace BZ := BZ.ext hb
    have CZ := BZ.cells
    have FZ := BZ.frozen
    go_wp2_with fail
    refine (within_any _ _ _ _).mono ?_
    rintro e w2 ⟨he, rfl⟩
    rw [H2.out] at he; subst he
    go_wp2
    refine ret_bas (h := 0) (A := none) (m := 0) (c := 0) (k := false) ((BZ.set_ 0 (.int .i64 0)).set_ 1 (.slice none 0 0)) rfl rfl rfl ?_
    exact BasPost.no (((E.trans hb).setCell (by simp) _).setCell (by simp) _)
  have H2 := Lib.hid h2
  have hn := inR_iff.1 h2
  obtain ⟨N, rfl⟩ := Int.eq_ofNat_of_zero_le hn.1
  have hN : N ≤ 24 := by omega
  rw [Bool.true_and, Int.toNat_natCast]
  obtain ⟨K, hK⟩ : ∃ K, basK p q g N = K := ⟨_, rfl⟩
  rw [hK]
  have HK := Lib.hid hK
  clear h1 h2 hK
  go_enter Try.func19, Try.ntmps19
  have C := B.cells
  go_wp2_with fail
  refine (IsValidGroup_any p q g _).mono ?_
  rintro e w1 ⟨he, hb⟩
  rw [H1.out] at he; subst he
  have hz1 := E.size
  replace E := E.trans hb
  replace B := B.ext hb
  replace BZ := BZ.ext hb
  clear C
  have C := B.cells
  go_wp2_with fail
  refine (within_any _ _ _ _).mono ?_
  rintro e w2 ⟨he, rfl⟩
  rw [H2.out] at he; subst he
  go_wp2_with fail
  refine (basesOf_any p q g N _ H1.out hN).mono ?_
  rintro e w3 ⟨H, A, m, c, he, hy, hno, hb3⟩
  rw [HK.out] at he hy hno
  subst he
  have hzz := E.size
  have hl9 := BZ.lt
  replace BZ := BZ.ext hb3
  have CZ := BZ.cells
  have FZ := BZ.frozen
  have hz3 := hb3.size
  have hE := (((E.trans hb3).setCell (p := ⟨w.heap.size + 1, 0, none⟩) (by simp) (.int .i64 H)).setCell (p := ⟨w.heap.size + 1, 1, none⟩) (by simp) (.slice A m c))
  have hlt := BZ.lt
  go_wp2
  refine ret_bas (h := H) (A := A) (m := m) (c := c) (k := K) ((BZ.set_ 0 (.int .i64 H)).set_ 1 (.slice A m c)) rfl rfl rfl ?_
  refine ⟨H, A, m, c, rfl, fun hk => ⟨(hy hk).1, ?_⟩, hno, hE⟩
  have hO := (hy hk).2
  have hOw := hO.only (fp := [w.heap.size + 1]) (((Only.refl _ _).setCell (p := ⟨w.heap.size + 1, 0, none⟩) (by simp) (.int .i64 H)).setCell (p := ⟨w.heap.size + 1, 1, none⟩) (by simp) (.slice A m c)) (fun b hb hb' => by
    have h9 := hO.high b hb
    have h8 := BZ
    simp only [List.mem_singleton] at hb'
    omega)
  exact hOw.more (by omega)
/-- 'append(s, xs...)' where it is guarded, and taken. -/
theorem wpList_appLg {P : Program} {w : World} {ops : Array Oper} {rest : List Oper} {o : Oper} {a : Act} {Q : Exit → Act → World → Prop} {t e : TypeId} (S : IntSl P t e)
    (hw : Region.wanted o (yielded ops a.tmps) = true) (s x : Operand) (ho : o.op = .call { callee := .builtin .append, args := #[s, x], argTypes := #[t, t] })
    {base : Nat} {A : Option Addr} {n c : Nat} {l : List Int} (hown : OwnI w base e A n c l) (hs : a.eval s = .slice A n c)
    {B : Option Addr} {m c' : Nat} {ys : List Int} (hr : RdI w B ys) (hl : ys.length = m) (hx : a.eval x = .slice B m c') (hn : n + m ≤ 1000000000) (hb : base ≤ w.heap.size)
    (hK : ∀ A' d w', OwnI w' base e A' (n + m) d (l ++ ys) → Below base w w' → wpList P ops Q rest (a.put o.dst (.slice A' (n + m) d)) w') :
    wpList P ops Q (o :: rest) a w := by
  refine wpList_step fun K hK2 => ?_
  rw [if_pos hw]
  obtain ⟨i, h2, h3, h4, h5⟩ := S.hi
  rcases B with _ | ad
  · have hy : ys = [] := by
      rcases hr with h | ⟨ad, h, _⟩
      · simpa [ints] using h
      · cases h
    subst hy
    simp only [List.length_nil] at hl
    subst hl
    unfold Oper.wp execOp
    simp only [ho, resolve, invoke, builtin, Sem.run_bind, Sem.run_pure, Result.andThen_ok, List.map_toArray, List.map_cons, List.map_nil, hs, hx, run_app_nil S.ht h2 hown c']
    refine hK2 _ _ (hK A c w ?_ (Below.refl base w))
    simpa using hown
  · have hcells : ∀ j u, (ints ys)[j]? = some u → w.cell? (ad.add j) = some u := by
      rcases hr with h | ⟨ad', h, hc⟩
      · rw [h]; intro j u hu; simp at hu
      · injection h with h; subst h; exact hc
    refine wp_append_own w s x t ho base e i (.int .i64 0) 1 8 S.ht h2 h3 h4 h5 rfl (by omega) (.slice A n c) n (ints l) hs hown ad m c' (ints ys) hx (by simp [ints, hl]) hcells (ints_oneCell ys) (by unfold maxLen; omega) (by omega) hb ?_
    intro v' w' h6 h7 h8
    rw [← ints_append] at h6
    have hbl : Below base w w' := (Below.refl base w).grown h7 hb fun k hk => (World.ownsRow.lt hown k hk).1
    have hv : ∃ A' d, v' = .slice A' (n + m) d := by
      rcases h6.2 with ⟨hv, hnm⟩ | ⟨g, cap, cur, hv, _⟩
      · exact ⟨none, 0, by rw [hv, hnm]⟩
      · exact ⟨_, _, hv⟩
    obtain ⟨A', d, rfl⟩ := hv
    exact hK2 _ _ (hK A' d w' h6 hbl)
theorem hasBases_ans (p q g : Int) (w : World) (k : Nat) (l : List Int) (h : GrpB p q) (hB : Blk w k 25 #[.int .i64 p, .int .i64 q, .int .i64 g]) (hl : ∀ x ∈ l, x ≠ 1 ∧ elB p q x = true) : Answers 134 #[.pointer (some ⟨k, 0, none⟩)] w l (fun _ => true) := by
  refine ⟨fun args w => by kernel_rfl, fun x hx w' hE => ?_⟩
  have C := (hB.ext hE).cells
  obtain ⟨h1, h2⟩ := hl x hx
  have z1 : (x != 1) = true := by simp [h1]
  have H2 := Lib.hid h2
  clear h1 h2
  go_enter Try.func134, Try.ntmps134
  go_wp2_with fail
  refine (has_any p q g x _ h).mono ?_
  rintro e w1 ⟨he, hb⟩
  rw [H2.out] at he; subst he
  go_wp2
  go_ret
  exact ⟨rfl, hb⟩
set_option maxRecDepth 100000 in
set_option maxHeartbeats 4000000 in
theorem hasBases_yes (p q g H : Int) (A : Option Addr) (m c : Nat) (l : List Int) (w : World) (h : GrpB p q) (ha : RdI w A l) (hl : l.length = m) (hm : m ≤ 24) (hall : ∀ x ∈ H :: l, x ≠ 1 ∧ elB p q x = true) :
    Calls Try.prog 70 #[.agg #[.int .i64 p, .int .i64 q, .int .i64 g], .agg #[.int .i64 H, .slice A m c]] w fun e w' => e = .returned (.bool true) ∧ Ext w w' := by
  have E := ((Ext.refl w).alloc (.cells #[.int .i64 p, .int .i64 q, .int .i64 g] 25)).alloc (.cells #[.int .i64 H, .slice A m c] 39)
  have B := (Blk.new w 25 #[.int .i64 p, .int .i64 q, .int .i64 g]).alloc (.cells #[.int .i64 H, .slice A m c] 39)
  have BZ := Blk.new (w.alloc (.cells #[.int .i64 p, .int .i64 q, .int .i64 g] 25)) 39 #[.int .i64 H, .slice A m c]
  simp only [World.size_alloc] at BZ
  have CB := B.cells
  have CZ := BZ.cells
  have hal := Ext.alloc (Ext.refl ((w.alloc (.cells #[.int .i64 p, .int .i64 q, .int .i64 g] 25)).alloc (.cells #[.int .i64 H, .slice A m c] 39))) (.cells #[.int .i64 H] 3)
  have CZ2 := (BZ.ext hal).cells
  have hO0 : OwnI (((w.alloc (.cells #[.int .i64 p, .int .i64 q, .int .i64 g] 25)).alloc (.cells #[.int .i64 H, .slice A m c] 39)).alloc (.cells #[.int .i64 H] 3)) (w.heap.size + 1 + 1) 3 (some ⟨w.heap.size + 1 + 1, 0, none⟩) 1 1 [H] := ownI_lit (n := 1) [H] rfl (by simp) (by simp) (by unfold maxLen; omega)
  have E2 := E.trans hal
  have hr2 := ha.ext E2
  have hz2 : w.heap.size + 1 + 1 ≤ (((w.alloc (.cells #[.int .i64 p, .int .i64 q, .int .i64 g] 25)).alloc (.cells #[.int .i64 H, .slice A m c] 39)).alloc (.cells #[.int .i64 H] 3)).heap.size := by simp
  have B2 := B.ext hal
  have HA := Lib.hid hall
  clear hall
  go_enter Try.func70, Try.ntmps70
  go_wp2_with (at_builtin; refine wpList_appLg intSl (by first | rfl | (simp [Region.wanted, yielded, go_sem]; done)) _ _ rfl hO0 rfl hr2 hl rfl (by omega) hz2 ?_; intro A2 d2 w2 hO2 hb2)
  have B3 := B2.below hb2 (by omega)
  have hE3 : Ext w w2 := (E2.then hb2 (by omega))
  refine (areAll_any _ _ _ (H :: l) _ _ _ _ hO2.rd (by simp; omega) (by unfold maxLen; omega) (hasBases_ans p q g _ _ _ h B3 HA.out)).mono ?_
  rintro e w3 ⟨he, hb3⟩
  have hv : ((H :: l).all fun _ => true) = true := by simp
  rw [hv] at he; subst he
  go_wp2
  go_ret
  exact ⟨rfl, hE3.trans hb3⟩
set_option maxHeartbeats 1000000 in
theorem IsValidBases_yes (p q g H : Int) (A : Option Addr) (m c : Nat) (l : List Int) (w : World) (h : grpB p q g = true) (ha : RdI w A l) (hl : l.length = m) (hm : m ≤ 24) (hall : ∀ x ∈ H :: l, x ≠ 1 ∧ elB p q x = true) :
    Calls Try.prog 21 #[.agg #[.int .i64 p, .int .i64 q, .int .i64 g], .agg #[.int .i64 H, .slice A m c]] w fun e w' => e = .returned (.bool true) ∧ Ext w w' := by
  have E := ((Ext.refl w).alloc (.cells #[.int .i64 p, .int .i64 q, .int .i64 g] 25)).alloc (.cells #[.int .i64 H, .slice A m c] 39)
  have B := (Blk.new w 25 #[.int .i64 p, .int .i64 q, .int .i64 g]).alloc (.cells #[.int .i64 H, .slice A m c] 39)
  have BZ := Blk.new (w.alloc (.cells #[.int .i64 p, .int .i64 q, .int .i64 g] 25)) 39 #[.int .i64 H, .slice A m c]
  simp only [World.size_alloc] at BZ
  have HA := Lib.hid hall
  have H1 := Lib.hid h
  have hG := (grpB_in h).bd
  clear hall h
  have CB := B.cells
  go_enter Try.func21, Try.ntmps21
  go_wp2_with fail
  refine (IsValidGroup_any p q g _).mono ?_
  rintro e w1 ⟨he, hb⟩
  rw [H1.out] at he; subst he
  clear CB
  have CB := (B.ext hb).cells
  have CZ := (BZ.ext hb).cells
  go_wp2_with fail
  refine (hasBases_yes p q g H A m c l _ hG (ha.ext (E.trans hb)) hl hm HA.out).mono ?_
  rintro e w2 ⟨rfl, hb2⟩
  go_wp2
  go_ret
  exact ⟨rfl, (E.trans hb).trans hb2⟩
end Go.Proofs.Ythamimjejlicpaa

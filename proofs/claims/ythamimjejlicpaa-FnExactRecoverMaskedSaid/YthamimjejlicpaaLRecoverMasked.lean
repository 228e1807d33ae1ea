/- The law FnExactRecoverMasked returns true for every input. It holds without a condition. (Printed by tools/gen_lrm.py.) -/
import Derived.Test.YthamimjejlicpaaRows
import Derived.Test.YthamimjejlicpaaMsk
import Derived.Test.YthamimjejlicpaaDlK
import Derived.Test.YthamimjejlicpaaOpenD
import Derived.Test.YthamimjejlicpaaFacts
namespace Go.Proofs.Ythamimjejlicpaa
open Go.ChangeShapes Go.WideShapes Go.ChangeAt Go.RowKit
set_option linter.unusedVariables false

namespace lawRecoverMasked
theorem toGroup_any (p q g : Int) (w : World) : Calls Try.prog 32 #[.agg #[.int .i64 p, .int .i64 q, .int .i64 g]] w fun e w' => e = .returned (.agg #[.int .i64 p, .int .i64 q, .int .i64 g]) ∧ Ext w w' := by
  go_enter Try.func32, Try.ntmps32
  go_wp2
  refine bodyPost_ret (v := .agg #[.int .i64 p, .int .i64 q, .int .i64 g]) (by simp [results, Try.results32, go_sem]) rfl ⟨rfl, ?_⟩
  (repeat (first | exact Ext.refl _ | assumption | apply Ext.drew | apply Ext.drewN | apply Ext.alloc | refine Ext.setCell ?_ (by simp; try omega) _))
set_option maxRecDepth 100000 in
set_option maxHeartbeats 4000000 in
theorem walk (p q g : Int) (A : Option Addr) (l : List Int) (c : Nat) (B : Option Addr) (k : List Int) (d : Nat) (i lost : Int) (w : World) (_f0 : Fits p) (_f1 : Fits q) (_f2 : Fits g) (r1 : SlI w A l.length c l) (s1 : SlI w B k.length d k) (_f3 : Fits i) (_f4 : Fits lost) :
    Calls Try.prog 7 #[.agg #[.int .i64 p, .int .i64 q, .int .i64 g], .agg #[.slice A l.length c, .slice B k.length d], .int .i64 i, .int .i64 lost] w fun e w' => e = .returned (.bool true) ∧ Ext w w' := by
  generalize hn : l.length = n at *
  generalize hm : k.length = m at *
  have Hn := Lib.hid hn
  have Hm := Lib.hid hm
  clear hn hm
  have E := (((Ext.refl w).alloc (.cells #[.int .i64 p, .int .i64 q, .int .i64 g] 52)).alloc (.cells #[.slice A n c, .slice B m d] 58))
  have B0 := ((Blk.new w 52 #[.int .i64 p, .int .i64 q, .int .i64 g]).alloc (.cells #[.slice A n c, .slice B m d] 58))
  have B1 := (Blk.new (w.alloc (.cells #[.int .i64 p, .int .i64 q, .int .i64 g] 52)) 58 #[.slice A n c, .slice B m d])
  simp only [World.size_alloc] at B1
  have CC0 := B0.cells
  have CC1 := B1.cells
  rcases Nat.lt_or_ge 1048576 (n + m) with S | S
  · go_enter Try.func7, Try.ntmps7
    go_wp2_with fail
    refine (szSharedKey_no (by omega) (by omega) (by omega) r1.le s1.le).mono ?_
    rintro e w' ⟨rfl, hb⟩
    go_wp2
    go_ret
    exact ⟨rfl, E.trans hb⟩
  go_enter Try.func7, Try.ntmps7
  go_wp2_with fail
  refine (szSharedKey_yes (by omega) (by omega)).mono ?_
  rintro e w1 ⟨rfl, hb⟩
  replace E := E.trans hb
  replace B0 := B0.ext hb
  replace B1 := B1.ext hb
  clear hb CC0 CC1
  have hS : ∀ V, Ext w1 V → V.cell? ⟨w.heap.size, 0, none⟩ = some (.int .i64 p) ∧ V.cell? ⟨w.heap.size, 1, none⟩ = some (.int .i64 q) ∧ V.cell? ⟨w.heap.size, 2, none⟩ = some (.int .i64 g) ∧ V.cell? ⟨w.heap.size + 1, 0, none⟩ = some (.slice A n c) ∧ V.cell? ⟨w.heap.size + 1, 1, none⟩ = some (.slice B m d) := fun V hV => by
    have a0 := (B0.ext hV).cells
    have a1 := (B1.ext hV).cells
    exact ⟨a0 0, a0 1, a0 2, a1 0, a1 1⟩
  go_wp2
  go_region_held3 (fun V => V.cell? ⟨w.heap.size, 0, none⟩ = some (.int .i64 p) ∧ V.cell? ⟨w.heap.size, 1, none⟩ = some (.int .i64 q) ∧ V.cell? ⟨w.heap.size, 2, none⟩ = some (.int .i64 g) ∧ V.cell? ⟨w.heap.size + 1, 0, none⟩ = some (.slice A n c) ∧ V.cell? ⟨w.heap.size + 1, 1, none⟩ = some (.slice B m d)) (exact hS _ (by repeat (first | with_reducible assumption | with_reducible exact Ext.refl _ | with_reducible apply Ext.alloc | with_reducible apply Ext.drew | with_reducible apply Ext.drewN)))
    (first
      | (go_at_call 32; refine (toGroup_any p q g _).mono ?_; rintro en w2 ⟨rfl, hb2⟩; have hx2 := Ext.trans (w := w1) (by repeat (first | with_reducible assumption | with_reducible exact Ext.refl _ | with_reducible apply Ext.alloc | with_reducible apply Ext.drew | with_reducible apply Ext.drewN)) hb2)
      | (go_at_call 39; refine (toSharedKey_any A n c B m d l k _ (r1.rd.ext (Ext.trans E (by repeat (first | with_reducible assumption | with_reducible exact Ext.refl _ | with_reducible apply Ext.alloc | with_reducible apply Ext.drew | with_reducible apply Ext.drewN)))) Hn.out (s1.rd.ext (Ext.trans E (by repeat (first | with_reducible assumption | with_reducible exact Ext.refl _ | with_reducible apply Ext.alloc | with_reducible apply Ext.drew | with_reducible apply Ext.drewN)))) Hm.out (by omega)).mono ?_; rintro en w3 ⟨TA, tc, TB, td, rfl, T, hb3⟩; have hx3 := Ext.trans (w := w1) (by repeat (first | with_reducible assumption | with_reducible exact Ext.refl _ | with_reducible apply Ext.alloc | with_reducible apply Ext.drew | with_reducible apply Ext.drewN)) hb3)
      | (go_at_call 47; refine (sRecoverMaskedD_any p q g TA n tc l TB m td k i lost _ (SlI.ext T.a.sl (by repeat (first | with_reducible assumption | with_reducible exact Ext.refl _ | with_reducible apply Ext.alloc | with_reducible apply Ext.drew | with_reducible apply Ext.drewN))) (SlI.ext T.b.sl (by repeat (first | with_reducible assumption | with_reducible exact Ext.refl _ | with_reducible apply Ext.alloc | with_reducible apply Ext.drew | with_reducible apply Ext.drewN)))).mono ?_; rintro en w4 ⟨rfl, hb4⟩; have hx4 := Ext.trans (w := w1) (by repeat (first | with_reducible assumption | with_reducible exact Ext.refl _ | with_reducible apply Ext.alloc | with_reducible apply Ext.drew | with_reducible apply Ext.drewN)) hb4)
      | fail)
  replace E := E.trans hx4
  replace B0 := B0.ext hx4
  replace B1 := B1.ext hx4
  clear hx2 hx3 hx4 hb2 hb3 hb4 T hS
  have CC0 := B0.cells
  have CC1 := B1.cells
  go_wp2_with fail
  refine (toSharedKey_any A n c B m d l k _ (r1.rd.ext E) Hn.out (s1.rd.ext E) Hm.out (by omega)).mono ?_
  rintro e w5 ⟨XA, xc, XB, xd, rfl, X, hb⟩
  clear CC0 CC1
  have ZX := hb.size
  have LB0 := B0.lt
  have LB1 := B1.lt
  replace E := (E.trans hb).alloc (.cells #[.slice XA n xc, .slice XB m xd] 62)
  replace B0 := (B0.ext hb).alloc (.cells #[.slice XA n xc, .slice XB m xd] 62)
  replace B1 := (B1.ext hb).alloc (.cells #[.slice XA n xc, .slice XB m xd] 62)
  have B2 := Blk.new w5 62 #[.slice XA n xc, .slice XB m xd]
  replace X := X.ext ((Ext.refl w5).alloc (.cells #[.slice XA n xc, .slice XB m xd] 62))
  go_wp2
  generalize hgx : w5.heap.size = gx at *
  generalize w5.alloc (.cells #[.slice XA n xc, .slice XB m xd] 62) = w6 at *
  clear hgx hb
  have hS : ∀ V, Ext w6 V → V.cell? ⟨w.heap.size, 0, none⟩ = some (.int .i64 p) ∧ V.cell? ⟨w.heap.size, 1, none⟩ = some (.int .i64 q) ∧ V.cell? ⟨w.heap.size, 2, none⟩ = some (.int .i64 g) ∧ V.cell? ⟨w.heap.size + 1, 0, none⟩ = some (.slice A n c) ∧ V.cell? ⟨w.heap.size + 1, 1, none⟩ = some (.slice B m d) ∧ V.cell? ⟨gx, 0, none⟩ = some (.slice XA n xc) ∧ V.cell? ⟨gx, 1, none⟩ = some (.slice XB m xd) := fun V hV => by
    have a0 := (B0.ext hV).cells
    have a1 := (B1.ext hV).cells
    have a2 := (B2.ext hV).cells
    exact ⟨a0 0, a0 1, a0 2, a1 0, a1 1, a2 0, a2 1⟩
  go_region_held3 (fun V => V.cell? ⟨w.heap.size, 0, none⟩ = some (.int .i64 p) ∧ V.cell? ⟨w.heap.size, 1, none⟩ = some (.int .i64 q) ∧ V.cell? ⟨w.heap.size, 2, none⟩ = some (.int .i64 g) ∧ V.cell? ⟨w.heap.size + 1, 0, none⟩ = some (.slice A n c) ∧ V.cell? ⟨w.heap.size + 1, 1, none⟩ = some (.slice B m d) ∧ V.cell? ⟨gx, 0, none⟩ = some (.slice XA n xc) ∧ V.cell? ⟨gx, 1, none⟩ = some (.slice XB m xd)) (exact hS _ (by repeat (first | with_reducible assumption | with_reducible exact Ext.refl _ | with_reducible apply Ext.alloc | with_reducible apply Ext.drew | with_reducible apply Ext.drewN)))
    (first
      | (go_at_call 32; refine (toGroup_any p q g _).mono ?_; rintro en w7 ⟨rfl, hb2⟩; have hx2 := Ext.trans (w := w6) (by repeat (first | with_reducible assumption | with_reducible exact Ext.refl _ | with_reducible apply Ext.alloc | with_reducible apply Ext.drew | with_reducible apply Ext.drewN)) hb2)
      | (go_at_call 48; refine (iRecoverMaskedD_any p q g XA n xc l XB m xd k i lost _ (SlI.ext X.a.sl (by repeat (first | with_reducible assumption | with_reducible exact Ext.refl _ | with_reducible apply Ext.alloc | with_reducible apply Ext.drew | with_reducible apply Ext.drewN))) (SlI.ext X.b.sl (by repeat (first | with_reducible assumption | with_reducible exact Ext.refl _ | with_reducible apply Ext.alloc | with_reducible apply Ext.drew | with_reducible apply Ext.drewN)))).mono ?_; rintro en w8 ⟨rfl, hb4⟩; have hx4 := Ext.trans (w := w6) (by repeat (first | with_reducible assumption | with_reducible exact Ext.refl _ | with_reducible apply Ext.alloc | with_reducible apply Ext.drew | with_reducible apply Ext.drewN)) hb4)
      | fail)
  replace E := E.trans hx4
  replace B0 := B0.ext hx4
  replace B1 := B1.ext hx4
  replace B2 := B2.ext hx4
  replace X := X.ext hx4
  clear hx2 hx4 hb2 hb4 hS
  have hS : ∀ V, Ext w8 V → V.cell? ⟨w.heap.size, 0, none⟩ = some (.int .i64 p) ∧ V.cell? ⟨w.heap.size, 1, none⟩ = some (.int .i64 q) ∧ V.cell? ⟨w.heap.size, 2, none⟩ = some (.int .i64 g) ∧ V.cell? ⟨w.heap.size + 1, 0, none⟩ = some (.slice A n c) ∧ V.cell? ⟨w.heap.size + 1, 1, none⟩ = some (.slice B m d) ∧ V.cell? ⟨gx, 0, none⟩ = some (.slice XA n xc) ∧ V.cell? ⟨gx, 1, none⟩ = some (.slice XB m xd) := fun V hV => by
    have a0 := (B0.ext hV).cells
    have a1 := (B1.ext hV).cells
    have a2 := (B2.ext hV).cells
    exact ⟨a0 0, a0 1, a0 2, a1 0, a1 1, a2 0, a2 1⟩
  go_wp2
  go_region_held3 (fun V => V.cell? ⟨w.heap.size, 0, none⟩ = some (.int .i64 p) ∧ V.cell? ⟨w.heap.size, 1, none⟩ = some (.int .i64 q) ∧ V.cell? ⟨w.heap.size, 2, none⟩ = some (.int .i64 g) ∧ V.cell? ⟨w.heap.size + 1, 0, none⟩ = some (.slice A n c) ∧ V.cell? ⟨w.heap.size + 1, 1, none⟩ = some (.slice B m d) ∧ V.cell? ⟨gx, 0, none⟩ = some (.slice XA n xc) ∧ V.cell? ⟨gx, 1, none⟩ = some (.slice XB m xd)) (exact hS _ (by repeat (first | with_reducible assumption | with_reducible exact Ext.refl _ | with_reducible apply Ext.alloc | with_reducible apply Ext.drew | with_reducible apply Ext.drewN)))
    (first
      | (go_at_call 39; refine (toSharedKey_any A n c B m d l k _ (r1.rd.ext (Ext.trans E (by repeat (first | with_reducible assumption | with_reducible exact Ext.refl _ | with_reducible apply Ext.alloc | with_reducible apply Ext.drew | with_reducible apply Ext.drewN)))) Hn.out (s1.rd.ext (Ext.trans E (by repeat (first | with_reducible assumption | with_reducible exact Ext.refl _ | with_reducible apply Ext.alloc | with_reducible apply Ext.drew | with_reducible apply Ext.drewN)))) Hm.out (by omega)).mono ?_; rintro en w9 ⟨YA, yc, YB, yd, rfl, Y, hb3⟩; have hx3 := Ext.trans (w := w8) (by repeat (first | with_reducible assumption | with_reducible exact Ext.refl _ | with_reducible apply Ext.alloc | with_reducible apply Ext.drew | with_reducible apply Ext.drewN)) hb3)
      | (go_at_call 42; refine (eqSharedKey_same (SlI.ext X.a.sl (Ext.trans (w' := w9) hx3 (by repeat (first | with_reducible assumption | with_reducible exact Ext.refl _ | with_reducible apply Ext.alloc | with_reducible apply Ext.drew | with_reducible apply Ext.drewN)))) (SlI.ext X.b.sl (Ext.trans (w' := w9) hx3 (by repeat (first | with_reducible assumption | with_reducible exact Ext.refl _ | with_reducible apply Ext.alloc | with_reducible apply Ext.drew | with_reducible apply Ext.drewN)))) (SlI.ext Y.a.sl (by repeat (first | with_reducible assumption | with_reducible exact Ext.refl _ | with_reducible apply Ext.alloc | with_reducible apply Ext.drew | with_reducible apply Ext.drewN))) (SlI.ext Y.b.sl (by repeat (first | with_reducible assumption | with_reducible exact Ext.refl _ | with_reducible apply Ext.alloc | with_reducible apply Ext.drew | with_reducible apply Ext.drewN)))).mono ?_; rintro en w10 ⟨rfl, hb4⟩; have hx4 := Ext.trans (w := w8) (by repeat (first | with_reducible assumption | with_reducible exact Ext.refl _ | with_reducible apply Ext.alloc | with_reducible apply Ext.drew | with_reducible apply Ext.drewN)) hb4)
      | fail)
  go_wp2
  go_ret
  exact ⟨rfl, E.trans hx4⟩
end lawRecoverMasked

set_option maxRecDepth 100000 in
theorem lawRecoverMasked.lifted (os : Os) (started : os.Started) (H : Type) (enc : TypeId × Value → H) :
    ReturnsInHanded {} Try.checked os 7 .any (Rows.fnExactRecoverMaskedSpec.pre6 enc Try.prog Try.f7 Rows.fnExactRecoverMaskedRow.domain false) (Rows.fnExactRecoverMaskedSpec.post enc Try.prog Try.f7 false true false false) := by
  refine returnsInHanded_of_change (C := Try.checked) Facts.own started (by kernel_rfl) Try.func7
    (ChangeSpec.witness6 (enc := enc) (C := Try.checked) false ⟨#[], #[.agg #[.int .i64 0, .int .i64 0, .int .i64 0], .agg #[.slice none 0 0, .slice none 0 0], .int .i64 0, .int .i64 0], []⟩ 8 (by kernel_rfl) (by kernel_rfl) (by kernel_rfl) (by kernel_rfl)) ?_
  intro W base args ds gs before hval0 hW _ _
  have hval : ∀ (j : Nat) t v, Try.f7.params[j]? = some t → args[j]? = some v → Value.okWide Try.prog W .any base t v := hval0
  have hW' := hW
  obtain ⟨p, q, hA0, hV, rfl, hfz, hnd⟩ := hW
  have hA : DataW.TrodAll enc Try.prog W 0 (fun _ => true) true Try.f7.params.toList args.toList ds p := hA0
  rw [Try.params7] at hA hval
  obtain ⟨v0, vs0, d0, ds0, p0, q0, hargs, rfl, rfl, h0, r0⟩ := trodAll_cons hA
  obtain ⟨v1, vs1, d1, ds1, p1, q1, rfl, rfl, rfl, h1, r1⟩ := trodAll_cons r0
  obtain ⟨v2, vs2, d2, ds2, p2, q2, rfl, rfl, rfl, h2, r2⟩ := trodAll_cons r1
  obtain ⟨v3, vs3, d3, ds3, p3, q3, rfl, rfl, rfl, h3, r3⟩ := trodAll_cons r2
  obtain ⟨rfl, rfl, rfl⟩ := trodAll_nil r3
  obtain rfl : args = #[v0, v1, v2, v3] := by cases args; simp_all
  obtain ⟨rfl, rfl⟩ := trodVars_none hV
  have hlt := hW'.lt
  clear hA hA0 hval0 hargs r0 r1 r2 r3
  have k0 := h0
  have k1 := h1
  have k2 := h2
  have k3 := h3
  obtain ⟨x0_0, x0_1, x0_2, rfl, f0_0, f0_1, f0_2⟩ := openAgg3 Try.underlying52 (by kernel_rfl) (by kernel_rfl) rfl (hval 0 52 v0 rfl rfl) h0
  obtain ⟨A1, l1, c1, D1, k1l, e1, rfl, r1, s1l⟩ := openKS Try.underlying58 (by kernel_rfl) (by kernel_rfl) rfl (hval 1 58 v1 rfl rfl) h1
  obtain ⟨a2, rfl, f2⟩ := openI Try.underlying3 (hval 2 3 v2 rfl rfl) h2
  obtain ⟨a3, rfl, f3⟩ := openI Try.underlying3 (hval 3 3 v3 rfl rfl) h3
  refine (lawRecoverMasked.walk x0_0 x0_1 x0_2 A1 l1 c1 D1 k1l e1 a2 a3 W f0_0 f0_1 f0_2 r1 s1l f2 f3).mono fun e W' ⟨he, hg⟩ => ?_
  subst he
  exact ⟨_, rfl, post_below (pv := []) hW' (fun _ _ _ => (trodAll_cons_mk (shut_bool Try.underlying4 _) trodAll_mk0)) (fun sp hsp => (trodAll_cons_mk (WideElems.Trod_stays Facts.laidOut (by kernel_rfl) (of_decide_eq_true (by kernel_rfl)) k0 (fun x hx => hg.same (hlt x (by simp [hx]))) (fun x hx => hsp x (by simp [hx]))) (trodAll_cons_mk (WideElems.Trod_stays Facts.laidOut (by kernel_rfl) (of_decide_eq_true (by kernel_rfl)) k1 (fun x hx => hg.same (hlt x (by simp [hx]))) (fun x hx => hsp x (by simp [hx]))) (trodAll_cons_mk (WideElems.Trod_stays Facts.laidOut (by kernel_rfl) (of_decide_eq_true (by kernel_rfl)) k2 (fun x hx => hg.same (hlt x (by simp [hx]))) (fun x hx => hsp x (by simp [hx]))) (trodAll_cons_mk (WideElems.Trod_stays Facts.laidOut (by kernel_rfl) (of_decide_eq_true (by kernel_rfl)) k3 (fun x hx => hg.same (hlt x (by simp [hx]))) (fun x hx => hsp x (by simp [hx]))) trodAll_mk0))))) (fun _ _ => rfl) rfl
    hg (ok_one (by kernel_rfl) rfl (okWide_bool_mk Try.underlying4 _))⟩

theorem lawRecoverMasked.named : Try.pinned.checked.prog.funcNamed Rows.fnExactRecoverMaskedRow.func = some 7 := by kernel_rfl
theorem lawRecoverMasked.z9 : (Rows.fnExactRecoverMaskedRow.inPlace == Try.prog.inPlace 7) = true := by kernel_rfl
theorem lawRecoverMasked.z10 : (Rows.fnExactRecoverMaskedRow.unfollowed == Try.prog.unfollowed 7) = true := by kernel_rfl
theorem lawRecoverMasked.z11 : (Rows.fnExactRecoverMaskedRow.recurses == Try.prog.recurses 7) = true := by kernel_rfl
theorem lawRecoverMasked.z12 : (Rows.fnExactRecoverMaskedRow.named == Try.prog.varsNamed 7) = true := by kernel_rfl
theorem lawRecoverMasked.closed : joinedFacts Try.prog 7 Try.f7 Rows.fnExactRecoverMaskedSpec Rows.fnExactRecoverMaskedRow = true :=
  joined_of (by kernel_rfl) Facts.laidOut Facts.mapsRowed (by kernel_rfl) (by kernel_rfl) (by kernel_rfl) (by kernel_rfl) (by kernel_rfl) (by kernel_rfl) lawRecoverMasked.z9 lawRecoverMasked.z10 lawRecoverMasked.z11 lawRecoverMasked.z12 (by kernel_rfl) (by kernel_rfl) (by kernel_rfl) (by kernel_rfl) (by kernel_rfl) (by kernel_rfl) (by kernel_rfl) (by kernel_rfl) (by kernel_rfl) (by rw [Facts.plainKeys]; rfl) (by kernel_rfl) Facts.heard Facts.enter (by rw [Facts.lifts]; rfl) (by rw [Facts.make]; rfl) (by kernel_rfl) (by kernel_rfl) (by kernel_rfl) (by kernel_rfl)
theorem lawRecoverMasked.inst : Try.f7.isInstance Try.pinned.checked.prog Rows.fnExactRecoverMaskedRow.origin Rows.fnExactRecoverMaskedRow.targs := of_decide_eq_true (by kernel_rfl)
theorem lawRecoverMasked.wrap : Try.f7.isWrapper Try.pinned.checked.prog Rows.fnExactRecoverMaskedRow.wrapper Rows.fnExactRecoverMaskedRow.mainSum := by
  unfold Func.isWrapper; first | (rw [if_pos (by decide +kernel)]; kernel_rfl) | (rw [if_neg (by decide +kernel)]; exact ⟨rfl, rfl⟩)
theorem lawRecoverMasked.over : Rows.fnExactRecoverMaskedRow.holds Try.pinned (OpenSpec.ofChange Rows.fnExactRecoverMaskedSpec) :=
  OpenClaim.holds_of_wide 7 Try.f7 rfl rfl rfl rfl rfl rfl rfl ⟨rfl, rfl, rfl, rfl, rfl⟩ rfl rfl rfl rfl rfl lawRecoverMasked.named Try.func7 lawRecoverMasked.closed
    lawRecoverMasked.inst lawRecoverMasked.wrap (fun os started H enc _ => lawRecoverMasked.lifted os started H enc)

theorem lawRecoverMasked.proved : Rows.FnExactRecoverMaskedSaid := lawRecoverMasked.over
#print axioms lawRecoverMasked.proved
end Go.Proofs.Ythamimjejlicpaa

/- Drawn transcripts. (Printed by tools/gen_curx.py.) -/
import Derived.Test.YtdimmfniefjjkaaProg
import Derived.Test.YtdimmfniefjjkaaCurE
import Derived.Test.YtdimmfniefjjkaaExtC
namespace Go.Proofs.Ytdimmfniefjjkaa
open Go.RowKit

set_option maxRecDepth 100000 in
set_option maxHeartbeats 4000000 in
theorem transcript_any {B : Nat} (g k : Nat) (P Q G base y : Int) (w : World) (h : CurS B w g k) (hk : k ≤ 700000) (hB : B ≤ w.heap.size) (hD : GrpD P Q G) :
    Calls Try.prog 133 #[.pointer (some ⟨g, 0, none⟩), .agg #[.int .i64 P, .int .i64 Q, .int .i64 G], .int .i64 base, .int .i64 y] w fun e w' => ∃ t c z : Int, e = .returned (.agg #[.int .i64 t, .int .i64 c, .int .i64 z]) ∧ Only [g] w w' ∧ CurS B w' g (k + 40) := by
  have hg := h.lt
  have hE := ((Ext.refl w).alloc (.cells #[.int .i64 P, .int .i64 Q, .int .i64 G] 37)).alloc (.cells #[.int .i64 0, .int .i64 0, .int .i64 0] 61)
  have B0 := (Blk.new w 37 #[.int .i64 P, .int .i64 Q, .int .i64 G]).alloc (.cells #[.int .i64 0, .int .i64 0, .int .i64 0] 61)
  have BR := Blk.new (w.alloc (.cells #[.int .i64 P, .int .i64 Q, .int .i64 G] 37)) 61 #[.int .i64 0, .int .i64 0, .int .i64 0]
  simp only [World.size_alloc] at BR
  have h0 := h.ext hE
  have hsz : ((w.alloc (.cells #[.int .i64 P, .int .i64 Q, .int .i64 G] 37)).alloc (.cells #[.int .i64 0, .int .i64 0, .int .i64 0] 61)).heap.size = w.heap.size + 2 := by simp only [World.size_alloc]
  have hO0 := hE.toOnly [g]
  cases h1 : grpB P Q G
  · have H1 := Lib.hid h1
    clear h1
    go_enter Try.func133, Try.ntmps133
    have C0 := B0.cells
    go_wp2_with fail
    refine (l2Good_any P Q G _).mono ?_
    rintro e wv ⟨he, hb⟩
    rw [H1.out] at he; subst he
    replace B0 := B0.ext hb
    replace BR := BR.ext hb
    have hCv := h0.ext hb
    have hOv := hO0.thenOnly (hb.toOnly [g])
    have hsv : w.heap.size + 2 ≤ wv.heap.size := by have := hb.size; omega
    clear hb C0 hE h0 hO0 hsz
    go_wp2
    have hS : ∀ V, Blk V w.heap.size 37 #[.int .i64 P, .int .i64 Q, .int .i64 G] → V.cell? ⟨w.heap.size, 0, none⟩ = some (.int .i64 P) ∧ V.cell? ⟨w.heap.size, 1, none⟩ = some (.int .i64 Q) ∧ V.cell? ⟨w.heap.size, 2, none⟩ = some (.int .i64 G) := fun V h => ⟨h.cells 0, h.cells 1, h.cells 2⟩
    go_region_held3 (fun V => V.cell? ⟨w.heap.size, 0, none⟩ = some (.int .i64 P) ∧ V.cell? ⟨w.heap.size, 1, none⟩ = some (.int .i64 Q) ∧ V.cell? ⟨w.heap.size, 2, none⟩ = some (.int .i64 G)) (exact hS _ (by repeat (first | with_reducible assumption | with_reducible refine Blk.drew ?_ | with_reducible refine Blk.drewN ?_ _ | with_reducible refine Blk.farr ?_ ?_ | focus (show _ ≠ _; first | (simp; done) | (simp; omega) | omega))))
      (first
        | (go_at_call 121; refine (anyElement_any g _ P Q G _ (hCv.ext ((Ext.refl _).drew)) (by omega) (by simp; omega) hD).mono ?_; rintro e wx ⟨t, rfl, ht0, ht1, hOx, hCx⟩; have BGx := B0.drew.only hOx (by simp <;> omega); have BRx := BR.drew.only hOx (by simp <;> omega); have hsx := BGx.lt)
        | (go_at_call 111; first | (have hz := hCy; refine (anyExpo_any g _ P Q G _ hCy (by omega) (by omega) hD).mono ?_; rintro e wz ⟨z, rfl, hz0, hz1, hOz, hCz⟩; have BGz := BGy.only hOz (by simp <;> omega); have BX := BRy.only hOz (by simp <;> omega); have FX := BX.frozen; have CX := BX.cells) | (refine (anyExpo_any g _ P Q G _ hCx (by omega) (by omega) hD).mono ?_; rintro e wy ⟨c, rfl, hc0, hc1, hOy, hCy⟩; have BGy := BGx.only hOy (by simp <;> omega); have BRy := BRx.only hOy (by simp <;> omega); have hsy := BGy.lt) | fail)
        | fail)
    go_wp2
    refine ret_tr (a := t) (b := c) (c := z) (((BX.set_ 0 (.int .i64 t)).set_ 1 (.int .i64 c)).set_ 2 (.int .i64 z)) rfl rfl ?_
    have L9 := below_3 (g := w.heap.size + 1) wz (.int .i64 t) (.int .i64 c) (.int .i64 z)
    exact ⟨t, c, z, rfl, ((((hOv.drewN 1).thenOnly hOx).thenOnly hOy).thenOnly hOz).thenBelow L9 (by omega), (hCz.below (L9.mono (by omega))).more (by omega)⟩
  have hGI := grpB_in h1
  have hGB := hGI.bd
  have H1 := Lib.hid h1
  clear h1
  cases h2 : elB P Q base && elB P Q y
  · have H2 := Lib.hid h2
    clear h2
    go_enter Try.func133, Try.ntmps133
    have C0 := B0.cells
    go_wp2_with fail
    refine (l2Good_any P Q G _).mono ?_
    rintro e w1 ⟨he, hb⟩
    rw [H1.out] at he; subst he
    replace B0 := B0.ext hb
    replace BR := BR.ext hb
    replace h0 := h0.ext hb
    replace hO0 := hO0.thenOnly (hb.toOnly [g])
    have hs1 : w.heap.size + 2 ≤ w1.heap.size := by have := hb.size; omega
    clear hb C0 hE hsz
    have C0 := B0.cells
    go_wp2_with fail
    refine (gIs_any P Q G _ 2 2 [base, y] _ hGB (rd_two (by simp)) rfl (by decide)).mono ?_
    rintro e wv ⟨he, hb⟩
    simp only [List.all_cons, List.all_nil, Bool.and_true] at he
    rw [H2.out] at he; subst he
    have hb' := ((Ext.refl w1).alloc (.cells #[.int .i64 base, .int .i64 y] 3)).trans hb
    replace B0 := B0.ext hb'
    replace BR := BR.ext hb'
    have hCv := h0.ext hb'
    have hOv := hO0.thenOnly (hb'.toOnly [g])
    have hsv : w.heap.size + 2 ≤ wv.heap.size := by have := hb'.size; omega
    clear hb hb' C0 h0 hO0 hs1
    go_wp2
    have hS : ∀ V, Blk V w.heap.size 37 #[.int .i64 P, .int .i64 Q, .int .i64 G] → V.cell? ⟨w.heap.size, 0, none⟩ = some (.int .i64 P) ∧ V.cell? ⟨w.heap.size, 1, none⟩ = some (.int .i64 Q) ∧ V.cell? ⟨w.heap.size, 2, none⟩ = some (.int .i64 G) := fun V h => ⟨h.cells 0, h.cells 1, h.cells 2⟩
    go_region_held3 (fun V => V.cell? ⟨w.heap.size, 0, none⟩ = some (.int .i64 P) ∧ V.cell? ⟨w.heap.size, 1, none⟩ = some (.int .i64 Q) ∧ V.cell? ⟨w.heap.size, 2, none⟩ = some (.int .i64 G)) (exact hS _ (by repeat (first | with_reducible assumption | with_reducible refine Blk.drew ?_ | with_reducible refine Blk.drewN ?_ _ | with_reducible refine Blk.farr ?_ ?_ | focus (show _ ≠ _; first | (simp; done) | (simp; omega) | omega))))
      (first
        | (go_at_call 121; refine (anyElement_any g _ P Q G _ (hCv.ext ((Ext.refl _).drew)) (by omega) (by simp; omega) hD).mono ?_; rintro e wx ⟨t, rfl, ht0, ht1, hOx, hCx⟩; have BGx := B0.drew.only hOx (by simp <;> omega); have BRx := BR.drew.only hOx (by simp <;> omega); have hsx := BGx.lt)
        | (go_at_call 111; first | (have hz := hCy; refine (anyExpo_any g _ P Q G _ hCy (by omega) (by omega) hD).mono ?_; rintro e wz ⟨z, rfl, hz0, hz1, hOz, hCz⟩; have BGz := BGy.only hOz (by simp <;> omega); have BX := BRy.only hOz (by simp <;> omega); have FX := BX.frozen; have CX := BX.cells) | (refine (anyExpo_any g _ P Q G _ hCx (by omega) (by omega) hD).mono ?_; rintro e wy ⟨c, rfl, hc0, hc1, hOy, hCy⟩; have BGy := BGx.only hOy (by simp <;> omega); have BRy := BRx.only hOy (by simp <;> omega); have hsy := BGy.lt) | fail)
        | fail)
    go_wp2
    refine ret_tr (a := t) (b := c) (c := z) (((BX.set_ 0 (.int .i64 t)).set_ 1 (.int .i64 c)).set_ 2 (.int .i64 z)) rfl rfl ?_
    have L9 := below_3 (g := w.heap.size + 1) wz (.int .i64 t) (.int .i64 c) (.int .i64 z)
    exact ⟨t, c, z, rfl, ((((hOv.drewN 1).thenOnly hOx).thenOnly hOy).thenOnly hOz).thenBelow L9 (by omega), (hCz.below (L9.mono (by omega))).more (by omega)⟩
  have H2 := Lib.hid h2
  have rb := el_rng (Bool.and_eq_true _ _ |>.mp h2).1
  have ry := el_rng (Bool.and_eq_true _ _ |>.mp h2).2
  have hp9 := hGI.p9
  clear h2
  go_enter Try.func133, Try.ntmps133
  have C0 := B0.cells
  go_wp2_with fail
  refine (l2Good_any P Q G _).mono ?_
  rintro e w1 ⟨he, hb⟩
  rw [H1.out] at he; subst he
  replace B0 := B0.ext hb
  replace BR := BR.ext hb
  replace h0 := h0.ext hb
  replace hO0 := hO0.thenOnly (hb.toOnly [g])
  have hs1 : w.heap.size + 2 ≤ w1.heap.size := by have := hb.size; omega
  clear hb C0 hE hsz
  have C0 := B0.cells
  go_wp2_with fail
  refine (gIs_any P Q G _ 2 2 [base, y] _ hGB (rd_two (by simp)) rfl (by decide)).mono ?_
  rintro e w2 ⟨he, hb⟩
  simp only [List.all_cons, List.all_nil, Bool.and_true] at he
  rw [H2.out] at he; subst he
  have hb' := ((Ext.refl w1).alloc (.cells #[.int .i64 base, .int .i64 y] 3)).trans hb
  replace B0 := B0.ext hb'
  replace BR := BR.ext hb'
  replace h0 := h0.ext hb'
  replace hO0 := hO0.thenOnly (hb'.toOnly [g])
  have hs2 : w.heap.size + 2 ≤ w2.heap.size := by have := hb'.size; omega
  clear hb hb' C0 hs1
  go_wp2_with fail
  refine (one_any g _ 8 _ h0 (by omega) (by omega)).mono ?_
  rintro e wv ⟨b, rfl, hO1, hCv⟩
  replace B0 := B0.only hO1 (by simp <;> omega)
  replace BR := BR.only hO1 (by simp <;> omega)
  have hOv := hO0.thenOnly hO1
  have hsv : w.heap.size + 2 ≤ wv.heap.size := by have := hO1.size; omega
  clear hO1 hO0 h0 hs2
  cases b
  · go_wp2
    have hS : ∀ V, Blk V w.heap.size 37 #[.int .i64 P, .int .i64 Q, .int .i64 G] → V.cell? ⟨w.heap.size, 0, none⟩ = some (.int .i64 P) ∧ V.cell? ⟨w.heap.size, 1, none⟩ = some (.int .i64 Q) ∧ V.cell? ⟨w.heap.size, 2, none⟩ = some (.int .i64 G) := fun V h => ⟨h.cells 0, h.cells 1, h.cells 2⟩
    go_region_held3 (fun V => V.cell? ⟨w.heap.size, 0, none⟩ = some (.int .i64 P) ∧ V.cell? ⟨w.heap.size, 1, none⟩ = some (.int .i64 Q) ∧ V.cell? ⟨w.heap.size, 2, none⟩ = some (.int .i64 G)) (exact hS _ (by repeat (first | with_reducible assumption | with_reducible refine Blk.drew ?_ | with_reducible refine Blk.drewN ?_ _ | with_reducible refine Blk.farr ?_ ?_ | focus (show _ ≠ _; first | (simp; done) | (simp; omega) | omega))))
      (first
        | (go_at_call 134; first | (have hz := hCx; refine (expo_any g _ P Q G _ hCx (by omega) (by omega) hD).mono ?_; rintro e wy ⟨z, rfl, hz0, hz1, hz2, hOy, hCy⟩; have BGy := BGx.only hOy (by simp <;> omega); have BRy := BRx.only hOy (by simp <;> omega)) | (refine (expo_any g _ P Q G _ (hCv.ext ((Ext.refl _).drew)) (by omega) (by simp; omega) hD).mono ?_; rintro e wx ⟨c, rfl, hc0, hc1, hc2, hOx, hCx⟩; have BGx := B0.drew.only hOx (by simp <;> omega); have BRx := BR.drew.only hOx (by simp <;> omega); have hsx := BGx.lt) | fail)
        | (go_at_call 143; refine (xSimulate_any P Q G base y c z _ hGB (by omega) (by omega) (by omega) (by omega)).mono ?_; rintro e wz ⟨rfl, hbz⟩; have BGz := BGy.ext hbz; have BX := BRy.ext hbz; have FX := BX.frozen; have CX := BX.cells)
        | fail)
    go_wp2
    obtain ⟨t, ht⟩ : ∃ t, gmul P [gpw P Q base z, gpw P Q y (-c)] = t := ⟨_, rfl⟩
    rw [ht]
    refine ret_tr (a := t) (b := c) (c := z) (((BX.set_ 0 (.int .i64 t)).set_ 1 (.int .i64 c)).set_ 2 (.int .i64 z)) rfl rfl ?_
    have L9 := below_3 (g := w.heap.size + 1) wz (.int .i64 t) (.int .i64 c) (.int .i64 z)
    exact ⟨t, c, z, rfl, ((((hOv.drewN 1).thenOnly hOx).thenOnly hOy).thenOnly (hbz.toOnly [g])).thenBelow L9 (by omega), ((hCy.ext hbz).below (L9.mono (by omega))).more (by omega)⟩
  · go_wp2
    have hS : ∀ V, Blk V w.heap.size 37 #[.int .i64 P, .int .i64 Q, .int .i64 G] → V.cell? ⟨w.heap.size, 0, none⟩ = some (.int .i64 P) ∧ V.cell? ⟨w.heap.size, 1, none⟩ = some (.int .i64 Q) ∧ V.cell? ⟨w.heap.size, 2, none⟩ = some (.int .i64 G) := fun V h => ⟨h.cells 0, h.cells 1, h.cells 2⟩
    go_region_held3 (fun V => V.cell? ⟨w.heap.size, 0, none⟩ = some (.int .i64 P) ∧ V.cell? ⟨w.heap.size, 1, none⟩ = some (.int .i64 Q) ∧ V.cell? ⟨w.heap.size, 2, none⟩ = some (.int .i64 G)) (exact hS _ (by repeat (first | with_reducible assumption | with_reducible refine Blk.drew ?_ | with_reducible refine Blk.drewN ?_ _ | with_reducible refine Blk.farr ?_ ?_ | focus (show _ ≠ _; first | (simp; done) | (simp; omega) | omega))))
      (first
        | (go_at_call 121; refine (anyElement_any g _ P Q G _ (hCv.ext ((Ext.refl _).drew)) (by omega) (by simp; omega) hD).mono ?_; rintro e wx ⟨t, rfl, ht0, ht1, hOx, hCx⟩; have BGx := B0.drew.only hOx (by simp <;> omega); have BRx := BR.drew.only hOx (by simp <;> omega); have hsx := BGx.lt)
        | (go_at_call 111; first | (have hz := hCy; refine (anyExpo_any g _ P Q G _ hCy (by omega) (by omega) hD).mono ?_; rintro e wz ⟨z, rfl, hz0, hz1, hOz, hCz⟩; have BGz := BGy.only hOz (by simp <;> omega); have BX := BRy.only hOz (by simp <;> omega); have FX := BX.frozen; have CX := BX.cells) | (refine (anyExpo_any g _ P Q G _ hCx (by omega) (by omega) hD).mono ?_; rintro e wy ⟨c, rfl, hc0, hc1, hOy, hCy⟩; have BGy := BGx.only hOy (by simp <;> omega); have BRy := BRx.only hOy (by simp <;> omega); have hsy := BGy.lt) | fail)
        | fail)
    go_wp2
    refine ret_tr (a := t) (b := c) (c := z) (((BX.set_ 0 (.int .i64 t)).set_ 1 (.int .i64 c)).set_ 2 (.int .i64 z)) rfl rfl ?_
    have L9 := below_3 (g := w.heap.size + 1) wz (.int .i64 t) (.int .i64 c) (.int .i64 z)
    exact ⟨t, c, z, rfl, ((((hOv.drewN 1).thenOnly hOx).thenOnly hOy).thenOnly hOz).thenBelow L9 (by omega), (hCz.below (L9.mono (by omega))).more (by omega)⟩

theorem ret_g4 {fn : Func} {w : World} {g : Nat} {t u v s r : Tmp} {a b c x y z d : Int} {tm : Array Value} {Q : Ending → World → Prop}
    (B : Blk w g 37 #[.int .i64 a, .int .i64 b, .int .i64 c])
    (h : fn.results = #[.cell t 37, .tmp u, .tmp v, .tmp s, .tmp r]) (ht : tm.getD t undef = .pointer (some ⟨g, 0, none⟩)) (hu : tm.getD u undef = .int .i64 x) (hv : tm.getD v undef = .int .i64 y) (hs : tm.getD s undef = .int .i64 z) (hr : tm.getD r undef = .int .i64 d) (hQ : Q (.returned (.tuple #[.agg #[.int .i64 a, .int .i64 b, .int .i64 c], .int .i64 x, .int .i64 y, .int .i64 z, .int .i64 d])) w) :
    bodyPost Try.prog fn Q .ret { tmps := tm, defers := [] } w := by
  have C := B.cells
  refine bodyPost_ret (v := .tuple #[.agg #[.int .i64 a, .int .i64 b, .int .i64 c], .int .i64 x, .int .i64 y, .int .i64 z, .int .i64 d]) ?_ rfl hQ
  have ht' : (tm[t]?).getD undef = .pointer (some ⟨g, 0, none⟩) := by simpa using ht
  have hu' : (tm[u]?).getD undef = .int .i64 x := by simpa using hu
  have hv' : (tm[v]?).getD undef = .int .i64 y := by simpa using hv
  have hs' : (tm[s]?).getD undef = .int .i64 z := by simpa using hs
  have hr' : (tm[r]?).getD undef = .int .i64 d := by simpa using hr
  simp [results, h, ht', hu', hv', hs', hr', go_sem, C]
def DrawnG4 (w : World) (e : Ending) (w' : World) : Prop := ∃ P Q G x y z d : Int, e = .returned (.tuple #[.agg #[.int .i64 P, .int .i64 Q, .int .i64 G], .int .i64 x, .int .i64 y, .int .i64 z, .int .i64 d]) ∧ Ext w w'
set_option maxRecDepth 100000 in
set_option maxHeartbeats 4000000 in
theorem DrawSimulateKnowledge_any (A : Option Addr) (n c : Nat) (l : List Int) (w : World) (hR : RdB w A l) (hl : l.length = n) (hn : n ≤ 9223372036854775807) (hx : ∀ x ∈ l, 0 ≤ x ∧ x ≤ 255) :
    Calls Try.prog 44 #[.slice A n c] w fun e w' => DrawnG4 w e w' := by
  have hE0 := (Ext.refl w).alloc (.cells #[.int .i64 0, .int .i64 0, .int .i64 0] 37)
  have B2 := Blk.new w 37 #[.int .i64 0, .int .i64 0, .int .i64 0]
  have hC := new_cur (c := c) (hR.ext hE0) hl hn hx
  simp only [World.size_alloc] at hC
  clear hl hx hR
  replace B2 := B2.alloc (.cells #[.slice A n c, .int .i64 0, .int .u64 0] 126)
  have hE1 := hE0.alloc (.cells #[.slice A n c, .int .i64 0, .int .u64 0] 126)
  go_enter Try.func44, Try.ntmps44
  go_wp2_with fail
  refine (anyGroup_any (w.heap.size + 1) 0 _ hC (by omega) (by simp)).mono ?_
  rintro e w1 ⟨P, Q, G, rfl, hD, hO1, hC1⟩
  have hsz1 : w.heap.size + 2 ≤ w1.heap.size := by have := hO1.size; simp at this; omega
  have E := hE1.only hO1 (fun b hb => by simp at hb; omega)
  have B5 := Blk.new w1 37 #[.int .i64 P, .int .i64 Q, .int .i64 G]
  have hE5 := (Ext.refl w1).alloc (.cells #[.int .i64 P, .int .i64 Q, .int .i64 G] 37)
  have B22 := (B2.only hO1 (by simp)).ext hE5
  have hC5 := hC1.ext hE5
  replace E := E.trans hE5
  clear hE0 hE1 hC hO1 hC1 hE5 B2
  go_upto_region 3 with (fail)
  have hs5 : w1.heap.size < (w1.alloc (.cells #[.int .i64 P, .int .i64 Q, .int .i64 G] 37)).heap.size := by simp
  generalize hg5 : w1.heap.size = g5 at *
  generalize hW5 : w1.alloc (.cells #[.int .i64 P, .int .i64 Q, .int .i64 G] 37) = w5 at *
  clear hW5 hg5
  have hS : ∀ V, Blk V g5 37 #[.int .i64 P, .int .i64 Q, .int .i64 G] → V.cell? ⟨g5, 0, none⟩ = some (.int .i64 P) ∧ V.cell? ⟨g5, 1, none⟩ = some (.int .i64 Q) ∧ V.cell? ⟨g5, 2, none⟩ = some (.int .i64 G) := fun V h => ⟨h.cells 0, h.cells 1, h.cells 2⟩
  go_region_held3 (fun V => V.cell? ⟨g5, 0, none⟩ = some (.int .i64 P) ∧ V.cell? ⟨g5, 1, none⟩ = some (.int .i64 Q) ∧ V.cell? ⟨g5, 2, none⟩ = some (.int .i64 G)) (exact hS _ (by repeat (first | with_reducible assumption | with_reducible refine Blk.drew ?_ | with_reducible refine Blk.drewN ?_ _ | with_reducible refine Blk.farr ?_ ?_ | focus (show _ ≠ _; first | (simp; done) | (simp; omega) | omega))))
    (first
      | (go_at_call 121; first | (have hz := hC6; refine (anyElement_any (w.heap.size + 1) _ P Q G _ hC6 (by omega) (by omega) hD).mono ?_; rintro e w7 ⟨y, rfl, hy0, hy1, hO7, hC7⟩; have B7 := B6.only hO7 (by simp <;> omega); have B24 := B23.only hO7 (by simp); have hs7 := B7.lt) | (refine (anyElement_any (w.heap.size + 1) _ P Q G _ (hC5.ext ((Ext.refl _).drew)) (by omega) (by simp; omega) hD).mono ?_; rintro e w6 ⟨x, rfl, hx0, hx1, hO6, hC6⟩; have B6 := B5.drew.only hO6 (by simp <;> omega); have B23 := B22.drew.only hO6 (by simp); have hs6 := B6.lt) | fail)
      | (go_at_call 111; first | (have hz := hC8; refine (anyExpo_any (w.heap.size + 1) _ P Q G _ hC8 (by omega) (by omega) hD).mono ?_; rintro e w9 ⟨d, rfl, hd0, hd1, hO9, hC9⟩; have B9 := B8.only hO9 (by simp <;> omega); have B26 := B25.only hO9 (by simp); have C26 := B26.cells; have F26 := B26.frozen) | (refine (anyExpo_any (w.heap.size + 1) _ P Q G _ hC7 (by omega) (by omega) hD).mono ?_; rintro e w8 ⟨z, rfl, hz0, hz1, hO8, hC8⟩; have B8 := B7.only hO8 (by simp <;> omega); have B25 := B24.only hO8 (by simp); have hs8 := B8.lt) | fail)
      | fail)
  go_wp2
  refine ret_g4 (a := P) (b := Q) (c := G) (x := x) (y := y) (z := z) (d := d) (((B26.set_ 0 (.int .i64 P)).set_ 1 (.int .i64 Q)).set_ 2 (.int .i64 G)) rfl rfl rfl rfl rfl rfl ?_
  have L9 := below_three (g := w.heap.size) w9 (.int .i64 P) (.int .i64 Q) (.int .i64 G)
  exact ⟨P, Q, G, x, y, z, d, rfl, (((((E.drew).only hO6 (fun b hb => by simp at hb; omega)).only hO7 (fun b hb => by simp at hb; omega)).only hO8 (fun b hb => by simp at hb; omega)).only hO9 (fun b hb => by simp at hb; omega)).then L9 (Nat.le_refl _)⟩

theorem ret_gxtt {fn : Func} {w : World} {g d f : Nat} {t u v s r : Tmp} {a b c x y a1 a2 a3 b1 b2 b3 : Int} {tm : Array Value} {Q : Ending → World → Prop}
    (B : Blk w g 37 #[.int .i64 a, .int .i64 b, .int .i64 c]) (D : Blk w d 61 #[.int .i64 a1, .int .i64 a2, .int .i64 a3]) (F : Blk w f 61 #[.int .i64 b1, .int .i64 b2, .int .i64 b3])
    (h : fn.results = #[.cell t 37, .tmp u, .tmp v, .cell s 61, .cell r 61]) (ht : tm.getD t undef = .pointer (some ⟨g, 0, none⟩)) (hu : tm.getD u undef = .int .i64 x) (hv : tm.getD v undef = .int .i64 y) (hs : tm.getD s undef = .pointer (some ⟨d, 0, none⟩)) (hr : tm.getD r undef = .pointer (some ⟨f, 0, none⟩)) (hQ : Q (.returned (.tuple #[.agg #[.int .i64 a, .int .i64 b, .int .i64 c], .int .i64 x, .int .i64 y, .agg #[.int .i64 a1, .int .i64 a2, .int .i64 a3], .agg #[.int .i64 b1, .int .i64 b2, .int .i64 b3]])) w) :
    bodyPost Try.prog fn Q .ret { tmps := tm, defers := [] } w := by
  have C := B.cells
  have C2 := D.cells
  have C3 := F.cells
  refine bodyPost_ret (v := .tuple #[.agg #[.int .i64 a, .int .i64 b, .int .i64 c], .int .i64 x, .int .i64 y, .agg #[.int .i64 a1, .int .i64 a2, .int .i64 a3], .agg #[.int .i64 b1, .int .i64 b2, .int .i64 b3]]) ?_ rfl hQ
  have ht' : (tm[t]?).getD undef = .pointer (some ⟨g, 0, none⟩) := by simpa using ht
  have hu' : (tm[u]?).getD undef = .int .i64 x := by simpa using hu
  have hv' : (tm[v]?).getD undef = .int .i64 y := by simpa using hv
  have hs' : (tm[s]?).getD undef = .pointer (some ⟨d, 0, none⟩) := by simpa using hs
  have hr' : (tm[r]?).getD undef = .pointer (some ⟨f, 0, none⟩) := by simpa using hr
  simp [results, h, ht', hu', hv', hs', hr', go_sem, C, C2, C3]
def DrawnX (w : World) (e : Ending) (w' : World) : Prop := ∃ P Q G x y a1 a2 a3 b1 b2 b3 : Int, e = .returned (.tuple #[.agg #[.int .i64 P, .int .i64 Q, .int .i64 G], .int .i64 x, .int .i64 y, .agg #[.int .i64 a1, .int .i64 a2, .int .i64 a3], .agg #[.int .i64 b1, .int .i64 b2, .int .i64 b3]]) ∧ Ext w w'
set_option maxRecDepth 100000 in
set_option maxHeartbeats 4000000 in
theorem DrawExtractKnowledge_any (A : Option Addr) (n c : Nat) (l : List Int) (w : World) (hR : RdB w A l) (hl : l.length = n) (hn : n ≤ 9223372036854775807) (hx : ∀ x ∈ l, 0 ≤ x ∧ x ≤ 255) :
    Calls Try.prog 41 #[.slice A n c] w fun e w' => DrawnX w e w' := by
  obtain ⟨cc, hcc⟩ : ∃ cc, cc = c := ⟨_, rfl⟩
  rw [← hcc]
  have hE0 := (((Ext.refl w).alloc (.cells #[.int .i64 0, .int .i64 0, .int .i64 0] 37)).alloc (.cells #[.int .i64 0, .int .i64 0, .int .i64 0] 61)).alloc (.cells #[.int .i64 0, .int .i64 0, .int .i64 0] 61)
  have B2 := ((Blk.new w 37 #[.int .i64 0, .int .i64 0, .int .i64 0]).alloc (.cells #[.int .i64 0, .int .i64 0, .int .i64 0] 61)).alloc (.cells #[.int .i64 0, .int .i64 0, .int .i64 0] 61)
  have B5 := (Blk.new (w.alloc (.cells #[.int .i64 0, .int .i64 0, .int .i64 0] 37)) 61 #[.int .i64 0, .int .i64 0, .int .i64 0]).alloc (.cells #[.int .i64 0, .int .i64 0, .int .i64 0] 61)
  have B6 := Blk.new ((w.alloc (.cells #[.int .i64 0, .int .i64 0, .int .i64 0] 37)).alloc (.cells #[.int .i64 0, .int .i64 0, .int .i64 0] 61)) 61 #[.int .i64 0, .int .i64 0, .int .i64 0]
  have hC := new_cur (c := cc) (hR.ext hE0) hl hn hx
  simp only [World.size_alloc] at hC B5 B6
  clear hl hx hR hcc
  replace B2 := B2.alloc (.cells #[.slice A n cc, .int .i64 0, .int .u64 0] 126)
  replace B5 := B5.alloc (.cells #[.slice A n cc, .int .i64 0, .int .u64 0] 126)
  replace B6 := B6.alloc (.cells #[.slice A n cc, .int .i64 0, .int .u64 0] 126)
  have hE1 := hE0.alloc (.cells #[.slice A n cc, .int .i64 0, .int .u64 0] 126)
  go_enter Try.func41, Try.ntmps41
  go_wp2_with fail
  refine (anyGroup_any (w.heap.size + 1 + 1 + 1) 0 _ hC (by omega) (by simp)).mono ?_
  rintro e w1 ⟨P, Q, G, rfl, hD, hO1, hC1⟩
  have hsz1 : w.heap.size + 4 ≤ w1.heap.size := by have := hO1.size; simp at this; omega
  have E := hE1.only hO1 (fun b hb => by simp at hb; omega)
  have BG := Blk.new w1 37 #[.int .i64 P, .int .i64 Q, .int .i64 G]
  have hE5 := (Ext.refl w1).alloc (.cells #[.int .i64 P, .int .i64 Q, .int .i64 G] 37)
  replace B2 := (B2.only hO1 (by simp <;> omega)).ext hE5
  replace B5 := (B5.only hO1 (by simp <;> omega)).ext hE5
  replace B6 := (B6.only hO1 (by simp <;> omega)).ext hE5
  have hCv := hC1.ext hE5
  replace E := E.trans hE5
  have hs5 : w1.heap.size < (w1.alloc (.cells #[.int .i64 P, .int .i64 Q, .int .i64 G] 37)).heap.size := by simp
  clear hE0 hE1 hC hO1 hC1 hE5
  have C0 := BG.cells
  go_wp2_with fail
  generalize hg5 : w1.heap.size = g5 at *
  generalize hW5 : w1.alloc (.cells #[.int .i64 P, .int .i64 Q, .int .i64 G] 37) = w5 at *
  clear hW5 hg5
  refine (anyElement_any (w.heap.size + 1 + 1 + 1) _ P Q G _ hCv (by omega) (by omega) hD).mono ?_
  rintro e w6 ⟨base, rfl, _, _, hO, hC⟩
  replace E := E.only hO (fun b hb => by simp at hb; omega)
  replace B2 := B2.only hO (by simp <;> omega)
  replace B5 := B5.only hO (by simp <;> omega)
  replace B6 := B6.only hO (by simp <;> omega)
  replace BG := BG.only hO (by simp <;> omega)
  replace hCv := hC
  have hs5 := BG.lt
  clear hO hC C0
  have C0 := BG.cells
  go_wp2_with fail
  refine (anyElement_any (w.heap.size + 1 + 1 + 1) _ P Q G _ hCv (by omega) (by omega) hD).mono ?_
  rintro e w7 ⟨y, rfl, _, _, hO, hC⟩
  replace E := E.only hO (fun b hb => by simp at hb; omega)
  replace B2 := B2.only hO (by simp <;> omega)
  replace B5 := B5.only hO (by simp <;> omega)
  replace B6 := B6.only hO (by simp <;> omega)
  replace BG := BG.only hO (by simp <;> omega)
  replace hCv := hC
  have hs5 := BG.lt
  clear hO hC C0
  have C0 := BG.cells
  go_wp2_with fail
  refine (transcript_any (w.heap.size + 1 + 1 + 1) _ P Q G base y _ hCv (by omega) (by omega) hD).mono ?_
  rintro e w8 ⟨t, c, z, rfl, hO, hC⟩
  replace E := E.only hO (fun b hb => by simp at hb; omega)
  replace B2 := B2.only hO (by simp <;> omega)
  replace B5 := B5.only hO (by simp <;> omega)
  replace B6 := B6.only hO (by simp <;> omega)
  replace BG := BG.only hO (by simp <;> omega)
  replace hCv := hC
  have hs5 := BG.lt
  clear hO hC C0
  have BT := Blk.new w8 61 #[.int .i64 t, .int .i64 c, .int .i64 z]
  have hb := (Ext.refl w8).alloc (.cells #[.int .i64 t, .int .i64 c, .int .i64 z] 61)
  replace E := E.trans hb
  replace hCv := hCv.ext hb
  replace B2 := B2.ext hb
  replace B5 := B5.ext hb
  replace B6 := B6.ext hb
  replace BG := BG.ext hb
  have hs9 := hb.size
  have hs11 := BT.lt
  clear hb
  go_upto_region 6 with (fail)
  generalize hg11 : w8.heap.size = g11 at *
  generalize hW9 : w8.alloc (.cells #[.int .i64 t, .int .i64 c, .int .i64 z] 61) = w9 at *
  clear hW9 hg11
  cases h1 : grpB P Q G
  · have H1 := Lib.hid h1
    clear h1
    have C0 := BG.cells
    go_wp2_with fail
    refine (l2Good_any P Q G _).mono ?_
    rintro e wv ⟨he, hb⟩
    rw [H1.out] at he; subst he
    replace E := E.trans hb
    replace hCv := hCv.ext hb
    replace B2 := B2.ext hb
    replace B5 := B5.ext hb
    replace B6 := B6.ext hb
    replace BG := BG.ext hb
    replace BT := BT.ext hb
    clear hb C0
    have hs9 := BG.lt
    go_wp2
    have hS : ∀ V, Blk V g5 37 #[.int .i64 P, .int .i64 Q, .int .i64 G] → Blk V g11 61 #[.int .i64 t, .int .i64 c, .int .i64 z] → V.cell? ⟨g5, 0, none⟩ = some (.int .i64 P) ∧ V.cell? ⟨g5, 1, none⟩ = some (.int .i64 Q) ∧ V.cell? ⟨g5, 2, none⟩ = some (.int .i64 G) ∧ V.cell? ⟨g11, 0, none⟩ = some (.int .i64 t) ∧ V.cell? ⟨g11, 1, none⟩ = some (.int .i64 c) ∧ V.cell? ⟨g11, 2, none⟩ = some (.int .i64 z) := fun V h k => ⟨h.cells 0, h.cells 1, h.cells 2, k.cells 0, k.cells 1, k.cells 2⟩
    go_region_held3 (fun V => V.cell? ⟨g5, 0, none⟩ = some (.int .i64 P) ∧ V.cell? ⟨g5, 1, none⟩ = some (.int .i64 Q) ∧ V.cell? ⟨g5, 2, none⟩ = some (.int .i64 G) ∧ V.cell? ⟨g11, 0, none⟩ = some (.int .i64 t) ∧ V.cell? ⟨g11, 1, none⟩ = some (.int .i64 c) ∧ V.cell? ⟨g11, 2, none⟩ = some (.int .i64 z)) (exact hS _ (by repeat (first | with_reducible assumption | with_reducible refine Blk.drew ?_ | with_reducible refine Blk.drewN ?_ _ | with_reducible refine Blk.farr ?_ ?_ | focus (show _ ≠ _; first | (simp; done) | (simp; omega) | omega))) (by repeat (first | with_reducible assumption | with_reducible refine Blk.drew ?_ | with_reducible refine Blk.drewN ?_ _ | with_reducible refine Blk.farr ?_ ?_ | focus (show _ ≠ _; first | (simp; done) | (simp; omega) | omega))))
      (first
        | (go_at_call 133; refine (transcript_any (w.heap.size + 1 + 1 + 1) _ P Q G base y _ (hCv.ext ((Ext.refl _).drew)) (by omega) (by simp; omega) hD).mono ?_; rintro e wx ⟨t2, c2, z2, rfl, hOx, hCx⟩; have B2x := B2.drew.only hOx (by simp <;> omega); have B5x := B5.drew.only hOx (by simp <;> omega); have B6x := B6.drew.only hOx (by simp <;> omega); have BGx := BG.drew.only hOx (by simp <;> omega); have BTx := BT.drew.only hOx (by simp <;> omega); have Cr0 := B2x.cells; have Fr0 := B2x.frozen; have Cr1 := fun (u10 u11 u12 : Value) => ((((B5x.far (p := ⟨w.heap.size, 0, none⟩) (by first | (simp; done) | (simp; omega)) u10).far (p := ⟨w.heap.size, 1, none⟩) (by first | (simp; done) | (simp; omega)) u11).far (p := ⟨w.heap.size, 2, none⟩) (by first | (simp; done) | (simp; omega)) u12)).cells; have Fr1 := fun (u10 u11 u12 : Value) => ((((B5x.far (p := ⟨w.heap.size, 0, none⟩) (by first | (simp; done) | (simp; omega)) u10).far (p := ⟨w.heap.size, 1, none⟩) (by first | (simp; done) | (simp; omega)) u11).far (p := ⟨w.heap.size, 2, none⟩) (by first | (simp; done) | (simp; omega)) u12)).frozen; have Cr2 := fun (u10 u11 u12 u20 u21 u22 : Value) => (((((((B6x.far (p := ⟨w.heap.size, 0, none⟩) (by first | (simp; done) | (simp; omega)) u10).far (p := ⟨w.heap.size, 1, none⟩) (by first | (simp; done) | (simp; omega)) u11).far (p := ⟨w.heap.size, 2, none⟩) (by first | (simp; done) | (simp; omega)) u12).far (p := ⟨w.heap.size + 1, 0, none⟩) (by first | (simp; done) | (simp; omega)) u20).far (p := ⟨w.heap.size + 1, 1, none⟩) (by first | (simp; done) | (simp; omega)) u21).far (p := ⟨w.heap.size + 1, 2, none⟩) (by first | (simp; done) | (simp; omega)) u22)).cells; have Fr2 := fun (u10 u11 u12 u20 u21 u22 : Value) => (((((((B6x.far (p := ⟨w.heap.size, 0, none⟩) (by first | (simp; done) | (simp; omega)) u10).far (p := ⟨w.heap.size, 1, none⟩) (by first | (simp; done) | (simp; omega)) u11).far (p := ⟨w.heap.size, 2, none⟩) (by first | (simp; done) | (simp; omega)) u12).far (p := ⟨w.heap.size + 1, 0, none⟩) (by first | (simp; done) | (simp; omega)) u20).far (p := ⟨w.heap.size + 1, 1, none⟩) (by first | (simp; done) | (simp; omega)) u21).far (p := ⟨w.heap.size + 1, 2, none⟩) (by first | (simp; done) | (simp; omega)) u22)).frozen)
        | fail)
    go_wp2
    refine ret_gxtt (a := P) (b := Q) (c := G) (x := base) (y := y) (a1 := t) (a2 := c) (a3 := z) (b1 := t2) (b2 := c2) (b3 := z2) (((((((((B2x.set_ 0 (.int .i64 P)).set_ 1 (.int .i64 Q)).set_ 2 (.int .i64 G)).far (p := ⟨w.heap.size + 1, 0, none⟩) (by first | (simp; done) | (simp; omega)) (.int .i64 t)).far (p := ⟨w.heap.size + 1, 1, none⟩) (by first | (simp; done) | (simp; omega)) (.int .i64 c)).far (p := ⟨w.heap.size + 1, 2, none⟩) (by first | (simp; done) | (simp; omega)) (.int .i64 z)).far (p := ⟨w.heap.size + 1 + 1, 0, none⟩) (by first | (simp; done) | (simp; omega)) (.int .i64 t2)).far (p := ⟨w.heap.size + 1 + 1, 1, none⟩) (by first | (simp; done) | (simp; omega)) (.int .i64 c2)).far (p := ⟨w.heap.size + 1 + 1, 2, none⟩) (by first | (simp; done) | (simp; omega)) (.int .i64 z2)) (((((((((B5x.far (p := ⟨w.heap.size, 0, none⟩) (by first | (simp; done) | (simp; omega)) (.int .i64 P)).far (p := ⟨w.heap.size, 1, none⟩) (by first | (simp; done) | (simp; omega)) (.int .i64 Q)).far (p := ⟨w.heap.size, 2, none⟩) (by first | (simp; done) | (simp; omega)) (.int .i64 G)).set_ 0 (.int .i64 t)).set_ 1 (.int .i64 c)).set_ 2 (.int .i64 z)).far (p := ⟨w.heap.size + 1 + 1, 0, none⟩) (by first | (simp; done) | (simp; omega)) (.int .i64 t2)).far (p := ⟨w.heap.size + 1 + 1, 1, none⟩) (by first | (simp; done) | (simp; omega)) (.int .i64 c2)).far (p := ⟨w.heap.size + 1 + 1, 2, none⟩) (by first | (simp; done) | (simp; omega)) (.int .i64 z2)) (((((((((B6x.far (p := ⟨w.heap.size, 0, none⟩) (by first | (simp; done) | (simp; omega)) (.int .i64 P)).far (p := ⟨w.heap.size, 1, none⟩) (by first | (simp; done) | (simp; omega)) (.int .i64 Q)).far (p := ⟨w.heap.size, 2, none⟩) (by first | (simp; done) | (simp; omega)) (.int .i64 G)).far (p := ⟨w.heap.size + 1, 0, none⟩) (by first | (simp; done) | (simp; omega)) (.int .i64 t)).far (p := ⟨w.heap.size + 1, 1, none⟩) (by first | (simp; done) | (simp; omega)) (.int .i64 c)).far (p := ⟨w.heap.size + 1, 2, none⟩) (by first | (simp; done) | (simp; omega)) (.int .i64 z)).set_ 0 (.int .i64 t2)).set_ 1 (.int .i64 c2)).set_ 2 (.int .i64 z2)) rfl rfl rfl rfl rfl rfl ?_
    exact ⟨P, Q, G, base, y, _, _, _, _, _, _, rfl, ((((E.drew).only hOx (fun b hb => by simp at hb; omega)).then (below_three (g := w.heap.size) _ _ _ _) (Nat.le_refl _)).then (below_3 (g := w.heap.size + 1) _ _ _ _) (by omega)).then (below_3 (g := w.heap.size + 1 + 1) _ _ _ _) (by omega)⟩
  have hGI := grpB_in h1
  have hGB := hGI.bd
  have hq2 := hGI.q2
  have hqp := hGI.qp
  have hp9 := hGI.p9
  have H1 := Lib.hid h1
  clear h1
  cases h2 : elB P Q base
  · have H2 := Lib.hid h2
    clear h2
    have C0 := BG.cells
    go_wp2_with fail
    refine (l2Good_any P Q G _).mono ?_
    rintro e wv ⟨he, hb⟩
    rw [H1.out] at he; subst he
    replace E := E.trans hb
    replace hCv := hCv.ext hb
    replace B2 := B2.ext hb
    replace B5 := B5.ext hb
    replace B6 := B6.ext hb
    replace BG := BG.ext hb
    replace BT := BT.ext hb
    clear hb C0
    have C0 := BG.cells
    go_wp2_with fail
    refine (gIs_any P Q G _ 1 1 [base] _ hGB (rd_one (by simp)) rfl (by decide)).mono ?_
    rintro e wu ⟨he, hb0⟩
    simp only [List.all_cons, List.all_nil, Bool.and_true] at he
    rw [H2.out] at he; subst he
    have hb := ((Ext.refl wv).alloc (.cells #[.int .i64 base] 3)).trans hb0
    replace E := E.trans hb
    replace hCv := hCv.ext hb
    replace B2 := B2.ext hb
    replace B5 := B5.ext hb
    replace B6 := B6.ext hb
    replace BG := BG.ext hb
    replace BT := BT.ext hb
    clear hb hb0 C0
    have hs9 := BG.lt
    go_wp2
    have hS : ∀ V, Blk V g5 37 #[.int .i64 P, .int .i64 Q, .int .i64 G] → Blk V g11 61 #[.int .i64 t, .int .i64 c, .int .i64 z] → V.cell? ⟨g5, 0, none⟩ = some (.int .i64 P) ∧ V.cell? ⟨g5, 1, none⟩ = some (.int .i64 Q) ∧ V.cell? ⟨g5, 2, none⟩ = some (.int .i64 G) ∧ V.cell? ⟨g11, 0, none⟩ = some (.int .i64 t) ∧ V.cell? ⟨g11, 1, none⟩ = some (.int .i64 c) ∧ V.cell? ⟨g11, 2, none⟩ = some (.int .i64 z) := fun V h k => ⟨h.cells 0, h.cells 1, h.cells 2, k.cells 0, k.cells 1, k.cells 2⟩
    go_region_held3 (fun V => V.cell? ⟨g5, 0, none⟩ = some (.int .i64 P) ∧ V.cell? ⟨g5, 1, none⟩ = some (.int .i64 Q) ∧ V.cell? ⟨g5, 2, none⟩ = some (.int .i64 G) ∧ V.cell? ⟨g11, 0, none⟩ = some (.int .i64 t) ∧ V.cell? ⟨g11, 1, none⟩ = some (.int .i64 c) ∧ V.cell? ⟨g11, 2, none⟩ = some (.int .i64 z)) (exact hS _ (by repeat (first | with_reducible assumption | with_reducible refine Blk.drew ?_ | with_reducible refine Blk.drewN ?_ _ | with_reducible refine Blk.farr ?_ ?_ | focus (show _ ≠ _; first | (simp; done) | (simp; omega) | omega))) (by repeat (first | with_reducible assumption | with_reducible refine Blk.drew ?_ | with_reducible refine Blk.drewN ?_ _ | with_reducible refine Blk.farr ?_ ?_ | focus (show _ ≠ _; first | (simp; done) | (simp; omega) | omega))))
      (first
        | (go_at_call 133; refine (transcript_any (w.heap.size + 1 + 1 + 1) _ P Q G base y _ (hCv.ext ((Ext.refl _).drew)) (by omega) (by simp; omega) hD).mono ?_; rintro e wx ⟨t2, c2, z2, rfl, hOx, hCx⟩; have B2x := B2.drew.only hOx (by simp <;> omega); have B5x := B5.drew.only hOx (by simp <;> omega); have B6x := B6.drew.only hOx (by simp <;> omega); have BGx := BG.drew.only hOx (by simp <;> omega); have BTx := BT.drew.only hOx (by simp <;> omega); have Cr0 := B2x.cells; have Fr0 := B2x.frozen; have Cr1 := fun (u10 u11 u12 : Value) => ((((B5x.far (p := ⟨w.heap.size, 0, none⟩) (by first | (simp; done) | (simp; omega)) u10).far (p := ⟨w.heap.size, 1, none⟩) (by first | (simp; done) | (simp; omega)) u11).far (p := ⟨w.heap.size, 2, none⟩) (by first | (simp; done) | (simp; omega)) u12)).cells; have Fr1 := fun (u10 u11 u12 : Value) => ((((B5x.far (p := ⟨w.heap.size, 0, none⟩) (by first | (simp; done) | (simp; omega)) u10).far (p := ⟨w.heap.size, 1, none⟩) (by first | (simp; done) | (simp; omega)) u11).far (p := ⟨w.heap.size, 2, none⟩) (by first | (simp; done) | (simp; omega)) u12)).frozen; have Cr2 := fun (u10 u11 u12 u20 u21 u22 : Value) => (((((((B6x.far (p := ⟨w.heap.size, 0, none⟩) (by first | (simp; done) | (simp; omega)) u10).far (p := ⟨w.heap.size, 1, none⟩) (by first | (simp; done) | (simp; omega)) u11).far (p := ⟨w.heap.size, 2, none⟩) (by first | (simp; done) | (simp; omega)) u12).far (p := ⟨w.heap.size + 1, 0, none⟩) (by first | (simp; done) | (simp; omega)) u20).far (p := ⟨w.heap.size + 1, 1, none⟩) (by first | (simp; done) | (simp; omega)) u21).far (p := ⟨w.heap.size + 1, 2, none⟩) (by first | (simp; done) | (simp; omega)) u22)).cells; have Fr2 := fun (u10 u11 u12 u20 u21 u22 : Value) => (((((((B6x.far (p := ⟨w.heap.size, 0, none⟩) (by first | (simp; done) | (simp; omega)) u10).far (p := ⟨w.heap.size, 1, none⟩) (by first | (simp; done) | (simp; omega)) u11).far (p := ⟨w.heap.size, 2, none⟩) (by first | (simp; done) | (simp; omega)) u12).far (p := ⟨w.heap.size + 1, 0, none⟩) (by first | (simp; done) | (simp; omega)) u20).far (p := ⟨w.heap.size + 1, 1, none⟩) (by first | (simp; done) | (simp; omega)) u21).far (p := ⟨w.heap.size + 1, 2, none⟩) (by first | (simp; done) | (simp; omega)) u22)).frozen)
        | fail)
    go_wp2
    refine ret_gxtt (a := P) (b := Q) (c := G) (x := base) (y := y) (a1 := t) (a2 := c) (a3 := z) (b1 := t2) (b2 := c2) (b3 := z2) (((((((((B2x.set_ 0 (.int .i64 P)).set_ 1 (.int .i64 Q)).set_ 2 (.int .i64 G)).far (p := ⟨w.heap.size + 1, 0, none⟩) (by first | (simp; done) | (simp; omega)) (.int .i64 t)).far (p := ⟨w.heap.size + 1, 1, none⟩) (by first | (simp; done) | (simp; omega)) (.int .i64 c)).far (p := ⟨w.heap.size + 1, 2, none⟩) (by first | (simp; done) | (simp; omega)) (.int .i64 z)).far (p := ⟨w.heap.size + 1 + 1, 0, none⟩) (by first | (simp; done) | (simp; omega)) (.int .i64 t2)).far (p := ⟨w.heap.size + 1 + 1, 1, none⟩) (by first | (simp; done) | (simp; omega)) (.int .i64 c2)).far (p := ⟨w.heap.size + 1 + 1, 2, none⟩) (by first | (simp; done) | (simp; omega)) (.int .i64 z2)) (((((((((B5x.far (p := ⟨w.heap.size, 0, none⟩) (by first | (simp; done) | (simp; omega)) (.int .i64 P)).far (p := ⟨w.heap.size, 1, none⟩) (by first | (simp; done) | (simp; omega)) (.int .i64 Q)).far (p := ⟨w.heap.size, 2, none⟩) (by first | (simp; done) | (simp; omega)) (.int .i64 G)).set_ 0 (.int .i64 t)).set_ 1 (.int .i64 c)).set_ 2 (.int .i64 z)).far (p := ⟨w.heap.size + 1 + 1, 0, none⟩) (by first | (simp; done) | (simp; omega)) (.int .i64 t2)).far (p := ⟨w.heap.size + 1 + 1, 1, none⟩) (by first | (simp; done) | (simp; omega)) (.int .i64 c2)).far (p := ⟨w.heap.size + 1 + 1, 2, none⟩) (by first | (simp; done) | (simp; omega)) (.int .i64 z2)) (((((((((B6x.far (p := ⟨w.heap.size, 0, none⟩) (by first | (simp; done) | (simp; omega)) (.int .i64 P)).far (p := ⟨w.heap.size, 1, none⟩) (by first | (simp; done) | (simp; omega)) (.int .i64 Q)).far (p := ⟨w.heap.size, 2, none⟩) (by first | (simp; done) | (simp; omega)) (.int .i64 G)).far (p := ⟨w.heap.size + 1, 0, none⟩) (by first | (simp; done) | (simp; omega)) (.int .i64 t)).far (p := ⟨w.heap.size + 1, 1, none⟩) (by first | (simp; done) | (simp; omega)) (.int .i64 c)).far (p := ⟨w.heap.size + 1, 2, none⟩) (by first | (simp; done) | (simp; omega)) (.int .i64 z)).set_ 0 (.int .i64 t2)).set_ 1 (.int .i64 c2)).set_ 2 (.int .i64 z2)) rfl rfl rfl rfl rfl rfl ?_
    exact ⟨P, Q, G, base, y, _, _, _, _, _, _, rfl, ((((E.drew).only hOx (fun b hb => by simp at hb; omega)).then (below_three (g := w.heap.size) _ _ _ _) (Nat.le_refl _)).then (below_3 (g := w.heap.size + 1) _ _ _ _) (by omega)).then (below_3 (g := w.heap.size + 1 + 1) _ _ _ _) (by omega)⟩
  have rb := el_rng h2
  have H2 := Lib.hid h2
  clear h2
  have C0 := BG.cells
  go_wp2_with fail
  refine (l2Good_any P Q G _).mono ?_
  rintro e wv ⟨he, hb⟩
  rw [H1.out] at he; subst he
  replace E := E.trans hb
  replace hCv := hCv.ext hb
  replace B2 := B2.ext hb
  replace B5 := B5.ext hb
  replace B6 := B6.ext hb
  replace BG := BG.ext hb
  replace BT := BT.ext hb
  clear hb C0
  have C0 := BG.cells
  go_wp2_with fail
  refine (gIs_any P Q G _ 1 1 [base] _ hGB (rd_one (by simp)) rfl (by decide)).mono ?_
  rintro e wu ⟨he, hb0⟩
  simp only [List.all_cons, List.all_nil, Bool.and_true] at he
  rw [H2.out] at he; subst he
  have hb := ((Ext.refl wv).alloc (.cells #[.int .i64 base] 3)).trans hb0
  replace E := E.trans hb
  replace hCv := hCv.ext hb
  replace B2 := B2.ext hb
  replace B5 := B5.ext hb
  replace B6 := B6.ext hb
  replace BG := BG.ext hb
  replace BT := BT.ext hb
  clear hb hb0 C0
  have hs9 := BG.lt
  go_wp2_with fail
  refine (one_any (w.heap.size + 1 + 1 + 1) _ 5 _ hCv (by omega) (by omega)).mono ?_
  rintro e w10 ⟨b, rfl, hO, hC⟩
  replace E := E.only hO (fun b hb => by simp at hb; omega)
  replace B2 := B2.only hO (by simp <;> omega)
  replace B5 := B5.only hO (by simp <;> omega)
  replace B6 := B6.only hO (by simp <;> omega)
  replace BG := BG.only hO (by simp <;> omega)
  replace hCv := hC
  have hs5 := BG.lt
  replace BT := BT.only hO (by simp <;> omega)
  clear hO hC
  cases b
  · go_wp2
    have hS : ∀ V, Blk V g5 37 #[.int .i64 P, .int .i64 Q, .int .i64 G] → V.cell? ⟨g5, 0, none⟩ = some (.int .i64 P) ∧ V.cell? ⟨g5, 1, none⟩ = some (.int .i64 Q) ∧ V.cell? ⟨g5, 2, none⟩ = some (.int .i64 G) := fun V h => ⟨h.cells 0, h.cells 1, h.cells 2⟩
    go_region_held3 (fun V => V.cell? ⟨g5, 0, none⟩ = some (.int .i64 P) ∧ V.cell? ⟨g5, 1, none⟩ = some (.int .i64 Q) ∧ V.cell? ⟨g5, 2, none⟩ = some (.int .i64 G)) (exact hS _ (by repeat (first | with_reducible assumption | with_reducible refine Blk.drew ?_ | with_reducible refine Blk.drewN ?_ _ | with_reducible refine Blk.farr ?_ ?_ | focus (show _ ≠ _; first | (simp; done) | (simp; omega) | omega))))
      (first
        | (go_at_call 134; first | (have hz := hCc; refine (expo_any (w.heap.size + 1 + 1 + 1) _ P Q G _ hCc (by omega) (by omega) hD).mono ?_; rintro e wd ⟨x4, rfl, p4, q4, s4, hOd, hCd⟩; have B2d := B2c.only hOd (by simp <;> omega); have B5d := B5c.only hOd (by simp <;> omega); have B6d := B6c.only hOd (by simp <;> omega); have BGd := BGc.only hOd (by simp <;> omega); have hsd := BGd.lt) | (have hz := hCb; refine (expo_any (w.heap.size + 1 + 1 + 1) _ P Q G _ hCb (by omega) (by omega) hD).mono ?_; rintro e wc ⟨x3, rfl, p3, q3, s3, hOc, hCc⟩; have B2c := B2b.only hOc (by simp <;> omega); have B5c := B5b.only hOc (by simp <;> omega); have B6c := B6b.only hOc (by simp <;> omega); have BGc := BGb.only hOc (by simp <;> omega); have hsc := BGc.lt) | (have hz := hCa; refine (expo_any (w.heap.size + 1 + 1 + 1) _ P Q G _ hCa (by omega) (by omega) hD).mono ?_; rintro e wb ⟨x2, rfl, p2, q2, s2, hOb, hCb⟩; have B2b := B2a.only hOb (by simp <;> omega); have B5b := B5a.only hOb (by simp <;> omega); have B6b := B6a.only hOb (by simp <;> omega); have BGb := BGa.only hOb (by simp <;> omega); have hsb := BGb.lt) | (refine (expo_any (w.heap.size + 1 + 1 + 1) _ P Q G _ (hCv.ext ((Ext.refl _).drew)) (by omega) (by simp; omega) hD).mono ?_; rintro e wa ⟨x1, rfl, p1, q1, s1, hOa, hCa⟩; have B2a := B2.drew.only hOa (by simp <;> omega); have B5a := B5.drew.only hOa (by simp <;> omega); have B6a := B6.drew.only hOa (by simp <;> omega); have BGa := BG.drew.only hOa (by simp <;> omega); have hsa := BGa.lt) | fail)
        | fail)
    have q1' := q1 (by omega)
    have q2' := q2 (by omega)
    have q3' := q3 (by omega)
    have q4' := q4 (by omega)
    have C0 := BGd.cells
    clear hS
    go_wp2_with fail
    refine (gExp_any P Q G base x2 _ hGB (by omega) (by omega) (by omega) (by omega)).mono ?_
    rintro e we ⟨rfl, hbe⟩
    have B2e := B2d.ext hbe
    have B5e := B5d.ext hbe
    have B6e := B6d.ext hbe
    have BGe := BGd.ext hbe
    have hse := BGe.lt
    obtain ⟨cm, hcm⟩ : ∃ v, gpw P Q base x2 = v := ⟨_, rfl⟩
    rw [hcm]
    have hQ0 : (Q == 0) = false := by simp; omega
    have hQn : ¬ Q = 0 := by omega
    have n1 : 0 ≤ x3 * x1 := Int.mul_nonneg (by omega) (by omega)
    have n2 : x3 * x1 ≤ 2000000000 * 2000000000 := Int.mul_le_mul (by omega) (by omega) (by omega) (by omega)
    have n3 : 0 ≤ x4 * x1 := Int.mul_nonneg (by omega) (by omega)
    have n4 : x4 * x1 ≤ 2000000000 * 2000000000 := Int.mul_le_mul (by omega) (by omega) (by omega) (by omega)
    have s1 : IntKind.i64.wrap (x3 * x1) = x3 * x1 := by rw [IntKind.wrap_i64]; omega
    have s2 : IntKind.i64.wrap (x4 * x1) = x4 * x1 := by rw [IntKind.wrap_i64]; omega
    have s3 : IntKind.i64.wrap (x2 + x3 * x1) = x2 + x3 * x1 := by rw [IntKind.wrap_i64]; omega
    have s4 : IntKind.i64.wrap (x2 + x4 * x1) = x2 + x4 * x1 := by rw [IntKind.wrap_i64]; omega
    have s5 : (x2 + x3 * x1).tmod Q = (x2 + x3 * x1) % Q := Int.tmod_eq_emod_of_nonneg (by omega)
    have s6 : (x2 + x4 * x1).tmod Q = (x2 + x4 * x1) % Q := Int.tmod_eq_emod_of_nonneg (by omega)
    clear C0
    go_upto_region 10 with (fail)
    have hS : ∀ V, Blk V g5 37 #[.int .i64 P, .int .i64 Q, .int .i64 G] → V.cell? ⟨g5, 0, none⟩ = some (.int .i64 P) ∧ V.cell? ⟨g5, 1, none⟩ = some (.int .i64 Q) ∧ V.cell? ⟨g5, 2, none⟩ = some (.int .i64 G) := fun V h => ⟨h.cells 0, h.cells 1, h.cells 2⟩
    go_region_held3 (fun V => V.cell? ⟨g5, 0, none⟩ = some (.int .i64 P) ∧ V.cell? ⟨g5, 1, none⟩ = some (.int .i64 Q) ∧ V.cell? ⟨g5, 2, none⟩ = some (.int .i64 G)) (exact hS _ (by repeat (first | with_reducible assumption | with_reducible refine Blk.drew ?_ | with_reducible refine Blk.drewN ?_ _ | with_reducible refine Blk.farr ?_ ?_ | focus (show _ ≠ _; first | (simp; done) | (simp; omega) | omega))))
      (first
        | (go_at_call 135; refine (gExp_any P Q G base x1 _ hGB (by omega) (by omega) (by omega) (by omega)).mono ?_; rintro e wf ⟨rfl, hbf⟩; have B2f := B2e.drew.ext hbf; have B5f := B5e.drew.ext hbf; have B6f := B6e.drew.ext hbf; have BGf := BGe.drew.ext hbf; have Cr0 := B2f.cells; have Fr0 := B2f.frozen; have Cr1 := fun (u10 u11 u12 : Value) => ((((B5f.far (p := ⟨w.heap.size, 0, none⟩) (by first | (simp; done) | (simp; omega)) u10).far (p := ⟨w.heap.size, 1, none⟩) (by first | (simp; done) | (simp; omega)) u11).far (p := ⟨w.heap.size, 2, none⟩) (by first | (simp; done) | (simp; omega)) u12)).cells; have Fr1 := fun (u10 u11 u12 : Value) => ((((B5f.far (p := ⟨w.heap.size, 0, none⟩) (by first | (simp; done) | (simp; omega)) u10).far (p := ⟨w.heap.size, 1, none⟩) (by first | (simp; done) | (simp; omega)) u11).far (p := ⟨w.heap.size, 2, none⟩) (by first | (simp; done) | (simp; omega)) u12)).frozen; have Cr2 := fun (u10 u11 u12 u20 u21 u22 : Value) => (((((((B6f.far (p := ⟨w.heap.size, 0, none⟩) (by first | (simp; done) | (simp; omega)) u10).far (p := ⟨w.heap.size, 1, none⟩) (by first | (simp; done) | (simp; omega)) u11).far (p := ⟨w.heap.size, 2, none⟩) (by first | (simp; done) | (simp; omega)) u12).far (p := ⟨w.heap.size + 1, 0, none⟩) (by first | (simp; done) | (simp; omega)) u20).far (p := ⟨w.heap.size + 1, 1, none⟩) (by first | (simp; done) | (simp; omega)) u21).far (p := ⟨w.heap.size + 1, 2, none⟩) (by first | (simp; done) | (simp; omega)) u22)).cells; have Fr2 := fun (u10 u11 u12 u20 u21 u22 : Value) => (((((((B6f.far (p := ⟨w.heap.size, 0, none⟩) (by first | (simp; done) | (simp; omega)) u10).far (p := ⟨w.heap.size, 1, none⟩) (by first | (simp; done) | (simp; omega)) u11).far (p := ⟨w.heap.size, 2, none⟩) (by first | (simp; done) | (simp; omega)) u12).far (p := ⟨w.heap.size + 1, 0, none⟩) (by first | (simp; done) | (simp; omega)) u20).far (p := ⟨w.heap.size + 1, 1, none⟩) (by first | (simp; done) | (simp; omega)) u21).far (p := ⟨w.heap.size + 1, 2, none⟩) (by first | (simp; done) | (simp; omega)) u22)).frozen)
        | fail)
    go_wp2
    refine ret_gxtt (a := P) (b := Q) (c := G) (x := base) (y := gpw P Q base x1) (a1 := cm) (a2 := x3) (a3 := ((x2 + x3 * x1) % Q)) (b1 := cm) (b2 := x4) (b3 := ((x2 + x4 * x1) % Q)) (((((((((B2f.set_ 0 (.int .i64 P)).set_ 1 (.int .i64 Q)).set_ 2 (.int .i64 G)).far (p := ⟨w.heap.size + 1, 0, none⟩) (by first | (simp; done) | (simp; omega)) (.int .i64 cm)).far (p := ⟨w.heap.size + 1, 1, none⟩) (by first | (simp; done) | (simp; omega)) (.int .i64 x3)).far (p := ⟨w.heap.size + 1, 2, none⟩) (by first | (simp; done) | (simp; omega)) (.int .i64 ((x2 + x3 * x1) % Q))).far (p := ⟨w.heap.size + 1 + 1, 0, none⟩) (by first | (simp; done) | (simp; omega)) (.int .i64 cm)).far (p := ⟨w.heap.size + 1 + 1, 1, none⟩) (by first | (simp; done) | (simp; omega)) (.int .i64 x4)).far (p := ⟨w.heap.size + 1 + 1, 2, none⟩) (by first | (simp; done) | (simp; omega)) (.int .i64 ((x2 + x4 * x1) % Q))) (((((((((B5f.far (p := ⟨w.heap.size, 0, none⟩) (by first | (simp; done) | (simp; omega)) (.int .i64 P)).far (p := ⟨w.heap.size, 1, none⟩) (by first | (simp; done) | (simp; omega)) (.int .i64 Q)).far (p := ⟨w.heap.size, 2, none⟩) (by first | (simp; done) | (simp; omega)) (.int .i64 G)).set_ 0 (.int .i64 cm)).set_ 1 (.int .i64 x3)).set_ 2 (.int .i64 ((x2 + x3 * x1) % Q))).far (p := ⟨w.heap.size + 1 + 1, 0, none⟩) (by first | (simp; done) | (simp; omega)) (.int .i64 cm)).far (p := ⟨w.heap.size + 1 + 1, 1, none⟩) (by first | (simp; done) | (simp; omega)) (.int .i64 x4)).far (p := ⟨w.heap.size + 1 + 1, 2, none⟩) (by first | (simp; done) | (simp; omega)) (.int .i64 ((x2 + x4 * x1) % Q))) (((((((((B6f.far (p := ⟨w.heap.size, 0, none⟩) (by first | (simp; done) | (simp; omega)) (.int .i64 P)).far (p := ⟨w.heap.size, 1, none⟩) (by first | (simp; done) | (simp; omega)) (.int .i64 Q)).far (p := ⟨w.heap.size, 2, none⟩) (by first | (simp; done) | (simp; omega)) (.int .i64 G)).far (p := ⟨w.heap.size + 1, 0, none⟩) (by first | (simp; done) | (simp; omega)) (.int .i64 cm)).far (p := ⟨w.heap.size + 1, 1, none⟩) (by first | (simp; done) | (simp; omega)) (.int .i64 x3)).far (p := ⟨w.heap.size + 1, 2, none⟩) (by first | (simp; done) | (simp; omega)) (.int .i64 ((x2 + x3 * x1) % Q))).set_ 0 (.int .i64 cm)).set_ 1 (.int .i64 x4)).set_ 2 (.int .i64 ((x2 + x4 * x1) % Q))) rfl rfl rfl rfl rfl rfl ?_
    exact ⟨P, Q, G, base, _, _, _, _, _, _, _, rfl, (((((((((E.drew).only hOa (fun b hb => by simp at hb; omega)).only hOb (fun b hb => by simp at hb; omega)).only hOc (fun b hb => by simp at hb; omega)).only hOd (fun b hb => by simp at hb; omega)).trans hbe).drew.trans hbf).then (below_three (g := w.heap.size) _ _ _ _) (Nat.le_refl _)).then (below_3 (g := w.heap.size + 1) _ _ _ _) (by omega)).then (below_3 (g := w.heap.size + 1 + 1) _ _ _ _) (by omega)⟩
  · go_wp2
    have hS : ∀ V, Blk V g5 37 #[.int .i64 P, .int .i64 Q, .int .i64 G] → Blk V g11 61 #[.int .i64 t, .int .i64 c, .int .i64 z] → V.cell? ⟨g5, 0, none⟩ = some (.int .i64 P) ∧ V.cell? ⟨g5, 1, none⟩ = some (.int .i64 Q) ∧ V.cell? ⟨g5, 2, none⟩ = some (.int .i64 G) ∧ V.cell? ⟨g11, 0, none⟩ = some (.int .i64 t) ∧ V.cell? ⟨g11, 1, none⟩ = some (.int .i64 c) ∧ V.cell? ⟨g11, 2, none⟩ = some (.int .i64 z) := fun V h k => ⟨h.cells 0, h.cells 1, h.cells 2, k.cells 0, k.cells 1, k.cells 2⟩
    go_region_held3 (fun V => V.cell? ⟨g5, 0, none⟩ = some (.int .i64 P) ∧ V.cell? ⟨g5, 1, none⟩ = some (.int .i64 Q) ∧ V.cell? ⟨g5, 2, none⟩ = some (.int .i64 G) ∧ V.cell? ⟨g11, 0, none⟩ = some (.int .i64 t) ∧ V.cell? ⟨g11, 1, none⟩ = some (.int .i64 c) ∧ V.cell? ⟨g11, 2, none⟩ = some (.int .i64 z)) (exact hS _ (by repeat (first | with_reducible assumption | with_reducible refine Blk.drew ?_ | with_reducible refine Blk.drewN ?_ _ | with_reducible refine Blk.farr ?_ ?_ | focus (show _ ≠ _; first | (simp; done) | (simp; omega) | omega))) (by repeat (first | with_reducible assumption | with_reducible refine Blk.drew ?_ | with_reducible refine Blk.drewN ?_ _ | with_reducible refine Blk.farr ?_ ?_ | focus (show _ ≠ _; first | (simp; done) | (simp; omega) | omega))))
      (first
        | (go_at_call 133; refine (transcript_any (w.heap.size + 1 + 1 + 1) _ P Q G base y _ (hCv.ext ((Ext.refl _).drew)) (by omega) (by simp; omega) hD).mono ?_; rintro e wx ⟨t2, c2, z2, rfl, hOx, hCx⟩; have B2x := B2.drew.only hOx (by simp <;> omega); have B5x := B5.drew.only hOx (by simp <;> omega); have B6x := B6.drew.only hOx (by simp <;> omega); have BGx := BG.drew.only hOx (by simp <;> omega); have BTx := BT.drew.only hOx (by simp <;> omega); have Cr0 := B2x.cells; have Fr0 := B2x.frozen; have Cr1 := fun (u10 u11 u12 : Value) => ((((B5x.far (p := ⟨w.heap.size, 0, none⟩) (by first | (simp; done) | (simp; omega)) u10).far (p := ⟨w.heap.size, 1, none⟩) (by first | (simp; done) | (simp; omega)) u11).far (p := ⟨w.heap.size, 2, none⟩) (by first | (simp; done) | (simp; omega)) u12)).cells; have Fr1 := fun (u10 u11 u12 : Value) => ((((B5x.far (p := ⟨w.heap.size, 0, none⟩) (by first | (simp; done) | (simp; omega)) u10).far (p := ⟨w.heap.size, 1, none⟩) (by first | (simp; done) | (simp; omega)) u11).far (p := ⟨w.heap.size, 2, none⟩) (by first | (simp; done) | (simp; omega)) u12)).frozen; have Cr2 := fun (u10 u11 u12 u20 u21 u22 : Value) => (((((((B6x.far (p := ⟨w.heap.size, 0, none⟩) (by first | (simp; done) | (simp; omega)) u10).far (p := ⟨w.heap.size, 1, none⟩) (by first | (simp; done) | (simp; omega)) u11).far (p := ⟨w.heap.size, 2, none⟩) (by first | (simp; done) | (simp; omega)) u12).far (p := ⟨w.heap.size + 1, 0, none⟩) (by first | (simp; done) | (simp; omega)) u20).far (p := ⟨w.heap.size + 1, 1, none⟩) (by first | (simp; done) | (simp; omega)) u21).far (p := ⟨w.heap.size + 1, 2, none⟩) (by first | (simp; done) | (simp; omega)) u22)).cells; have Fr2 := fun (u10 u11 u12 u20 u21 u22 : Value) => (((((((B6x.far (p := ⟨w.heap.size, 0, none⟩) (by first | (simp; done) | (simp; omega)) u10).far (p := ⟨w.heap.size, 1, none⟩) (by first | (simp; done) | (simp; omega)) u11).far (p := ⟨w.heap.size, 2, none⟩) (by first | (simp; done) | (simp; omega)) u12).far (p := ⟨w.heap.size + 1, 0, none⟩) (by first | (simp; done) | (simp; omega)) u20).far (p := ⟨w.heap.size + 1, 1, none⟩) (by first | (simp; done) | (simp; omega)) u21).far (p := ⟨w.heap.size + 1, 2, none⟩) (by first | (simp; done) | (simp; omega)) u22)).frozen)
        | fail)
    go_wp2
    refine ret_gxtt (a := P) (b := Q) (c := G) (x := base) (y := y) (a1 := t) (a2 := c) (a3 := z) (b1 := t2) (b2 := c2) (b3 := z2) (((((((((B2x.set_ 0 (.int .i64 P)).set_ 1 (.int .i64 Q)).set_ 2 (.int .i64 G)).far (p := ⟨w.heap.size + 1, 0, none⟩) (by first | (simp; done) | (simp; omega)) (.int .i64 t)).far (p := ⟨w.heap.size + 1, 1, none⟩) (by first | (simp; done) | (simp; omega)) (.int .i64 c)).far (p := ⟨w.heap.size + 1, 2, none⟩) (by first | (simp; done) | (simp; omega)) (.int .i64 z)).far (p := ⟨w.heap.size + 1 + 1, 0, none⟩) (by first | (simp; done) | (simp; omega)) (.int .i64 t2)).far (p := ⟨w.heap.size + 1 + 1, 1, none⟩) (by first | (simp; done) | (simp; omega)) (.int .i64 c2)).far (p := ⟨w.heap.size + 1 + 1, 2, none⟩) (by first | (simp; done) | (simp; omega)) (.int .i64 z2)) (((((((((B5x.far (p := ⟨w.heap.size, 0, none⟩) (by first | (simp; done) | (simp; omega)) (.int .i64 P)).far (p := ⟨w.heap.size, 1, none⟩) (by first | (simp; done) | (simp; omega)) (.int .i64 Q)).far (p := ⟨w.heap.size, 2, none⟩) (by first | (simp; done) | (simp; omega)) (.int .i64 G)).set_ 0 (.int .i64 t)).set_ 1 (.int .i64 c)).set_ 2 (.int .i64 z)).far (p := ⟨w.heap.size + 1 + 1, 0, none⟩) (by first | (simp; done) | (simp; omega)) (.int .i64 t2)).far (p := ⟨w.heap.size + 1 + 1, 1, none⟩) (by first | (simp; done) | (simp; omega)) (.int .i64 c2)).far (p := ⟨w.heap.size + 1 + 1, 2, none⟩) (by first | (simp; done) | (simp; omega)) (.int .i64 z2)) (((((((((B6x.far (p := ⟨w.heap.size, 0, none⟩) (by first | (simp; done) | (simp; omega)) (.int .i64 P)).far (p := ⟨w.heap.size, 1, none⟩) (by first | (simp; done) | (simp; omega)) (.int .i64 Q)).far (p := ⟨w.heap.size, 2, none⟩) (by first | (simp; done) | (simp; omega)) (.int .i64 G)).far (p := ⟨w.heap.size + 1, 0, none⟩) (by first | (simp; done) | (simp; omega)) (.int .i64 t)).far (p := ⟨w.heap.size + 1, 1, none⟩) (by first | (simp; done) | (simp; omega)) (.int .i64 c)).far (p := ⟨w.heap.size + 1, 2, none⟩) (by first | (simp; done) | (simp; omega)) (.int .i64 z)).set_ 0 (.int .i64 t2)).set_ 1 (.int .i64 c2)).set_ 2 (.int .i64 z2)) rfl rfl rfl rfl rfl rfl ?_
    exact ⟨P, Q, G, base, y, _, _, _, _, _, _, rfl, ((((E.drew).only hOx (fun b hb => by simp at hb; omega)).then (below_three (g := w.heap.size) _ _ _ _) (Nat.le_refl _)).then (below_3 (g := w.heap.size + 1) _ _ _ _) (by omega)).then (below_3 (g := w.heap.size + 1 + 1) _ _ _ _) (by omega)⟩
end Go.Proofs.Ytdimmfniefjjkaa

/- Contracts for MixCipher, the program's and the reference's. (Printed by tools/gen_mixc.py.) Contracts for MixCipher, the program's and the reference's: guards and all. (Printed by tools/gen_mixd.py.) -/
import Derived.Test.YtpfccboighdcbaaProg
import Derived.Test.YtpfccboighdcbaaMxc
import Derived.Test.YtpfccboighdcbaaSea3
import Derived.Test.YtpfccboighdcbaaHeldL
import Derived.Deep.CutRange
namespace Go.Proofs.Ytpfccboighdcbaa
section
open Go.RowKit
set_option linter.unusedVariables false
set_option linter.unusedSimpArgs false

theorem gmul_id {p x : Int} (h0 : 0 ≤ x) (h1 : x < p) : gmul p [1, x] = x := by
  simp only [gmul, List.foldl_cons, List.foldl_nil, Int.one_mul]
  rcases Int.lt_or_le 1 p with hp | hp
  · rw [Int.emod_eq_of_lt (by omega) hp, Int.one_mul, Int.emod_eq_of_lt h0 h1]
  · have : p = 1 := by omega
    subst this
    have : x = 0 := by omega
    subst this; rfl
theorem gpw_rgp {p q x e : Int} (h : GrpB p q) : 0 ≤ gpw p q x e ∧ gpw p q x e < p := by
  obtain ⟨p1, _, _, _⟩ := h
  unfold gpw powM
  have := Nat.mod_lt (x.toNat ^ (e % q).toNat) (show 0 < p.toNat by omega)
  omega
theorem gmul_rgp {p q : Int} (h : GrpB p q) (x y : Int) : 0 ≤ gmul p [x, y] ∧ gmul p [x, y] < p := by
  obtain ⟨p1, _, _, _⟩ := h
  simp only [gmul, List.foldl_cons, List.foldl_nil]
  exact ⟨Int.emod_nonneg _ (by omega), Int.emod_lt_of_pos _ (by omega)⟩
theorem mxS_rg {p q t : Int} (h : GrpB p q) (h2 : 2 ≤ p) : ∀ l : List (Int × Int), (0 ≤ (mxS p q t l).1 ∧ (mxS p q t l).1 < p) ∧ 0 ≤ (mxS p q t l).2 ∧ (mxS p q t l).2 < p
  | [] => ⟨⟨by simp [mxS], by simp only [mxS]; omega⟩, by simp [mxS], by simp only [mxS]; omega⟩
  | _ :: _ => ⟨gmul_rgp h _ _, gmul_rgp h _ _⟩
theorem rdC_two {w : World} {a b c d : Int} {k : Nat} {e : TypeId} (hk : k = w.heap.size) : RdC (w.alloc (.cells #[.int .i64 a, .int .i64 b, .int .i64 c, .int .i64 d] e)) (some ⟨k, 0, none⟩) [(a, b), (c, d)] := by
  subst hk
  refine .inr ⟨_, rfl, fun j u hu => ?_⟩
  have B := (Blk.new w e #[.int .i64 a, .int .i64 b, .int .i64 c, .int .i64 d]).cells
  match j with
  | 0 => simp only [cs2, List.flatMap_cons, List.flatMap_nil, List.append_nil, List.cons_append, List.nil_append, List.getElem?_cons_zero, Option.some.injEq] at hu; subst hu; exact B 0
  | 1 => simp only [cs2, List.flatMap_cons, List.flatMap_nil, List.append_nil, List.cons_append, List.nil_append, List.getElem?_cons_succ, List.getElem?_cons_zero, Option.some.injEq] at hu; subst hu; exact B 1
  | 2 => simp only [cs2, List.flatMap_cons, List.flatMap_nil, List.append_nil, List.cons_append, List.nil_append, List.getElem?_cons_succ, List.getElem?_cons_zero, Option.some.injEq] at hu; subst hu; exact B 2
  | 3 => simp only [cs2, List.flatMap_cons, List.flatMap_nil, List.append_nil, List.cons_append, List.nil_append, List.getElem?_cons_succ, List.getElem?_cons_zero, Option.some.injEq] at hu; subst hu; exact B 3
  | j + 4 => simp [cs2] at hu
/-- The greatest number of an option; the width; what MixCipher answers. -/
def mcT (a f : Int) : Int := if a = 1 then 1 else f
def mcW (a b : Int) : Int := if a = 1 ∨ a = 2 then b else 1
noncomputable def mcB (p q g a b c d f : Int) (l : List (Int × Int)) : Bool := seaB p q g a b c d f && (decide ((l.length : Int) = mcW a b) && (decide (l.length ≤ 24) && l.all (ciB p q)))
def mcV (p q a f : Int) (l : List (Int × Int)) : Int × Int := if a = 1 ∨ a = 2 then mxS p q (mcT a f + 1) l else l.headD (0, 0)
noncomputable def mcR (p q g a b c d f : Int) (l : List (Int × Int)) : Int × Int := if mcB p q g a b c d f l then mcV p q a f l else (0, 0)
theorem emF_pair {p q x y u v : Int} (hx : 0 ≤ x ∧ x < p) (hy : 0 ≤ y ∧ y < p) : emF p [(x, y), (u, v)] = (gmul p [x, u], gmul p [y, v]) := by
  simp only [emF, List.foldl_cons, List.foldl_nil, emStep]
  rw [gmul_id hx.1 hx.2, gmul_id hy.1 hy.2]
theorem mxS_drop {p q t : Int} {l : List (Int × Int)} {k : Nat} (hk : k < l.length) : mxS p q t (l.drop k) = (gmul p [gpw p q (mxS p q t (l.drop (k + 1))).1 t, l[k].1], gmul p [gpw p q (mxS p q t (l.drop (k + 1))).2 t, l[k].2]) := by
  rw [List.drop_eq_getElem_cons hk]; rfl
theorem elB_rg {p q x : Int} (h : elB p q x = true) : 1 ≤ x ∧ x ≤ p - 1 := (elB_iff.1 h).1
theorem ciB_rg {p q : Int} (h9 : p ≤ 2000000000) {l : List (Int × Int)} (h : l.all (ciB p q) = true) : ∀ x ∈ l, (0 ≤ x.1 ∧ x.1 ≤ 3000000000) ∧ 0 ≤ x.2 ∧ x.2 ≤ 3000000000 := by
  intro x hx
  have := List.all_eq_true.1 h x hx
  unfold ciB at this
  rw [Bool.and_eq_true] at this
  have a1 := elB_rg this.1
  have a2 := elB_rg this.2
  exact ⟨⟨by omega, by omega⟩, by omega, by omega⟩
set_option maxRecDepth 100000 in
set_option maxHeartbeats 8000000 in
theorem bMix_any (p q g a b c d f : Int) (A : Option Addr) (n k0 : Nat) (l : List (Int × Int)) (w : World) (h : GrpB p q) (hp : 2 ≤ p) (ha : RdC w A l) (hl : l.length = n) (hn : n ≤ 100) (hpos : 0 < n) (hf : 0 ≤ f ∧ f ≤ 1000) (hr : ∀ x ∈ l, (0 ≤ x.1 ∧ x.1 ≤ 3000000000) ∧ 0 ≤ x.2 ∧ x.2 ≤ 3000000000) :
    Calls Try.prog 51 #[.agg #[.int .i64 p, .int .i64 q, .int .i64 g], .agg #[.int .i64 a, .int .i64 b, .int .i64 c, .int .i64 d, .int .i64 f], .slice A n k0] w fun e w' => e = .returned (.agg #[.int .i64 (mcV p q a f l).1, .int .i64 (mcV p q a f l).2]) ∧ Ext w w' := by
  have hn9 : n ≤ 9223372036854775807 := by omega
  subst hl
  have E := ((((Ext.refl w).alloc (.cells #[.int .i64 p, .int .i64 q, .int .i64 g] 38)).alloc (.cells #[.int .i64 a, .int .i64 b, .int .i64 c, .int .i64 d, .int .i64 f] 40)).alloc (.cells #[.int .i64 0, .int .i64 0] 35))
  have B0 := (((Blk.new w 38 #[.int .i64 p, .int .i64 q, .int .i64 g]).alloc (.cells #[.int .i64 a, .int .i64 b, .int .i64 c, .int .i64 d, .int .i64 f] 40)).alloc (.cells #[.int .i64 0, .int .i64 0] 35))
  have B1 := ((Blk.new (w.alloc (.cells #[.int .i64 p, .int .i64 q, .int .i64 g] 38)) 40 #[.int .i64 a, .int .i64 b, .int .i64 c, .int .i64 d, .int .i64 f]).alloc (.cells #[.int .i64 0, .int .i64 0] 35))
  have B2 := (Blk.new ((w.alloc (.cells #[.int .i64 p, .int .i64 q, .int .i64 g] 38)).alloc (.cells #[.int .i64 a, .int .i64 b, .int .i64 c, .int .i64 d, .int .i64 f] 40)) 35 #[.int .i64 0, .int .i64 0])
  simp only [World.size_alloc] at B1 B2
  unfold mcV
  by_cases hrw : a = 1 ∨ a = 2
  · rw [if_pos hrw]
    obtain ⟨t0, ht0⟩ : ∃ t0, (if a = 1 then 1 else f) = t0 := ⟨_, rfl⟩
    have ht0' : mcT a f = t0 := ht0
    rw [ht0']
    have hb0 : 0 ≤ t0 ∧ t0 ≤ 1000 := by rw [← ht0]; split <;> omega
    have HT0 := Lib.hid ht0
    obtain ⟨t, htt⟩ : ∃ t, t0 + 1 = t := ⟨_, rfl⟩
    have hbt : 0 ≤ t ∧ t ≤ 1001 := by omega
    have hwr : IntKind.i64.wrap (t0 + 1) = t := by rw [IntKind.wrap_i64]; omega
    rw [htt]
    have HR := Lib.hid hr
    have HP := Lib.hid hp
    clear hr ht0 ht0' htt
    have C0 := B0.cells
    have C1 := B1.cells
    go_enter Try.func51, Try.ntmps51
    go_wp2_with fail
    refine (bRows_any a b c d f _).mono ?_
    rw [decide_eq_true hrw]
    rintro en w1 ⟨rfl, hb⟩
    clear C0 C1 hrw
    replace E := E.trans hb
    replace B0 := B0.ext hb
    replace B1 := B1.ext hb
    replace B2 := B2.ext hb
    clear hb
    have hz1 := B2.lt
    have E1 := E.alloc (.cells #[.int .i64 1, .int .i64 1] 35)
    have C01 := B0.alloc (.cells #[.int .i64 1, .int .i64 1] 35)
    have C11 := B1.alloc (.cells #[.int .i64 1, .int .i64 1] 35)
    have C21 := B2.alloc (.cells #[.int .i64 1, .int .i64 1] 35)
    have B3 := Blk.new w1 35 #[.int .i64 1, .int .i64 1]
    go_wp2
    generalize w1.heap.size = gz at *
    generalize w1.alloc (.cells #[.int .i64 1, .int .i64 1] 35) = w2 at *
    clear B0 B1 B2 E
    go_loopw [8] (fun i wr => ∃ (k : Nat) (v : Int), v = (k : Int) - 1 ∧ k ≤ l.length ∧ i = .int .i64 v ∧ Blk wr w.heap.size 38 #[.int .i64 p, .int .i64 q, .int .i64 g] ∧ Blk wr (w.heap.size + 1) 40 #[.int .i64 a, .int .i64 b, .int .i64 c, .int .i64 d, .int .i64 f] ∧ Blk wr (w.heap.size + 1 + 1) 35 #[.int .i64 0, .int .i64 0] ∧ Blk wr gz 35 #[.int .i64 (mxS p q t (l.drop k)).1, .int .i64 (mxS p q t (l.drop k)).2] ∧ Ext w wr) (fun i _ => (intOf i + 1).toNat)
    case atStart => exact ⟨l.length, (l.length : Int) - 1, rfl, Nat.le_refl _, rfl, C01, C11, C21, by rw [List.drop_length]; exact B3, E1⟩
    case round =>
      clear C01 C11 C21 B3 E1
      obtain ⟨k, v, hv, hk, rfl, B0, B1, B2, B3, E⟩ := hrel
      rcases k with _ | k
      · obtain rfl : v = -1 := by omega
        clear hv
        rw [List.drop_zero] at B3
        have CC := B3.cells
        have FF := B2.frozen
        have C2 := B2.cells
        go_wp2
        refine ret_ci (a := (mxS p q t l).1) (b := (mxS p q t l).2) ((B2.set_ 0 (.int .i64 (mxS p q t l).1)).set_ 1 (.int .i64 (mxS p q t l).2)) rfl rfl ?_
        exact ⟨rfl, E.then (below_two (g := w.heap.size + 1 + 1) _ _ _) (by omega)⟩
      · obtain rfl : v = (k : Int) := by omega
        clear hv
        have hlt : k < l.length := hk
        obtain ⟨ad, rfl, hc, hd⟩ := (ha.ext E).at_ hlt
        have hx := HR.out _ (List.getElem_mem hlt)
        have ho := mxS_rg (t := t) h HP.out (l.drop (k + 1))
        have hs1 := mxS_drop (p := p) (q := q) (t := t) hlt
        generalize l[k] = x at *
        obtain ⟨x1, x2⟩ := x
        generalize mxS p q t (l.drop (k + 1)) = o at *
        obtain ⟨o1, o2⟩ := o
        simp only at hc hd hx ho B3 hs1
        have HS := Lib.hid hs1
        have g1 := gpw_rgp (x := o1) (e := t) h
        have g2 := gpw_rgp (x := o2) (e := t) h
        have hp9 := h.p2
        have HEM := Lib.hid (emF_pair (u := x1) (v := x2) (q := q) g1 g2)
        have HTW : Hid (∀ y ∈ [(gpw p q o1 t, gpw p q o2 t), (x1, x2)], (0 ≤ y.1 ∧ y.1 ≤ 3000000000) ∧ 0 ≤ y.2 ∧ y.2 ≤ 3000000000) := by
          intro y hy
          simp only [List.mem_cons, List.not_mem_nil, or_false] at hy
          rcases hy with rfl | rfl
          · exact ⟨⟨g1.1, by omega⟩, g2.1, by omega⟩
          · exact hx
        clear hs1
        have hi0 : (0 : Int) ≤ (k : Int) := by omega
        have hi1 : (k : Int) < (l.length : Int) := by omega
        have hS : ∀ V, Ext wr V → V.cell? ⟨w.heap.size, 0, none⟩ = some (.int .i64 p) ∧ V.cell? ⟨w.heap.size, 1, none⟩ = some (.int .i64 q) ∧ V.cell? ⟨w.heap.size, 2, none⟩ = some (.int .i64 g) ∧ V.cell? ⟨w.heap.size + 1, 0, none⟩ = some (.int .i64 a) ∧ V.cell? ⟨w.heap.size + 1, 1, none⟩ = some (.int .i64 b) ∧ V.cell? ⟨w.heap.size + 1, 2, none⟩ = some (.int .i64 c) ∧ V.cell? ⟨w.heap.size + 1, 3, none⟩ = some (.int .i64 d) ∧ V.cell? ⟨w.heap.size + 1, 4, none⟩ = some (.int .i64 f) ∧ V.cell? ⟨gz, 0, none⟩ = some (.int .i64 o1) ∧ V.cell? ⟨gz, 1, none⟩ = some (.int .i64 o2) ∧ V.cell? (ad.add (k * 2)) = some (.int .i64 x1) ∧ V.cell? ⟨(ad.add (k * 2)).block, (ad.add (k * 2)).off + 1, none⟩ = some (.int .i64 x2) := fun V hV => by
          have a0 := (B0.ext hV).cells
          have a1 := (B1.ext hV).cells
          have a3 := (B3.ext hV).cells
          exact ⟨a0 0, a0 1, a0 2, a1 0, a1 1, a1 2, a1 3, a1 4, a3 0, a3 1, hV.cell hc, hV.cell hd⟩
        have HFx : Hid (∀ V, Ext wr V → V.frozen? ⟨gz, 0, none⟩ = false ∧ V.frozen? ⟨gz, 1, none⟩ = false) := fun V hV => by
          have a3 := (B3.ext hV).frozen
          exact ⟨a3 0, a3 1⟩
        have hgz1 : w.heap.size + 1 + 1 < gz := hz1
        have HFin : Hid (∀ V (y1 y2 : Int), Ext wr V → Blk ((V.setCell ⟨gz, 0, none⟩ (.int .i64 y1)).setCell ⟨gz, 1, none⟩ (.int .i64 y2)) w.heap.size 38 #[.int .i64 p, .int .i64 q, .int .i64 g] ∧ Blk ((V.setCell ⟨gz, 0, none⟩ (.int .i64 y1)).setCell ⟨gz, 1, none⟩ (.int .i64 y2)) (w.heap.size + 1) 40 #[.int .i64 a, .int .i64 b, .int .i64 c, .int .i64 d, .int .i64 f] ∧ Blk ((V.setCell ⟨gz, 0, none⟩ (.int .i64 y1)).setCell ⟨gz, 1, none⟩ (.int .i64 y2)) (w.heap.size + 1 + 1) 35 #[.int .i64 0, .int .i64 0] ∧ Blk ((V.setCell ⟨gz, 0, none⟩ (.int .i64 y1)).setCell ⟨gz, 1, none⟩ (.int .i64 y2)) gz 35 #[.int .i64 y1, .int .i64 y2] ∧ Ext w ((V.setCell ⟨gz, 0, none⟩ (.int .i64 y1)).setCell ⟨gz, 1, none⟩ (.int .i64 y2))) := fun V y1 y2 hV => by
          exact ⟨((B0.ext hV).far (p := ⟨gz, 0, none⟩) (by simp; omega) _).far (p := ⟨gz, 1, none⟩) (by simp; omega) _, ((B1.ext hV).far (p := ⟨gz, 0, none⟩) (by simp; omega) _).far (p := ⟨gz, 1, none⟩) (by simp; omega) _, ((B2.ext hV).far (p := ⟨gz, 0, none⟩) (by simp; omega) _).far (p := ⟨gz, 1, none⟩) (by simp; omega) _, ((B3.ext hV).set_ 0 _).set_ 1 _, ((E.trans hV).setCell (p := ⟨gz, 0, none⟩) (by simp; omega) _).setCell (p := ⟨gz, 1, none⟩) (by simp; omega) _⟩
        have C0 := B0.cells
        have C1 := B1.cells
        have C3 := B3.cells
        go_wp2
        refine wp_region_heldL (S := fun V => V.cell? ⟨w.heap.size, 0, none⟩ = some (.int .i64 p) ∧ V.cell? ⟨w.heap.size, 1, none⟩ = some (.int .i64 q) ∧ V.cell? ⟨w.heap.size, 2, none⟩ = some (.int .i64 g) ∧ V.cell? ⟨w.heap.size + 1, 0, none⟩ = some (.int .i64 a) ∧ V.cell? ⟨w.heap.size + 1, 1, none⟩ = some (.int .i64 b) ∧ V.cell? ⟨w.heap.size + 1, 2, none⟩ = some (.int .i64 c) ∧ V.cell? ⟨w.heap.size + 1, 3, none⟩ = some (.int .i64 d) ∧ V.cell? ⟨w.heap.size + 1, 4, none⟩ = some (.int .i64 f) ∧ V.cell? ⟨gz, 0, none⟩ = some (.int .i64 o1) ∧ V.cell? ⟨gz, 1, none⟩ = some (.int .i64 o2) ∧ V.cell? (ad.add (k * 2)) = some (.int .i64 x1) ∧ V.cell? ⟨(ad.add (k * 2)).block, (ad.add (k * 2)).off + 1, none⟩ = some (.int .i64 x2)) 13 (by kernel_rfl) ?_ (fun hHeld => ?_)
        · exact hS _ (by repeat (first | with_reducible assumption | with_reducible exact Ext.refl _ | with_reducible apply Ext.alloc | with_reducible apply Ext.drew | with_reducible apply Ext.drewN))
        refine' wpAnyL_take (i := 0) (v := _) ?hi0 (by kernel_rfl) (by kernel_rfl) (by kernel_rfl) [13] (by kernel_rfl) ?hQ0 ?hy0 (by assumption) ?_
        case hi0 => (simp only [List.getElem?_toArray, List.getElem?_cons_zero]; rfl)
        case hy0 => refine Or.inl ⟨by rfl, ?_⟩; intro w hSw; (try dsimp only at hSw); go_simp <;> with_reducible rfl
        case hQ0 => exact fun _ _ _ h => h
        try simp only [Act.put, List.setIfInBounds_toArray, List.set_cons_zero, List.set_cons_succ]
        refine' wpAnyL_take (i := 1) (v := _) ?hi1 (by kernel_rfl) (by kernel_rfl) (by kernel_rfl) [13] (by kernel_rfl) ?hQ1 ?hy1 (by assumption) ?_
        case hi1 => (simp only [List.getElem?_toArray, List.getElem?_cons_succ, List.getElem?_cons_zero]; rfl)
        case hy1 => refine Or.inl ⟨by rfl, ?_⟩; intro w hSw; (try dsimp only at hSw); go_simp <;> with_reducible rfl
        case hQ1 => exact fun _ _ _ h => h
        try simp only [Act.put, List.setIfInBounds_toArray, List.set_cons_zero, List.set_cons_succ]
        refine' wpAnyL_take (i := 2) (v := _) ?hi2 (by kernel_rfl) (by kernel_rfl) (by kernel_rfl) [13] (by kernel_rfl) ?hQ2 ?hy2 (by assumption) ?_
        case hi2 => (simp only [List.getElem?_toArray, List.getElem?_cons_succ, List.getElem?_cons_zero]; rfl)
        case hy2 => refine Or.inl ⟨by rfl, ?_⟩; intro w hSw; (try dsimp only at hSw); go_simp <;> with_reducible rfl
        case hQ2 => exact fun _ _ _ h => h
        try simp only [Act.put, List.setIfInBounds_toArray, List.set_cons_zero, List.set_cons_succ]
        refine' wpAnyL_take (i := 3) (v := _) ?hi3 (by kernel_rfl) (by kernel_rfl) (by kernel_rfl) [13] (by kernel_rfl) ?hQ3 ?hy3 (by assumption) ?_
        case hi3 => (simp only [List.getElem?_toArray, List.getElem?_cons_succ, List.getElem?_cons_zero]; rfl)
        case hy3 => refine Or.inl ⟨by rfl, ?_⟩; intro w hSw; (try dsimp only at hSw); go_simp <;> with_reducible rfl
        case hQ3 => exact fun _ _ _ h => h
        try simp only [Act.put, List.setIfInBounds_toArray, List.set_cons_zero, List.set_cons_succ]
        refine' wpAnyL_take (i := 7) (v := _) ?hi7 (by kernel_rfl) (by kernel_rfl) (by kernel_rfl) [13] (by kernel_rfl) ?hQ7 ?hy7 (by assumption) ?_
        case hi7 => (simp only [List.getElem?_toArray, List.getElem?_cons_succ, List.getElem?_cons_zero]; rfl)
        case hy7 => refine Or.inl ⟨by rfl, ?_⟩; intro w hSw; (try dsimp only at hSw); go_simp <;> with_reducible rfl
        case hQ7 => exact fun _ _ _ h => h
        try simp only [Act.put, List.setIfInBounds_toArray, List.set_cons_zero, List.set_cons_succ]
        refine' wpAnyL_take (i := 8) (v := _) ?hi8 (by kernel_rfl) (by kernel_rfl) (by kernel_rfl) [13] (by kernel_rfl) ?hQ8 ?hy8 (by assumption) ?_
        case hi8 => (simp only [List.getElem?_toArray, List.getElem?_cons_succ, List.getElem?_cons_zero]; rfl)
        case hy8 => refine Or.inl ⟨by rfl, ?_⟩; intro w hSw; (try dsimp only at hSw); go_simp <;> with_reducible rfl
        case hQ8 => exact fun _ _ _ h => h
        try simp only [Act.put, List.setIfInBounds_toArray, List.set_cons_zero, List.set_cons_succ]
        refine' wpAnyL_take (i := 9) (v := _) ?hi9 (by kernel_rfl) (by kernel_rfl) (by kernel_rfl) [13] (by kernel_rfl) ?hQ9 ?hy9 (by assumption) ?_
        case hi9 => (simp only [List.getElem?_toArray, List.getElem?_cons_succ, List.getElem?_cons_zero]; rfl)
        case hy9 => refine Or.inl ⟨by rfl, ?_⟩; intro w hSw; (try dsimp only at hSw); go_simp <;> with_reducible rfl
        case hQ9 => exact fun _ _ _ h => h
        try simp only [Act.put, List.setIfInBounds_toArray, List.set_cons_zero, List.set_cons_succ]
        refine' wpAnyL_take (i := 10) (v := _) ?hi10 (by kernel_rfl) (by kernel_rfl) (by kernel_rfl) [13] (by kernel_rfl) ?hQ10 ?hy10 (by assumption) ?_
        case hi10 => (simp only [List.getElem?_toArray, List.getElem?_cons_succ, List.getElem?_cons_zero]; rfl)
        case hy10 => refine Or.inl ⟨by rfl, ?_⟩; intro w hSw; (try dsimp only at hSw); go_simp <;> with_reducible rfl
        case hQ10 => exact fun _ _ _ h => h
        try simp only [Act.put, List.setIfInBounds_toArray, List.set_cons_zero, List.set_cons_succ]
        refine wpAnyL_ready (rs := [4]) (by kernel_rfl) (by simp) ?_
        refine AllReadyL.cons rfl (by kernel_rfl) (fun KK hKK => ?_) ?_
        · go_simp
          go_at_call 121
          refine (bTop_any a b c d f _).mono ?_
          rintro ek wk4 ⟨hek, hbk4⟩
          rw [HT0.out] at hek; subst hek
          have hxk4 := Ext.trans (w := wr) (by repeat (first | with_reducible assumption | with_reducible exact Ext.refl _ | with_reducible apply Ext.alloc | with_reducible apply Ext.drew | with_reducible apply Ext.drewN)) hbk4
          refine hKK.out _ _ ?_ (fun hHeld => ?_)
          · exact hS _ (by repeat (first | with_reducible assumption | with_reducible exact Ext.refl _ | with_reducible apply Ext.alloc | with_reducible apply Ext.drew | with_reducible apply Ext.drewN))
          clear hKK KK
          try simp only [Act.put, List.setIfInBounds_toArray, List.set_cons_zero, List.set_cons_succ]
          refine' wpAnyL_take (i := 5) (v := _) ?hi5 (by kernel_rfl) (by kernel_rfl) (by kernel_rfl) [13] (by kernel_rfl) ?hQ5 ?hy5 (by assumption) ?_
          case hi5 => (simp only [List.getElem?_toArray, List.getElem?_cons_succ, List.getElem?_cons_zero]; rfl)
          case hy5 => refine Or.inl ⟨by rfl, ?_⟩; intro w hSw; (try dsimp only at hSw); go_simp <;> with_reducible rfl
          case hQ5 => exact fun _ _ _ h => h
          try simp only [Act.put, List.setIfInBounds_toArray, List.set_cons_zero, List.set_cons_succ]
          refine wpAnyL_ready (rs := [6]) (by kernel_rfl) (by simp) ?_
          refine AllReadyL.cons rfl (by kernel_rfl) (fun KK hKK => ?_) ?_
          · go_simp
            go_at_call 120
            refine (ePow_any p q g o1 o2 t _ h (by omega) (by omega) (by omega)).mono ?_
            rintro ek wk6 ⟨rfl, hbk6⟩
            have hxk6 := Ext.trans (w := wr) (by repeat (first | with_reducible assumption | with_reducible exact Ext.refl _ | with_reducible apply Ext.alloc | with_reducible apply Ext.drew | with_reducible apply Ext.drewN)) hbk6
            refine hKK.out _ _ ?_ (fun hHeld => ?_)
            · exact hS _ (by repeat (first | with_reducible assumption | with_reducible exact Ext.refl _ | with_reducible apply Ext.alloc | with_reducible apply Ext.drew | with_reducible apply Ext.drewN))
            clear hKK KK
            try simp only [Act.put, List.setIfInBounds_toArray, List.set_cons_zero, List.set_cons_succ]
            refine wpAnyL_ready (rs := [11]) (by kernel_rfl) (by simp) ?_
            refine AllReadyL.cons rfl (by kernel_rfl) (fun KK hKK => ?_) ?_
            · go_simp
              refine hKK.out _ _ ?_ (fun hHeld => ?_)
              · exact hS _ (by repeat (first | with_reducible assumption | with_reducible exact Ext.refl _ | with_reducible apply Ext.alloc | with_reducible apply Ext.drew | with_reducible apply Ext.drewN))
              clear hKK KK
              try simp only [Act.put, List.setIfInBounds_toArray, List.set_cons_zero, List.set_cons_succ]
              refine wpAnyL_ready (rs := [12]) (by kernel_rfl) (by simp) ?_
              refine AllReadyL.cons rfl (by kernel_rfl) (fun KK hKK => ?_) ?_
              · go_simp
                go_at_call 119
                refine (eMul_any p q g _ 2 2 [(gpw p q o1 t, gpw p q o2 t), (x1, x2)] _ h (by exact rdC_two rfl) rfl (by decide) HTW.out).mono ?_
                rw [HEM.out]
                rintro ek wk12 ⟨rfl, hbk12⟩
                have hxk12 := Ext.trans (w := wr) (by repeat (first | with_reducible assumption | with_reducible exact Ext.refl _ | with_reducible apply Ext.alloc | with_reducible apply Ext.drew | with_reducible apply Ext.drewN)) hbk12
                refine hKK.out _ _ ?_ (fun hHeld => ?_)
                · exact hS _ (by repeat (first | with_reducible assumption | with_reducible exact Ext.refl _ | with_reducible apply Ext.alloc | with_reducible apply Ext.drew | with_reducible apply Ext.drewN))
                clear hKK KK
                try simp only [Act.put, List.setIfInBounds_toArray, List.set_cons_zero, List.set_cons_succ]
                refine wpAnyL_ready (rs := [13]) (by kernel_rfl) (by simp) ?_
                refine AllReadyL.last rfl (by kernel_rfl) (fun KK hKK => ?_) ?_
                · obtain ⟨ff0, ff1⟩ := HFx.out _ hxk12
                  obtain ⟨c0, c1, c2, c3, c4, c5, c6, c7, c8, c9, c10, c11⟩ := hS _ hxk12
                  go_simp
                  refine hKK.out _ _ ?_
                  clear hKK KK
                  try simp only [Act.put, List.setIfInBounds_toArray, List.set_cons_zero, List.set_cons_succ]
                  refine wpAny_done (by kernel_rfl) ?_ _
                  go_wp2
                  go_roundw
                  case rel => exact ⟨k, (k : Int) - 1, rfl, by omega, by go_num, by have h9 := HFin.out _ (gmul p [gpw p q o1 t, x1]) (gmul p [gpw p q o2 t, x2]) hxk12; rw [HS.out]; exact h9⟩
                  case measure => first | (simp [intOf]; done) | (simp [intOf]; omega)
                exact AllReadyL.nil
              exact AllReadyL.nil
            exact AllReadyL.nil
          exact AllReadyL.nil
        exact AllReadyL.nil
  · rw [if_neg hrw]
    have C0 := B0.cells
    have C1 := B1.cells
    obtain ⟨ad, rfl, hc, hd⟩ := (ha.ext E).at_ hpos
    rw [Nat.zero_mul, show ad.add 0 = ad from rfl] at hc hd
    obtain ⟨x, hx⟩ : ∃ x, l[0] = x := ⟨_, rfl⟩
    have hx2 : l.headD (0, 0) = x := by rw [← hx]; cases l with
      | nil => simp at hpos
      | cons y l => rfl
    rw [hx2]
    rw [hx] at hc hd
    obtain ⟨x1, x2⟩ := x
    simp only at hc hd
    clear hx hx2
    have hn0 : (0 : Int) < (l.length : Int) := by omega
    go_enter Try.func51, Try.ntmps51
    go_wp2_with fail
    refine (bRows_any a b c d f _).mono ?_
    rw [decide_eq_false hrw]
    rintro en w1 ⟨rfl, hb⟩
    clear C0 C1 hrw
    replace E := E.trans hb
    replace B2 := B2.ext hb
    have hc1 := hb.cell hc
    have hd1 := hb.cell hd
    have FF := B2.frozen
    have C2 := B2.cells
    go_wp2
    refine ret_ci (a := x1) (b := x2) ((B2.set_ 0 (.int .i64 x1)).set_ 1 (.int .i64 x2)) rfl rfl ?_
    exact ⟨rfl, E.then (below_two (g := w.heap.size + 1 + 1) _ _ _) (by omega)⟩
end
section
open Go.RowKit
set_option linter.unusedVariables false
set_option linter.unusedSimpArgs false

theorem mcB_1 {p q g a b c d f : Int} {l : List (Int × Int)} (h : seaB p q g a b c d f = false) : mcB p q g a b c d f l = false := by unfold mcB; rw [h, Bool.false_and]
theorem mcB_2 {p q g a b c d f : Int} {l : List (Int × Int)} (h : ¬ (l.length : Int) = mcW a b) : mcB p q g a b c d f l = false := by unfold mcB; rw [decide_eq_false h, Bool.false_and, Bool.and_false]
theorem mcB_3 {p q g a b c d f : Int} {l : List (Int × Int)} (h : seaB p q g a b c d f = true) (h2 : (l.length : Int) = mcW a b) : mcB p q g a b c d f l = (decide (l.length ≤ 24) && l.all (ciB p q)) := by unfold mcB; rw [h, decide_eq_true h2, Bool.true_and, Bool.true_and]
theorem seaB_in {p q g a b c d f : Int} (h : seaB p q g a b c d f = true) : grpB p q g = true ∧ validCt a b c d f = true := by
  unfold seaB at h
  simp only [Bool.and_eq_true] at h
  exact ⟨h.1, h.2.1⟩
theorem mcW_pos {a b c d f : Int} (h : validCt a b c d f = true) : 1 ≤ mcW a b := by
  rw [validCt_iff] at h
  obtain ⟨_, _, h3⟩ := h
  unfold mcW
  split
  · omega
  · omega
theorem mxF_take {p q b : Int} {l : List (Int × Int)} {j : Nat} (hj : j < l.length) : mxF p q b (l.take (j + 1)) = mxStep p q b (mxF p q b (l.take j)) l[j] := by
  unfold mxF
  rw [List.take_succ_eq_append_getElem hj, List.foldl_append]; rfl
theorem mxF_rg {p q b : Int} (h : GrpB p q) (hq : 2 ≤ q) (h2 : 2 ≤ p) : ∀ l : List (Int × Int), ((0 ≤ (mxF p q b l).1.1 ∧ (mxF p q b l).1.1 < p) ∧ 0 ≤ (mxF p q b l).1.2 ∧ (mxF p q b l).1.2 < p) ∧ 0 ≤ (mxF p q b l).2 ∧ (mxF p q b l).2 < q := by
  suffices H : ∀ (l : List (Int × Int)) (s : (Int × Int) × Int), (((0 ≤ s.1.1 ∧ s.1.1 < p) ∧ 0 ≤ s.1.2 ∧ s.1.2 < p) ∧ 0 ≤ s.2 ∧ s.2 < q) → (((0 ≤ (l.foldl (mxStep p q b) s).1.1 ∧ (l.foldl (mxStep p q b) s).1.1 < p) ∧ 0 ≤ (l.foldl (mxStep p q b) s).1.2 ∧ (l.foldl (mxStep p q b) s).1.2 < p) ∧ 0 ≤ (l.foldl (mxStep p q b) s).2 ∧ (l.foldl (mxStep p q b) s).2 < q) from
    fun l => H l ((1, 1), 1) ⟨⟨⟨by simp, by simp; omega⟩, by simp, by simp; omega⟩, by simp, by simp; omega⟩
  intro l
  induction l with
  | nil => intro s hs; exact hs
  | cons c l ih => intro s hs; exact ih _ ⟨⟨gmul_rgp h _ _, gmul_rgp h _ _⟩, Int.emod_nonneg _ (by omega), Int.emod_lt_of_pos _ (by omega)⟩
theorem gmul_gpw1 {p q x : Int} (hG : GrpB p q) (hq : 2 ≤ q) (hx : elB p q x = true) : gmul p [1, gpw p q x 1] = x := by
  have hr := elB_rg hx
  have h1 : gpw p q x 1 = x := by
    unfold gpw powM
    rw [Int.emod_eq_of_lt (by omega) (by omega)]
    simp only [Int.toNat_one, Nat.pow_one]
    rw [Nat.mod_eq_of_lt (by omega)]
    omega
  rw [h1, gmul_id (by omega) (by omega)]
theorem mx_mcV {p q g a b c d f : Int} {l : List (Int × Int)} (h : mcB p q g a b c d f l = true) : (mxF p q ((if a = 2 then f else 1) + 1) l).1 = mcV p q a f l := by
  unfold mcB at h
  simp only [Bool.and_eq_true, decide_eq_true_eq] at h
  obtain ⟨h1, h2, _, h4⟩ := h
  obtain ⟨hG, hV⟩ := seaB_in h1
  have hi := grpB_in hG
  have hk := valid_kind hV
  have hall : ∀ c ∈ l, elB p q c.1 = true ∧ elB p q c.2 = true := fun c hc => by
    have := List.all_eq_true.1 h4 c hc
    unfold ciB at this
    simpa [Bool.and_eq_true] using this
  unfold mcV
  by_cases hrw : a = 1 ∨ a = 2
  · rw [if_pos hrw]
    have ht : (if a = 2 then f else 1) + 1 = mcT a f + 1 := by
      unfold mcT
      rcases hrw with e | e
      · subst e; rfl
      · subst e; rfl
    rw [ht]
    have h0 : 0 ≤ mcT a f + 1 := by unfold mcT; split <;> omega
    obtain ⟨n, hn⟩ := Int.eq_ofNat_of_zero_le h0
    rw [hn]
    exact mx_eq hG n hall
  · rw [if_neg hrw]
    have hl : l.length = 1 := by unfold mcW at h2; rw [if_neg hrw] at h2; omega
    match l, hl with
    | [c], _ =>
      obtain ⟨e1, e2⟩ := hall c (List.mem_cons_self ..)
      show (gmul p [1, gpw p q c.1 1], gmul p [1, gpw p q c.2 1]) = c
      rw [gmul_gpw1 hi.bd hi.q2 e1, gmul_gpw1 hi.bd hi.q2 e2]
set_option maxRecDepth 100000 in
set_option maxHeartbeats 8000000 in
theorem sMixCipher_any (p q g a b c d f v : Int) (A : Option Addr) (n k0 : Nat) (B : Option Addr) (m e : Nat) (C1 : Option Addr) (k1 f1 : Nat) (C2 : Option Addr) (k2 f2 : Nat) (C3 : Option Addr) (k3 f3 : Nat) (l : List (Int × Int)) (w : World) (ha : RdC w A l) (hl : l.length = n) (hn : n ≤ maxLen) :
    Calls Try.prog 8 #[.agg #[.int .i64 p, .int .i64 q, .int .i64 g], .agg #[.int .i64 a, .int .i64 b, .int .i64 c, .int .i64 d, .int .i64 f], .agg #[.int .i64 v, .slice A n k0, .slice B m e, .slice C1 k1 f1, .slice C2 k2 f2, .slice C3 k3 f3]] w fun en w' => en = .returned (.tuple #[.agg #[.int .i64 (mcR p q g a b c d f l).1, .int .i64 (mcR p q g a b c d f l).2], .bool (mcB p q g a b c d f l)]) ∧ Ext w w' := by
  have HL := Lib.hid hl
  have hn9 : n ≤ 9223372036854775807 := by unfold maxLen at hn; omega
  clear hl
  have E := (((((Ext.refl w).alloc (.cells #[.int .i64 p, .int .i64 q, .int .i64 g] 38)).alloc (.cells #[.int .i64 a, .int .i64 b, .int .i64 c, .int .i64 d, .int .i64 f] 40)).alloc (.cells #[.int .i64 v, .slice A n k0, .slice B m e, .slice C1 k1 f1, .slice C2 k2 f2, .slice C3 k3 f3] 46)).alloc (.cells #[.int .i64 0, .int .i64 0] 35))
  have B0 := ((((Blk.new w 38 #[.int .i64 p, .int .i64 q, .int .i64 g]).alloc (.cells #[.int .i64 a, .int .i64 b, .int .i64 c, .int .i64 d, .int .i64 f] 40)).alloc (.cells #[.int .i64 v, .slice A n k0, .slice B m e, .slice C1 k1 f1, .slice C2 k2 f2, .slice C3 k3 f3] 46)).alloc (.cells #[.int .i64 0, .int .i64 0] 35))
  have B1 := (((Blk.new (w.alloc (.cells #[.int .i64 p, .int .i64 q, .int .i64 g] 38)) 40 #[.int .i64 a, .int .i64 b, .int .i64 c, .int .i64 d, .int .i64 f]).alloc (.cells #[.int .i64 v, .slice A n k0, .slice B m e, .slice C1 k1 f1, .slice C2 k2 f2, .slice C3 k3 f3] 46)).alloc (.cells #[.int .i64 0, .int .i64 0] 35))
  have B2 := ((Blk.new ((w.alloc (.cells #[.int .i64 p, .int .i64 q, .int .i64 g] 38)).alloc (.cells #[.int .i64 a, .int .i64 b, .int .i64 c, .int .i64 d, .int .i64 f] 40)) 46 #[.int .i64 v, .slice A n k0, .slice B m e, .slice C1 k1 f1, .slice C2 k2 f2, .slice C3 k3 f3]).alloc (.cells #[.int .i64 0, .int .i64 0] 35))
  have B3 := (Blk.new (((w.alloc (.cells #[.int .i64 p, .int .i64 q, .int .i64 g] 38)).alloc (.cells #[.int .i64 a, .int .i64 b, .int .i64 c, .int .i64 d, .int .i64 f] 40)).alloc (.cells #[.int .i64 v, .slice A n k0, .slice B m e, .slice C1 k1 f1, .slice C2 k2 f2, .slice C3 k3 f3] 46)) 35 #[.int .i64 0, .int .i64 0])
  simp only [World.size_alloc] at B1 B2 B3
  cases hsea : seaB p q g a b c d f
  · have hbb : mcB p q g a b c d f l = false := mcB_1 hsea
    have HSEA := Lib.hid hsea
    have HB := Lib.hid hbb
    have HR : Hid (mcR p q g a b c d f l = (0, 0)) := by show _ = _; unfold mcR; rw [hbb]; rfl
    clear hbb
    clear hsea
    go_enter Try.func8, Try.ntmps8
    go_wp2_with fail
    generalize ((((w.alloc (.cells #[.int .i64 p, .int .i64 q, .int .i64 g] 38)).alloc (.cells #[.int .i64 a, .int .i64 b, .int .i64 c, .int .i64 d, .int .i64 f] 40)).alloc (.cells #[.int .i64 v, .slice A n k0, .slice B m e, .slice C1 k1 f1, .slice C2 k2 f2, .slice C3 k3 f3] 46)).alloc (.cells #[.int .i64 0, .int .i64 0] 35)) = Wb at *
    have hS : ∀ V, Ext Wb V → V.cell? ⟨w.heap.size, 0, none⟩ = some (.int .i64 p) ∧ V.cell? ⟨w.heap.size, 1, none⟩ = some (.int .i64 q) ∧ V.cell? ⟨w.heap.size, 2, none⟩ = some (.int .i64 g) ∧ V.cell? ⟨w.heap.size + 1, 0, none⟩ = some (.int .i64 a) ∧ V.cell? ⟨w.heap.size + 1, 1, none⟩ = some (.int .i64 b) ∧ V.cell? ⟨w.heap.size + 1, 2, none⟩ = some (.int .i64 c) ∧ V.cell? ⟨w.heap.size + 1, 3, none⟩ = some (.int .i64 d) ∧ V.cell? ⟨w.heap.size + 1, 4, none⟩ = some (.int .i64 f) ∧ V.cell? ⟨w.heap.size + 1 + 1, 1, none⟩ = some (.slice A n k0) := fun V hV => by
      have a0 := (B0.ext hV).cells
      have a1 := (B1.ext hV).cells
      have a2 := (B2.ext hV).cells
      exact ⟨a0 0, a0 1, a0 2, a1 0, a1 1, a1 2, a1 3, a1 4, a2 1⟩
    refine wp_region_held_drew (S := fun V => V.cell? ⟨w.heap.size, 0, none⟩ = some (.int .i64 p) ∧ V.cell? ⟨w.heap.size, 1, none⟩ = some (.int .i64 q) ∧ V.cell? ⟨w.heap.size, 2, none⟩ = some (.int .i64 g) ∧ V.cell? ⟨w.heap.size + 1, 0, none⟩ = some (.int .i64 a) ∧ V.cell? ⟨w.heap.size + 1, 1, none⟩ = some (.int .i64 b) ∧ V.cell? ⟨w.heap.size + 1, 2, none⟩ = some (.int .i64 c) ∧ V.cell? ⟨w.heap.size + 1, 3, none⟩ = some (.int .i64 d) ∧ V.cell? ⟨w.heap.size + 1, 4, none⟩ = some (.int .i64 f) ∧ V.cell? ⟨w.heap.size + 1 + 1, 1, none⟩ = some (.slice A n k0)) (by kernel_rfl) ?_ (fun hHeld => ?_)
    · exact hS _ (by repeat (first | with_reducible assumption | with_reducible exact Ext.refl _ | with_reducible apply Ext.alloc | with_reducible apply Ext.drew | with_reducible apply Ext.drewN))
    refine' wpAnyH_take (i := 0) (v := _) ?hi0 (by kernel_rfl) (by kernel_rfl) (by kernel_rfl) ?hQ0 ?hy0 (by assumption) ?_
    case hi0 => (simp only [List.getElem?_toArray, List.getElem?_cons_zero]; rfl)
    case hy0 => refine Or.inl ⟨by rfl, ?_⟩; intro w hSw; (try dsimp only at hSw); go_simp <;> with_reducible rfl
    case hQ0 => exact fun _ _ _ h => h
    try simp only [Act.put, List.setIfInBounds_toArray, List.set_cons_zero, List.set_cons_succ]
    refine' wpAnyH_take (i := 1) (v := _) ?hi1 (by kernel_rfl) (by kernel_rfl) (by kernel_rfl) ?hQ1 ?hy1 (by assumption) ?_
    case hi1 => (simp only [List.getElem?_toArray, List.getElem?_cons_succ, List.getElem?_cons_zero]; rfl)
    case hy1 => refine Or.inl ⟨by rfl, ?_⟩; intro w hSw; (try dsimp only at hSw); go_simp <;> with_reducible rfl
    case hQ1 => exact fun _ _ _ h => h
    try simp only [Act.put, List.setIfInBounds_toArray, List.set_cons_zero, List.set_cons_succ]
    refine wpAnyH_ready (rs := [2]) (by kernel_rfl) (by simp) ?_
    refine AllReadyH.cons rfl (fun KK hKK => ?_) ?_
    · go_simp
      go_at_call 48
      refine (sSea_any p q g a b c d f _).mono ?_
      rintro ek wk2 ⟨hek, hbk2⟩
      rw [HSEA.out] at hek; subst hek
      have hxk2 := Ext.trans (w := Wb) (by repeat (first | with_reducible assumption | with_reducible exact Ext.refl _ | with_reducible apply Ext.alloc | with_reducible apply Ext.drew | with_reducible apply Ext.drewN)) hbk2
      refine hKK.out _ _ ?_ (fun hHeld => ?_)
      · exact hS _ (by repeat (first | with_reducible assumption | with_reducible exact Ext.refl _ | with_reducible apply Ext.alloc | with_reducible apply Ext.drew | with_reducible apply Ext.drewN))
      clear hKK KK
      try simp only [Act.put, List.setIfInBounds_toArray, List.set_cons_zero, List.set_cons_succ]
      refine' wpAnyH_take (i := 3) (v := _) ?hi3 (by kernel_rfl) (by kernel_rfl) (by kernel_rfl) ?hQ3 ?hy3 (by assumption) ?_
      case hi3 => (simp only [List.getElem?_toArray, List.getElem?_cons_succ, List.getElem?_cons_zero]; rfl)
      case hy3 => refine Or.inl ⟨by rfl, ?_⟩; intro w hSw; (try dsimp only at hSw); go_simp <;> with_reducible rfl
      case hQ3 => exact fun _ _ _ h => h
      try simp only [Act.put, List.setIfInBounds_toArray, List.set_cons_zero, List.set_cons_succ]
      refine' wpAnyH_take (i := 4) (v := _) ?hi4 (by kernel_rfl) (by kernel_rfl) (by kernel_rfl) ?hQ4 ?hy4 (by assumption) ?_
      case hi4 => (simp only [List.getElem?_toArray, List.getElem?_cons_succ, List.getElem?_cons_zero]; rfl)
      case hy4 => refine Or.inl ⟨by rfl, ?_⟩; intro w hSw; (try dsimp only at hSw); go_simp <;> with_reducible rfl
      case hQ4 => exact fun _ _ _ h => h
      try simp only [Act.put, List.setIfInBounds_toArray, List.set_cons_zero, List.set_cons_succ]
      refine' wpAnyH_take (i := 5) (v := undef) ?hi5 (by kernel_rfl) (by kernel_rfl) (by kernel_rfl) ?hQ5 ?hy5 (by assumption) ?_
      case hi5 => (simp only [List.getElem?_toArray, List.getElem?_cons_succ, List.getElem?_cons_zero]; rfl)
      case hQ5 => exact fun _ _ _ h => h
      case hy5 => exact Or.inr ⟨by rfl, rfl⟩
      try simp only [Act.put, List.setIfInBounds_toArray, List.set_cons_zero, List.set_cons_succ]
      refine' wpAnyH_take (i := 6) (v := undef) ?hi6 (by kernel_rfl) (by kernel_rfl) (by kernel_rfl) ?hQ6 ?hy6 (by assumption) ?_
      case hi6 => (simp only [List.getElem?_toArray, List.getElem?_cons_succ, List.getElem?_cons_zero]; rfl)
      case hQ6 => exact fun _ _ _ h => h
      case hy6 => exact Or.inr ⟨by rfl, rfl⟩
      try simp only [Act.put, List.setIfInBounds_toArray, List.set_cons_zero, List.set_cons_succ]
      refine' wpAnyH_take (i := 7) (v := undef) ?hi7 (by kernel_rfl) (by kernel_rfl) (by kernel_rfl) ?hQ7 ?hy7 (by assumption) ?_
      case hi7 => (simp only [List.getElem?_toArray, List.getElem?_cons_succ, List.getElem?_cons_zero]; rfl)
      case hQ7 => exact fun _ _ _ h => h
      case hy7 => exact Or.inr ⟨by rfl, rfl⟩
      try simp only [Act.put, List.setIfInBounds_toArray, List.set_cons_zero, List.set_cons_succ]
      refine' wpAnyH_take (i := 8) (v := undef) ?hi8 (by kernel_rfl) (by kernel_rfl) (by kernel_rfl) ?hQ8 ?hy8 (by assumption) ?_
      case hi8 => (simp only [List.getElem?_toArray, List.getElem?_cons_succ, List.getElem?_cons_zero]; rfl)
      case hQ8 => exact fun _ _ _ h => h
      case hy8 => exact Or.inr ⟨by rfl, rfl⟩
      try simp only [Act.put, List.setIfInBounds_toArray, List.set_cons_zero, List.set_cons_succ]
      refine' wpAnyH_take (i := 9) (v := undef) ?hi9 (by kernel_rfl) (by kernel_rfl) (by kernel_rfl) ?hQ9 ?hy9 (by assumption) ?_
      case hi9 => (simp only [List.getElem?_toArray, List.getElem?_cons_succ, List.getElem?_cons_zero]; rfl)
      case hQ9 => exact fun _ _ _ h => h
      case hy9 => exact Or.inr ⟨by rfl, rfl⟩
      try simp only [Act.put, List.setIfInBounds_toArray, List.set_cons_zero, List.set_cons_succ]
      refine' wpAnyH_take (i := 10) (v := undef) ?hi10 (by kernel_rfl) (by kernel_rfl) (by kernel_rfl) ?hQ10 ?hy10 (by assumption) ?_
      case hi10 => (simp only [List.getElem?_toArray, List.getElem?_cons_succ, List.getElem?_cons_zero]; rfl)
      case hQ10 => exact fun _ _ _ h => h
      case hy10 => exact Or.inr ⟨by rfl, rfl⟩
      try simp only [Act.put, List.setIfInBounds_toArray, List.set_cons_zero, List.set_cons_succ]
      refine' wpAnyH_take (i := 11) (v := _) ?hi11 (by kernel_rfl) (by kernel_rfl) (by kernel_rfl) ?hQ11 ?hy11 (by assumption) ?_
      case hi11 => (simp only [List.getElem?_toArray, List.getElem?_cons_succ, List.getElem?_cons_zero]; rfl)
      case hy11 => refine Or.inl ⟨by rfl, ?_⟩; intro w hSw; (try dsimp only at hSw); go_simp <;> with_reducible rfl
      case hQ11 => exact fun _ _ _ h => h
      try simp only [Act.put, List.setIfInBounds_toArray, List.set_cons_zero, List.set_cons_succ]
      refine' wpAnyH_take (i := 12) (v := _) ?hi12 (by kernel_rfl) (by kernel_rfl) (by kernel_rfl) ?hQ12 ?hy12 (by assumption) ?_
      case hi12 => (simp only [List.getElem?_toArray, List.getElem?_cons_succ, List.getElem?_cons_zero]; rfl)
      case hy12 => refine Or.inl ⟨by rfl, ?_⟩; intro w hSw; (try dsimp only at hSw); go_simp <;> with_reducible rfl
      case hQ12 => exact fun _ _ _ h => h
      try simp only [Act.put, List.setIfInBounds_toArray, List.set_cons_zero, List.set_cons_succ]
      refine' wpAnyH_take (i := 13) (v := undef) ?hi13 (by kernel_rfl) (by kernel_rfl) (by kernel_rfl) ?hQ13 ?hy13 (by assumption) ?_
      case hi13 => (simp only [List.getElem?_toArray, List.getElem?_cons_succ, List.getElem?_cons_zero]; rfl)
      case hQ13 => exact fun _ _ _ h => h
      case hy13 => exact Or.inr ⟨by rfl, rfl⟩
      try simp only [Act.put, List.setIfInBounds_toArray, List.set_cons_zero, List.set_cons_succ]
      refine' wpAnyH_take (i := 14) (v := undef) ?hi14 (by kernel_rfl) (by kernel_rfl) (by kernel_rfl) ?hQ14 ?hy14 (by assumption) ?_
      case hi14 => (simp only [List.getElem?_toArray, List.getElem?_cons_succ, List.getElem?_cons_zero]; rfl)
      case hQ14 => exact fun _ _ _ h => h
      case hy14 => exact Or.inr ⟨by rfl, rfl⟩
      try simp only [Act.put, List.setIfInBounds_toArray, List.set_cons_zero, List.set_cons_succ]
      refine' wpAnyH_take (i := 15) (v := undef) ?hi15 (by kernel_rfl) (by kernel_rfl) (by kernel_rfl) ?hQ15 ?hy15 (by assumption) ?_
      case hi15 => (simp only [List.getElem?_toArray, List.getElem?_cons_succ, List.getElem?_cons_zero]; rfl)
      case hQ15 => exact fun _ _ _ h => h
      case hy15 => exact Or.inr ⟨by rfl, rfl⟩
      try simp only [Act.put, List.setIfInBounds_toArray, List.set_cons_zero, List.set_cons_succ]
      refine' wpAnyH_take (i := 16) (v := undef) ?hi16 (by kernel_rfl) (by kernel_rfl) (by kernel_rfl) ?hQ16 ?hy16 (by assumption) ?_
      case hi16 => (simp only [List.getElem?_toArray, List.getElem?_cons_succ, List.getElem?_cons_zero]; rfl)
      case hQ16 => exact fun _ _ _ h => h
      case hy16 => exact Or.inr ⟨by rfl, rfl⟩
      try simp only [Act.put, List.setIfInBounds_toArray, List.set_cons_zero, List.set_cons_succ]
      refine' wpAnyH_take (i := 17) (v := undef) ?hi17 (by kernel_rfl) (by kernel_rfl) (by kernel_rfl) ?hQ17 ?hy17 (by assumption) ?_
      case hi17 => (simp only [List.getElem?_toArray, List.getElem?_cons_succ, List.getElem?_cons_zero]; rfl)
      case hQ17 => exact fun _ _ _ h => h
      case hy17 => exact Or.inr ⟨by rfl, rfl⟩
      try simp only [Act.put, List.setIfInBounds_toArray, List.set_cons_zero, List.set_cons_succ]
      refine' wpAnyH_take (i := 18) (v := _) ?hi18 (by kernel_rfl) (by kernel_rfl) (by kernel_rfl) ?hQ18 ?hy18 (by assumption) ?_
      case hi18 => (simp only [List.getElem?_toArray, List.getElem?_cons_succ, List.getElem?_cons_zero]; rfl)
      case hy18 => refine Or.inl ⟨by rfl, ?_⟩; intro w hSw; (try dsimp only at hSw); go_simp <;> with_reducible rfl
      case hQ18 => exact fun _ _ _ h => h
      try simp only [Act.put, List.setIfInBounds_toArray, List.set_cons_zero, List.set_cons_succ]
      refine wpAnyH_done (by kernel_rfl) ?_ _
      have BR2 := B3.ext hxk2
      have FF := BR2.frozen
      have CC := BR2.cells
      go_wp2
      refine ret_ciB (a := 0) (b := 0) (k := false) ((BR2.set_ 0 (.int .i64 0)).set_ 1 (.int .i64 0)) rfl rfl rfl ?_
      exact ⟨by rw [HR.out, HB.out], (E.trans hxk2).then (below_two (g := w.heap.size + 1 + 1 + 1) _ _ _) (by omega)⟩
    exact AllReadyH.nil
  obtain ⟨hgg, hvv⟩ := seaB_in hsea
  have HSEA := Lib.hid hsea
  have HGB := Lib.hid (grpB_in hgg).bd
  obtain ⟨wd, hw⟩ : ∃ wd, (if a = 1 ∨ a = 2 then b else 1) = wd := ⟨_, rfl⟩
  have HW := Lib.hid hw
  have hwd : mcW a b = wd := hw
  by_cases hne : (n : Int) = wd
  case neg =>
    have hbb : mcB p q g a b c d f l = false := mcB_2 (by rw [HL.out, hwd]; exact hne)
    have hz : ((n : Int) != wd) = true := by simp [hne]
    have HB := Lib.hid hbb
    have HR : Hid (mcR p q g a b c d f l = (0, 0)) := by show _ = _; unfold mcR; rw [hbb]; rfl
    clear hbb
    clear hne hw hwd hgg hvv hsea
    go_enter Try.func8, Try.ntmps8
    go_wp2_with fail
    generalize ((((w.alloc (.cells #[.int .i64 p, .int .i64 q, .int .i64 g] 38)).alloc (.cells #[.int .i64 a, .int .i64 b, .int .i64 c, .int .i64 d, .int .i64 f] 40)).alloc (.cells #[.int .i64 v, .slice A n k0, .slice B m e, .slice C1 k1 f1, .slice C2 k2 f2, .slice C3 k3 f3] 46)).alloc (.cells #[.int .i64 0, .int .i64 0] 35)) = Wb at *
    have hS : ∀ V, Ext Wb V → V.cell? ⟨w.heap.size, 0, none⟩ = some (.int .i64 p) ∧ V.cell? ⟨w.heap.size, 1, none⟩ = some (.int .i64 q) ∧ V.cell? ⟨w.heap.size, 2, none⟩ = some (.int .i64 g) ∧ V.cell? ⟨w.heap.size + 1, 0, none⟩ = some (.int .i64 a) ∧ V.cell? ⟨w.heap.size + 1, 1, none⟩ = some (.int .i64 b) ∧ V.cell? ⟨w.heap.size + 1, 2, none⟩ = some (.int .i64 c) ∧ V.cell? ⟨w.heap.size + 1, 3, none⟩ = some (.int .i64 d) ∧ V.cell? ⟨w.heap.size + 1, 4, none⟩ = some (.int .i64 f) ∧ V.cell? ⟨w.heap.size + 1 + 1, 1, none⟩ = some (.slice A n k0) := fun V hV => by
      have a0 := (B0.ext hV).cells
      have a1 := (B1.ext hV).cells
      have a2 := (B2.ext hV).cells
      exact ⟨a0 0, a0 1, a0 2, a1 0, a1 1, a1 2, a1 3, a1 4, a2 1⟩
    refine wp_region_held_drew (S := fun V => V.cell? ⟨w.heap.size, 0, none⟩ = some (.int .i64 p) ∧ V.cell? ⟨w.heap.size, 1, none⟩ = some (.int .i64 q) ∧ V.cell? ⟨w.heap.size, 2, none⟩ = some (.int .i64 g) ∧ V.cell? ⟨w.heap.size + 1, 0, none⟩ = some (.int .i64 a) ∧ V.cell? ⟨w.heap.size + 1, 1, none⟩ = some (.int .i64 b) ∧ V.cell? ⟨w.heap.size + 1, 2, none⟩ = some (.int .i64 c) ∧ V.cell? ⟨w.heap.size + 1, 3, none⟩ = some (.int .i64 d) ∧ V.cell? ⟨w.heap.size + 1, 4, none⟩ = some (.int .i64 f) ∧ V.cell? ⟨w.heap.size + 1 + 1, 1, none⟩ = some (.slice A n k0)) (by kernel_rfl) ?_ (fun hHeld => ?_)
    · exact hS _ (by repeat (first | with_reducible assumption | with_reducible exact Ext.refl _ | with_reducible apply Ext.alloc | with_reducible apply Ext.drew | with_reducible apply Ext.drewN))
    refine' wpAnyH_take (i := 0) (v := _) ?hi0 (by kernel_rfl) (by kernel_rfl) (by kernel_rfl) ?hQ0 ?hy0 (by assumption) ?_
    case hi0 => (simp only [List.getElem?_toArray, List.getElem?_cons_zero]; rfl)
    case hy0 => refine Or.inl ⟨by rfl, ?_⟩; intro w hSw; (try dsimp only at hSw); go_simp <;> with_reducible rfl
    case hQ0 => exact fun _ _ _ h => h
    try simp only [Act.put, List.setIfInBounds_toArray, List.set_cons_zero, List.set_cons_succ]
    refine' wpAnyH_take (i := 1) (v := _) ?hi1 (by kernel_rfl) (by kernel_rfl) (by kernel_rfl) ?hQ1 ?hy1 (by assumption) ?_
    case hi1 => (simp only [List.getElem?_toArray, List.getElem?_cons_succ, List.getElem?_cons_zero]; rfl)
    case hy1 => refine Or.inl ⟨by rfl, ?_⟩; intro w hSw; (try dsimp only at hSw); go_simp <;> with_reducible rfl
    case hQ1 => exact fun _ _ _ h => h
    try simp only [Act.put, List.setIfInBounds_toArray, List.set_cons_zero, List.set_cons_succ]
    refine wpAnyH_ready (rs := [2]) (by kernel_rfl) (by simp) ?_
    refine AllReadyH.cons rfl (fun KK hKK => ?_) ?_
    · go_simp
      go_at_call 48
      refine (sSea_any p q g a b c d f _).mono ?_
      rintro ek wk2 ⟨hek, hbk2⟩
      rw [HSEA.out] at hek; subst hek
      have hxk2 := Ext.trans (w := Wb) (by repeat (first | with_reducible assumption | with_reducible exact Ext.refl _ | with_reducible apply Ext.alloc | with_reducible apply Ext.drew | with_reducible apply Ext.drewN)) hbk2
      refine hKK.out _ _ ?_ (fun hHeld => ?_)
      · exact hS _ (by repeat (first | with_reducible assumption | with_reducible exact Ext.refl _ | with_reducible apply Ext.alloc | with_reducible apply Ext.drew | with_reducible apply Ext.drewN))
      clear hKK KK
      try simp only [Act.put, List.setIfInBounds_toArray, List.set_cons_zero, List.set_cons_succ]
      refine' wpAnyH_take (i := 3) (v := _) ?hi3 (by kernel_rfl) (by kernel_rfl) (by kernel_rfl) ?hQ3 ?hy3 (by assumption) ?_
      case hi3 => (simp only [List.getElem?_toArray, List.getElem?_cons_succ, List.getElem?_cons_zero]; rfl)
      case hy3 => refine Or.inl ⟨by rfl, ?_⟩; intro w hSw; (try dsimp only at hSw); go_simp <;> with_reducible rfl
      case hQ3 => exact fun _ _ _ h => h
      try simp only [Act.put, List.setIfInBounds_toArray, List.set_cons_zero, List.set_cons_succ]
      refine' wpAnyH_take (i := 4) (v := _) ?hi4 (by kernel_rfl) (by kernel_rfl) (by kernel_rfl) ?hQ4 ?hy4 (by assumption) ?_
      case hi4 => (simp only [List.getElem?_toArray, List.getElem?_cons_succ, List.getElem?_cons_zero]; rfl)
      case hy4 => refine Or.inl ⟨by rfl, ?_⟩; intro w hSw; (try dsimp only at hSw); go_simp <;> with_reducible rfl
      case hQ4 => exact fun _ _ _ h => h
      try simp only [Act.put, List.setIfInBounds_toArray, List.set_cons_zero, List.set_cons_succ]
      refine' wpAnyH_take (i := 5) (v := _) ?hi5 (by kernel_rfl) (by kernel_rfl) (by kernel_rfl) ?hQ5 ?hy5 (by assumption) ?_
      case hi5 => (simp only [List.getElem?_toArray, List.getElem?_cons_succ, List.getElem?_cons_zero]; rfl)
      case hy5 => refine Or.inl ⟨by rfl, ?_⟩; intro w hSw; (try dsimp only at hSw); go_simp <;> with_reducible rfl
      case hQ5 => exact fun _ _ _ h => h
      try simp only [Act.put, List.setIfInBounds_toArray, List.set_cons_zero, List.set_cons_succ]
      refine' wpAnyH_take (i := 6) (v := _) ?hi6 (by kernel_rfl) (by kernel_rfl) (by kernel_rfl) ?hQ6 ?hy6 (by assumption) ?_
      case hi6 => (simp only [List.getElem?_toArray, List.getElem?_cons_succ, List.getElem?_cons_zero]; rfl)
      case hy6 => refine Or.inl ⟨by rfl, ?_⟩; intro w hSw; (try dsimp only at hSw); go_simp <;> with_reducible rfl
      case hQ6 => exact fun _ _ _ h => h
      try simp only [Act.put, List.setIfInBounds_toArray, List.set_cons_zero, List.set_cons_succ]
      refine' wpAnyH_take (i := 7) (v := _) ?hi7 (by kernel_rfl) (by kernel_rfl) (by kernel_rfl) ?hQ7 ?hy7 (by assumption) ?_
      case hi7 => (simp only [List.getElem?_toArray, List.getElem?_cons_succ, List.getElem?_cons_zero]; rfl)
      case hy7 => refine Or.inl ⟨by rfl, ?_⟩; intro w hSw; (try dsimp only at hSw); go_simp <;> with_reducible rfl
      case hQ7 => exact fun _ _ _ h => h
      try simp only [Act.put, List.setIfInBounds_toArray, List.set_cons_zero, List.set_cons_succ]
      refine' wpAnyH_take (i := 8) (v := _) ?hi8 (by kernel_rfl) (by kernel_rfl) (by kernel_rfl) ?hQ8 ?hy8 (by assumption) ?_
      case hi8 => (simp only [List.getElem?_toArray, List.getElem?_cons_succ, List.getElem?_cons_zero]; rfl)
      case hy8 => refine Or.inl ⟨by rfl, ?_⟩; intro w hSw; (try dsimp only at hSw); go_simp <;> with_reducible rfl
      case hQ8 => exact fun _ _ _ h => h
      try simp only [Act.put, List.setIfInBounds_toArray, List.set_cons_zero, List.set_cons_succ]
      refine wpAnyH_ready (rs := [9]) (by kernel_rfl) (by simp) ?_
      refine AllReadyH.cons rfl (fun KK hKK => ?_) ?_
      · go_simp
        go_at_call 49
        refine (bWidth_any a b c d f _).mono ?_
        rintro ek wk9 ⟨hek, hbk9⟩
        rw [HW.out] at hek; subst hek
        have hxk9 := Ext.trans (w := Wb) (by repeat (first | with_reducible assumption | with_reducible exact Ext.refl _ | with_reducible apply Ext.alloc | with_reducible apply Ext.drew | with_reducible apply Ext.drewN)) hbk9
        refine hKK.out _ _ ?_ (fun hHeld => ?_)
        · exact hS _ (by repeat (first | with_reducible assumption | with_reducible exact Ext.refl _ | with_reducible apply Ext.alloc | with_reducible apply Ext.drew | with_reducible apply Ext.drewN))
        clear hKK KK
        try simp only [Act.put, List.setIfInBounds_toArray, List.set_cons_zero, List.set_cons_succ]
        refine' wpAnyH_take (i := 10) (v := _) ?hi10 (by kernel_rfl) (by kernel_rfl) (by kernel_rfl) ?hQ10 ?hy10 (by assumption) ?_
        case hi10 => (simp only [List.getElem?_toArray, List.getElem?_cons_succ, List.getElem?_cons_zero]; rfl)
        case hy10 => refine Or.inl ⟨by rfl, ?_⟩; intro w hSw; (try dsimp only at hSw); go_simp <;> with_reducible rfl
        case hQ10 => exact fun _ _ _ h => h
        try simp only [Act.put, List.setIfInBounds_toArray, List.set_cons_zero, List.set_cons_succ]
        refine' wpAnyH_take (i := 11) (v := _) ?hi11 (by kernel_rfl) (by kernel_rfl) (by kernel_rfl) ?hQ11 ?hy11 (by assumption) ?_
        case hi11 => (simp only [List.getElem?_toArray, List.getElem?_cons_succ, List.getElem?_cons_zero]; rfl)
        case hy11 => refine Or.inl ⟨by rfl, ?_⟩; intro w hSw; (try dsimp only at hSw); go_simp <;> with_reducible rfl
        case hQ11 => exact fun _ _ _ h => h
        try simp only [Act.put, List.setIfInBounds_toArray, List.set_cons_zero, List.set_cons_succ]
        refine' wpAnyH_take (i := 12) (v := _) ?hi12 (by kernel_rfl) (by kernel_rfl) (by kernel_rfl) ?hQ12 ?hy12 (by assumption) ?_
        case hi12 => (simp only [List.getElem?_toArray, List.getElem?_cons_succ, List.getElem?_cons_zero]; rfl)
        case hy12 => refine Or.inl ⟨by rfl, ?_⟩; intro w hSw; (try dsimp only at hSw); go_simp <;> with_reducible rfl
        case hQ12 => exact fun _ _ _ h => h
        try simp only [Act.put, List.setIfInBounds_toArray, List.set_cons_zero, List.set_cons_succ]
        refine' wpAnyH_take (i := 13) (v := undef) ?hi13 (by kernel_rfl) (by kernel_rfl) (by kernel_rfl) ?hQ13 ?hy13 (by assumption) ?_
        case hi13 => (simp only [List.getElem?_toArray, List.getElem?_cons_succ, List.getElem?_cons_zero]; rfl)
        case hQ13 => exact fun _ _ _ h => h
        case hy13 => exact Or.inr ⟨by rfl, rfl⟩
        try simp only [Act.put, List.setIfInBounds_toArray, List.set_cons_zero, List.set_cons_succ]
        refine' wpAnyH_take (i := 14) (v := undef) ?hi14 (by kernel_rfl) (by kernel_rfl) (by kernel_rfl) ?hQ14 ?hy14 (by assumption) ?_
        case hi14 => (simp only [List.getElem?_toArray, List.getElem?_cons_succ, List.getElem?_cons_zero]; rfl)
        case hQ14 => exact fun _ _ _ h => h
        case hy14 => exact Or.inr ⟨by rfl, rfl⟩
        try simp only [Act.put, List.setIfInBounds_toArray, List.set_cons_zero, List.set_cons_succ]
        refine' wpAnyH_take (i := 15) (v := undef) ?hi15 (by kernel_rfl) (by kernel_rfl) (by kernel_rfl) ?hQ15 ?hy15 (by assumption) ?_
        case hi15 => (simp only [List.getElem?_toArray, List.getElem?_cons_succ, List.getElem?_cons_zero]; rfl)
        case hQ15 => exact fun _ _ _ h => h
        case hy15 => exact Or.inr ⟨by rfl, rfl⟩
        try simp only [Act.put, List.setIfInBounds_toArray, List.set_cons_zero, List.set_cons_succ]
        refine' wpAnyH_take (i := 16) (v := undef) ?hi16 (by kernel_rfl) (by kernel_rfl) (by kernel_rfl) ?hQ16 ?hy16 (by assumption) ?_
        case hi16 => (simp only [List.getElem?_toArray, List.getElem?_cons_succ, List.getElem?_cons_zero]; rfl)
        case hQ16 => exact fun _ _ _ h => h
        case hy16 => exact Or.inr ⟨by rfl, rfl⟩
        try simp only [Act.put, List.setIfInBounds_toArray, List.set_cons_zero, List.set_cons_succ]
        refine' wpAnyH_take (i := 17) (v := undef) ?hi17 (by kernel_rfl) (by kernel_rfl) (by kernel_rfl) ?hQ17 ?hy17 (by assumption) ?_
        case hi17 => (simp only [List.getElem?_toArray, List.getElem?_cons_succ, List.getElem?_cons_zero]; rfl)
        case hQ17 => exact fun _ _ _ h => h
        case hy17 => exact Or.inr ⟨by rfl, rfl⟩
        try simp only [Act.put, List.setIfInBounds_toArray, List.set_cons_zero, List.set_cons_succ]
        refine' wpAnyH_take (i := 18) (v := _) ?hi18 (by kernel_rfl) (by kernel_rfl) (by kernel_rfl) ?hQ18 ?hy18 (by assumption) ?_
        case hi18 => (simp only [List.getElem?_toArray, List.getElem?_cons_succ, List.getElem?_cons_zero]; rfl)
        case hy18 => refine Or.inl ⟨by rfl, ?_⟩; intro w hSw; (try dsimp only at hSw); go_simp <;> with_reducible rfl
        case hQ18 => exact fun _ _ _ h => h
        try simp only [Act.put, List.setIfInBounds_toArray, List.set_cons_zero, List.set_cons_succ]
        refine wpAnyH_done (by kernel_rfl) ?_ _
        have BR2 := B3.ext hxk9
        have FF := BR2.frozen
        have CC := BR2.cells
        go_wp2
        refine ret_ciB (a := 0) (b := 0) (k := false) ((BR2.set_ 0 (.int .i64 0)).set_ 1 (.int .i64 0)) rfl rfl rfl ?_
        exact ⟨by rw [HR.out, HB.out], (E.trans hxk9).then (below_two (g := w.heap.size + 1 + 1 + 1) _ _ _) (by omega)⟩
      exact AllReadyH.nil
    exact AllReadyH.nil
  have hz : ((n : Int) != wd) = false := by simp [hne]
  cases hci : (decide (n ≤ 24) && l.all (ciB p q))
  · have hbb : mcB p q g a b c d f l = false := by rw [mcB_3 hsea (by rw [HL.out, hwd]; exact hne), HL.out, hci]
    have HCI := Lib.hid hci
    have HB := Lib.hid hbb
    have HR : Hid (mcR p q g a b c d f l = (0, 0)) := by show _ = _; unfold mcR; rw [hbb]; rfl
    clear hbb
    clear hne hw hwd hgg hvv hsea hci
    go_enter Try.func8, Try.ntmps8
    go_wp2_with fail
    generalize ((((w.alloc (.cells #[.int .i64 p, .int .i64 q, .int .i64 g] 38)).alloc (.cells #[.int .i64 a, .int .i64 b, .int .i64 c, .int .i64 d, .int .i64 f] 40)).alloc (.cells #[.int .i64 v, .slice A n k0, .slice B m e, .slice C1 k1 f1, .slice C2 k2 f2, .slice C3 k3 f3] 46)).alloc (.cells #[.int .i64 0, .int .i64 0] 35)) = Wb at *
    have hS : ∀ V, Ext Wb V → V.cell? ⟨w.heap.size, 0, none⟩ = some (.int .i64 p) ∧ V.cell? ⟨w.heap.size, 1, none⟩ = some (.int .i64 q) ∧ V.cell? ⟨w.heap.size, 2, none⟩ = some (.int .i64 g) ∧ V.cell? ⟨w.heap.size + 1, 0, none⟩ = some (.int .i64 a) ∧ V.cell? ⟨w.heap.size + 1, 1, none⟩ = some (.int .i64 b) ∧ V.cell? ⟨w.heap.size + 1, 2, none⟩ = some (.int .i64 c) ∧ V.cell? ⟨w.heap.size + 1, 3, none⟩ = some (.int .i64 d) ∧ V.cell? ⟨w.heap.size + 1, 4, none⟩ = some (.int .i64 f) ∧ V.cell? ⟨w.heap.size + 1 + 1, 1, none⟩ = some (.slice A n k0) := fun V hV => by
      have a0 := (B0.ext hV).cells
      have a1 := (B1.ext hV).cells
      have a2 := (B2.ext hV).cells
      exact ⟨a0 0, a0 1, a0 2, a1 0, a1 1, a1 2, a1 3, a1 4, a2 1⟩
    refine wp_region_held_drew (S := fun V => V.cell? ⟨w.heap.size, 0, none⟩ = some (.int .i64 p) ∧ V.cell? ⟨w.heap.size, 1, none⟩ = some (.int .i64 q) ∧ V.cell? ⟨w.heap.size, 2, none⟩ = some (.int .i64 g) ∧ V.cell? ⟨w.heap.size + 1, 0, none⟩ = some (.int .i64 a) ∧ V.cell? ⟨w.heap.size + 1, 1, none⟩ = some (.int .i64 b) ∧ V.cell? ⟨w.heap.size + 1, 2, none⟩ = some (.int .i64 c) ∧ V.cell? ⟨w.heap.size + 1, 3, none⟩ = some (.int .i64 d) ∧ V.cell? ⟨w.heap.size + 1, 4, none⟩ = some (.int .i64 f) ∧ V.cell? ⟨w.heap.size + 1 + 1, 1, none⟩ = some (.slice A n k0)) (by kernel_rfl) ?_ (fun hHeld => ?_)
    · exact hS _ (by repeat (first | with_reducible assumption | with_reducible exact Ext.refl _ | with_reducible apply Ext.alloc | with_reducible apply Ext.drew | with_reducible apply Ext.drewN))
    refine' wpAnyH_take (i := 0) (v := _) ?hi0 (by kernel_rfl) (by kernel_rfl) (by kernel_rfl) ?hQ0 ?hy0 (by assumption) ?_
    case hi0 => (simp only [List.getElem?_toArray, List.getElem?_cons_zero]; rfl)
    case hy0 => refine Or.inl ⟨by rfl, ?_⟩; intro w hSw; (try dsimp only at hSw); go_simp <;> with_reducible rfl
    case hQ0 => exact fun _ _ _ h => h
    try simp only [Act.put, List.setIfInBounds_toArray, List.set_cons_zero, List.set_cons_succ]
    refine' wpAnyH_take (i := 1) (v := _) ?hi1 (by kernel_rfl) (by kernel_rfl) (by kernel_rfl) ?hQ1 ?hy1 (by assumption) ?_
    case hi1 => (simp only [List.getElem?_toArray, List.getElem?_cons_succ, List.getElem?_cons_zero]; rfl)
    case hy1 => refine Or.inl ⟨by rfl, ?_⟩; intro w hSw; (try dsimp only at hSw); go_simp <;> with_reducible rfl
    case hQ1 => exact fun _ _ _ h => h
    try simp only [Act.put, List.setIfInBounds_toArray, List.set_cons_zero, List.set_cons_succ]
    refine wpAnyH_ready (rs := [2]) (by kernel_rfl) (by simp) ?_
    refine AllReadyH.cons rfl (fun KK hKK => ?_) ?_
    · go_simp
      go_at_call 48
      refine (sSea_any p q g a b c d f _).mono ?_
      rintro ek wk2 ⟨hek, hbk2⟩
      rw [HSEA.out] at hek; subst hek
      have hxk2 := Ext.trans (w := Wb) (by repeat (first | with_reducible assumption | with_reducible exact Ext.refl _ | with_reducible apply Ext.alloc | with_reducible apply Ext.drew | with_reducible apply Ext.drewN)) hbk2
      refine hKK.out _ _ ?_ (fun hHeld => ?_)
      · exact hS _ (by repeat (first | with_reducible assumption | with_reducible exact Ext.refl _ | with_reducible apply Ext.alloc | with_reducible apply Ext.drew | with_reducible apply Ext.drewN))
      clear hKK KK
      try simp only [Act.put, List.setIfInBounds_toArray, List.set_cons_zero, List.set_cons_succ]
      refine' wpAnyH_take (i := 3) (v := _) ?hi3 (by kernel_rfl) (by kernel_rfl) (by kernel_rfl) ?hQ3 ?hy3 (by assumption) ?_
      case hi3 => (simp only [List.getElem?_toArray, List.getElem?_cons_succ, List.getElem?_cons_zero]; rfl)
      case hy3 => refine Or.inl ⟨by rfl, ?_⟩; intro w hSw; (try dsimp only at hSw); go_simp <;> with_reducible rfl
      case hQ3 => exact fun _ _ _ h => h
      try simp only [Act.put, List.setIfInBounds_toArray, List.set_cons_zero, List.set_cons_succ]
      refine' wpAnyH_take (i := 4) (v := _) ?hi4 (by kernel_rfl) (by kernel_rfl) (by kernel_rfl) ?hQ4 ?hy4 (by assumption) ?_
      case hi4 => (simp only [List.getElem?_toArray, List.getElem?_cons_succ, List.getElem?_cons_zero]; rfl)
      case hy4 => refine Or.inl ⟨by rfl, ?_⟩; intro w hSw; (try dsimp only at hSw); go_simp <;> with_reducible rfl
      case hQ4 => exact fun _ _ _ h => h
      try simp only [Act.put, List.setIfInBounds_toArray, List.set_cons_zero, List.set_cons_succ]
      refine' wpAnyH_take (i := 5) (v := _) ?hi5 (by kernel_rfl) (by kernel_rfl) (by kernel_rfl) ?hQ5 ?hy5 (by assumption) ?_
      case hi5 => (simp only [List.getElem?_toArray, List.getElem?_cons_succ, List.getElem?_cons_zero]; rfl)
      case hy5 => refine Or.inl ⟨by rfl, ?_⟩; intro w hSw; (try dsimp only at hSw); go_simp <;> with_reducible rfl
      case hQ5 => exact fun _ _ _ h => h
      try simp only [Act.put, List.setIfInBounds_toArray, List.set_cons_zero, List.set_cons_succ]
      refine' wpAnyH_take (i := 6) (v := _) ?hi6 (by kernel_rfl) (by kernel_rfl) (by kernel_rfl) ?hQ6 ?hy6 (by assumption) ?_
      case hi6 => (simp only [List.getElem?_toArray, List.getElem?_cons_succ, List.getElem?_cons_zero]; rfl)
      case hy6 => refine Or.inl ⟨by rfl, ?_⟩; intro w hSw; (try dsimp only at hSw); go_simp <;> with_reducible rfl
      case hQ6 => exact fun _ _ _ h => h
      try simp only [Act.put, List.setIfInBounds_toArray, List.set_cons_zero, List.set_cons_succ]
      refine' wpAnyH_take (i := 7) (v := _) ?hi7 (by kernel_rfl) (by kernel_rfl) (by kernel_rfl) ?hQ7 ?hy7 (by assumption) ?_
      case hi7 => (simp only [List.getElem?_toArray, List.getElem?_cons_succ, List.getElem?_cons_zero]; rfl)
      case hy7 => refine Or.inl ⟨by rfl, ?_⟩; intro w hSw; (try dsimp only at hSw); go_simp <;> with_reducible rfl
      case hQ7 => exact fun _ _ _ h => h
      try simp only [Act.put, List.setIfInBounds_toArray, List.set_cons_zero, List.set_cons_succ]
      refine' wpAnyH_take (i := 8) (v := _) ?hi8 (by kernel_rfl) (by kernel_rfl) (by kernel_rfl) ?hQ8 ?hy8 (by assumption) ?_
      case hi8 => (simp only [List.getElem?_toArray, List.getElem?_cons_succ, List.getElem?_cons_zero]; rfl)
      case hy8 => refine Or.inl ⟨by rfl, ?_⟩; intro w hSw; (try dsimp only at hSw); go_simp <;> with_reducible rfl
      case hQ8 => exact fun _ _ _ h => h
      try simp only [Act.put, List.setIfInBounds_toArray, List.set_cons_zero, List.set_cons_succ]
      refine wpAnyH_ready (rs := [9]) (by kernel_rfl) (by simp) ?_
      refine AllReadyH.cons rfl (fun KK hKK => ?_) ?_
      · go_simp
        go_at_call 49
        refine (bWidth_any a b c d f _).mono ?_
        rintro ek wk9 ⟨hek, hbk9⟩
        rw [HW.out] at hek; subst hek
        have hxk9 := Ext.trans (w := Wb) (by repeat (first | with_reducible assumption | with_reducible exact Ext.refl _ | with_reducible apply Ext.alloc | with_reducible apply Ext.drew | with_reducible apply Ext.drewN)) hbk9
        refine hKK.out _ _ ?_ (fun hHeld => ?_)
        · exact hS _ (by repeat (first | with_reducible assumption | with_reducible exact Ext.refl _ | with_reducible apply Ext.alloc | with_reducible apply Ext.drew | with_reducible apply Ext.drewN))
        clear hKK KK
        try simp only [Act.put, List.setIfInBounds_toArray, List.set_cons_zero, List.set_cons_succ]
        refine' wpAnyH_take (i := 10) (v := _) ?hi10 (by kernel_rfl) (by kernel_rfl) (by kernel_rfl) ?hQ10 ?hy10 (by assumption) ?_
        case hi10 => (simp only [List.getElem?_toArray, List.getElem?_cons_succ, List.getElem?_cons_zero]; rfl)
        case hy10 => refine Or.inl ⟨by rfl, ?_⟩; intro w hSw; (try dsimp only at hSw); go_simp <;> with_reducible rfl
        case hQ10 => exact fun _ _ _ h => h
        try simp only [Act.put, List.setIfInBounds_toArray, List.set_cons_zero, List.set_cons_succ]
        refine' wpAnyH_take (i := 11) (v := _) ?hi11 (by kernel_rfl) (by kernel_rfl) (by kernel_rfl) ?hQ11 ?hy11 (by assumption) ?_
        case hi11 => (simp only [List.getElem?_toArray, List.getElem?_cons_succ, List.getElem?_cons_zero]; rfl)
        case hy11 => refine Or.inl ⟨by rfl, ?_⟩; intro w hSw; (try dsimp only at hSw); go_simp <;> with_reducible rfl
        case hQ11 => exact fun _ _ _ h => h
        try simp only [Act.put, List.setIfInBounds_toArray, List.set_cons_zero, List.set_cons_succ]
        refine' wpAnyH_take (i := 12) (v := _) ?hi12 (by kernel_rfl) (by kernel_rfl) (by kernel_rfl) ?hQ12 ?hy12 (by assumption) ?_
        case hi12 => (simp only [List.getElem?_toArray, List.getElem?_cons_succ, List.getElem?_cons_zero]; rfl)
        case hy12 => refine Or.inl ⟨by rfl, ?_⟩; intro w hSw; (try dsimp only at hSw); go_simp <;> with_reducible rfl
        case hQ12 => exact fun _ _ _ h => h
        try simp only [Act.put, List.setIfInBounds_toArray, List.set_cons_zero, List.set_cons_succ]
        refine' wpAnyH_take (i := 13) (v := _) ?hi13 (by kernel_rfl) (by kernel_rfl) (by kernel_rfl) ?hQ13 ?hy13 (by assumption) ?_
        case hi13 => (simp only [List.getElem?_toArray, List.getElem?_cons_succ, List.getElem?_cons_zero]; rfl)
        case hy13 => refine Or.inl ⟨by rfl, ?_⟩; intro w hSw; (try dsimp only at hSw); go_simp <;> with_reducible rfl
        case hQ13 => exact fun _ _ _ h => h
        try simp only [Act.put, List.setIfInBounds_toArray, List.set_cons_zero, List.set_cons_succ]
        refine' wpAnyH_take (i := 14) (v := _) ?hi14 (by kernel_rfl) (by kernel_rfl) (by kernel_rfl) ?hQ14 ?hy14 (by assumption) ?_
        case hi14 => (simp only [List.getElem?_toArray, List.getElem?_cons_succ, List.getElem?_cons_zero]; rfl)
        case hy14 => refine Or.inl ⟨by rfl, ?_⟩; intro w hSw; (try dsimp only at hSw); go_simp <;> with_reducible rfl
        case hQ14 => exact fun _ _ _ h => h
        try simp only [Act.put, List.setIfInBounds_toArray, List.set_cons_zero, List.set_cons_succ]
        refine' wpAnyH_take (i := 15) (v := _) ?hi15 (by kernel_rfl) (by kernel_rfl) (by kernel_rfl) ?hQ15 ?hy15 (by assumption) ?_
        case hi15 => (simp only [List.getElem?_toArray, List.getElem?_cons_succ, List.getElem?_cons_zero]; rfl)
        case hy15 => refine Or.inl ⟨by rfl, ?_⟩; intro w hSw; (try dsimp only at hSw); go_simp <;> with_reducible rfl
        case hQ15 => exact fun _ _ _ h => h
        try simp only [Act.put, List.setIfInBounds_toArray, List.set_cons_zero, List.set_cons_succ]
        refine wpAnyH_ready (rs := [16]) (by kernel_rfl) (by simp) ?_
        refine AllReadyH.cons rfl (fun KK hKK => ?_) ?_
        · go_simp
          go_at_call 50
          refine (eGood_any p q g A n k0 l _ HGB.out (ha.ext (E.trans (by repeat (first | with_reducible assumption | with_reducible exact Ext.refl _ | with_reducible apply Ext.alloc | with_reducible apply Ext.drew | with_reducible apply Ext.drewN)))) HL.out hn).mono ?_
          rintro ek wk16 ⟨hek, hbk16⟩
          rw [HCI.out] at hek; subst hek
          have hxk16 := Ext.trans (w := Wb) (by repeat (first | with_reducible assumption | with_reducible exact Ext.refl _ | with_reducible apply Ext.alloc | with_reducible apply Ext.drew | with_reducible apply Ext.drewN)) hbk16
          refine hKK.out _ _ ?_ (fun hHeld => ?_)
          · exact hS _ (by repeat (first | with_reducible assumption | with_reducible exact Ext.refl _ | with_reducible apply Ext.alloc | with_reducible apply Ext.drew | with_reducible apply Ext.drewN))
          clear hKK KK
          try simp only [Act.put, List.setIfInBounds_toArray, List.set_cons_zero, List.set_cons_succ]
          refine' wpAnyH_take (i := 17) (v := _) ?hi17 (by kernel_rfl) (by kernel_rfl) (by kernel_rfl) ?hQ17 ?hy17 (by assumption) ?_
          case hi17 => (simp only [List.getElem?_toArray, List.getElem?_cons_succ, List.getElem?_cons_zero]; rfl)
          case hy17 => refine Or.inl ⟨by rfl, ?_⟩; intro w hSw; (try dsimp only at hSw); go_simp <;> with_reducible rfl
          case hQ17 => exact fun _ _ _ h => h
          try simp only [Act.put, List.setIfInBounds_toArray, List.set_cons_zero, List.set_cons_succ]
          refine' wpAnyH_take (i := 18) (v := _) ?hi18 (by kernel_rfl) (by kernel_rfl) (by kernel_rfl) ?hQ18 ?hy18 (by assumption) ?_
          case hi18 => (simp only [List.getElem?_toArray, List.getElem?_cons_succ, List.getElem?_cons_zero]; rfl)
          case hy18 => refine Or.inl ⟨by rfl, ?_⟩; intro w hSw; (try dsimp only at hSw); go_simp <;> with_reducible rfl
          case hQ18 => exact fun _ _ _ h => h
          try simp only [Act.put, List.setIfInBounds_toArray, List.set_cons_zero, List.set_cons_succ]
          refine wpAnyH_done (by kernel_rfl) ?_ _
          have BR2 := B3.ext hxk16
          have FF := BR2.frozen
          have CC := BR2.cells
          go_wp2
          refine ret_ciB (a := 0) (b := 0) (k := false) ((BR2.set_ 0 (.int .i64 0)).set_ 1 (.int .i64 0)) rfl rfl rfl ?_
          exact ⟨by rw [HR.out, HB.out], (E.trans hxk16).then (below_two (g := w.heap.size + 1 + 1 + 1) _ _ _) (by omega)⟩
        exact AllReadyH.nil
      exact AllReadyH.nil
    exact AllReadyH.nil
  have hbb : mcB p q g a b c d f l = true := by rw [mcB_3 hsea (by rw [HL.out, hwd]; exact hne), HL.out, hci]
  have HB := Lib.hid hbb
  have HR : Hid (mcR p q g a b c d f l = mcV p q a f l) := by show _ = _; unfold mcR; rw [hbb]; rfl
  have HCI := Lib.hid hci
  have h24 : n ≤ 24 := by simp only [Bool.and_eq_true, decide_eq_true_eq] at hci; exact hci.1
  have HRG : Hid (∀ x ∈ l, (0 ≤ x.1 ∧ x.1 ≤ 3000000000) ∧ 0 ≤ x.2 ∧ x.2 ≤ 3000000000) := ciB_rg (grpB_in hgg).p9 (by simp only [Bool.and_eq_true] at hci; exact hci.2)
  have hpos : 0 < n := by have := mcW_pos hvv; omega
  have hf5 : 0 ≤ f ∧ f ≤ 1000 := by have := valid_kind hvv; omega
  have hp2 : 2 ≤ p := by have := (grpB_in hgg).p3; omega
  have hq2 : 2 ≤ q := (grpB_in hgg).q2
  have HMX := Lib.hid (mx_mcV hbb)
  clear hne hw hwd hgg hvv hsea hci hbb
  go_enter Try.func8, Try.ntmps8
  go_wp2_with fail
  generalize ((((w.alloc (.cells #[.int .i64 p, .int .i64 q, .int .i64 g] 38)).alloc (.cells #[.int .i64 a, .int .i64 b, .int .i64 c, .int .i64 d, .int .i64 f] 40)).alloc (.cells #[.int .i64 v, .slice A n k0, .slice B m e, .slice C1 k1 f1, .slice C2 k2 f2, .slice C3 k3 f3] 46)).alloc (.cells #[.int .i64 0, .int .i64 0] 35)) = Wb at *
  have hS : ∀ V, Ext Wb V → V.cell? ⟨w.heap.size, 0, none⟩ = some (.int .i64 p) ∧ V.cell? ⟨w.heap.size, 1, none⟩ = some (.int .i64 q) ∧ V.cell? ⟨w.heap.size, 2, none⟩ = some (.int .i64 g) ∧ V.cell? ⟨w.heap.size + 1, 0, none⟩ = some (.int .i64 a) ∧ V.cell? ⟨w.heap.size + 1, 1, none⟩ = some (.int .i64 b) ∧ V.cell? ⟨w.heap.size + 1, 2, none⟩ = some (.int .i64 c) ∧ V.cell? ⟨w.heap.size + 1, 3, none⟩ = some (.int .i64 d) ∧ V.cell? ⟨w.heap.size + 1, 4, none⟩ = some (.int .i64 f) ∧ V.cell? ⟨w.heap.size + 1 + 1, 1, none⟩ = some (.slice A n k0) := fun V hV => by
    have a0 := (B0.ext hV).cells
    have a1 := (B1.ext hV).cells
    have a2 := (B2.ext hV).cells
    exact ⟨a0 0, a0 1, a0 2, a1 0, a1 1, a1 2, a1 3, a1 4, a2 1⟩
  refine wp_region_held_drew (S := fun V => V.cell? ⟨w.heap.size, 0, none⟩ = some (.int .i64 p) ∧ V.cell? ⟨w.heap.size, 1, none⟩ = some (.int .i64 q) ∧ V.cell? ⟨w.heap.size, 2, none⟩ = some (.int .i64 g) ∧ V.cell? ⟨w.heap.size + 1, 0, none⟩ = some (.int .i64 a) ∧ V.cell? ⟨w.heap.size + 1, 1, none⟩ = some (.int .i64 b) ∧ V.cell? ⟨w.heap.size + 1, 2, none⟩ = some (.int .i64 c) ∧ V.cell? ⟨w.heap.size + 1, 3, none⟩ = some (.int .i64 d) ∧ V.cell? ⟨w.heap.size + 1, 4, none⟩ = some (.int .i64 f) ∧ V.cell? ⟨w.heap.size + 1 + 1, 1, none⟩ = some (.slice A n k0)) (by kernel_rfl) ?_ (fun hHeld => ?_)
  · exact hS _ (by repeat (first | with_reducible assumption | with_reducible exact Ext.refl _ | with_reducible apply Ext.alloc | with_reducible apply Ext.drew | with_reducible apply Ext.drewN))
  refine' wpAnyH_take (i := 0) (v := _) ?hi0 (by kernel_rfl) (by kernel_rfl) (by kernel_rfl) ?hQ0 ?hy0 (by assumption) ?_
  case hi0 => (simp only [List.getElem?_toArray, List.getElem?_cons_zero]; rfl)
  case hy0 => refine Or.inl ⟨by rfl, ?_⟩; intro w hSw; (try dsimp only at hSw); go_simp <;> with_reducible rfl
  case hQ0 => exact fun _ _ _ h => h
  try simp only [Act.put, List.setIfInBounds_toArray, List.set_cons_zero, List.set_cons_succ]
  refine' wpAnyH_take (i := 1) (v := _) ?hi1 (by kernel_rfl) (by kernel_rfl) (by kernel_rfl) ?hQ1 ?hy1 (by assumption) ?_
  case hi1 => (simp only [List.getElem?_toArray, List.getElem?_cons_succ, List.getElem?_cons_zero]; rfl)
  case hy1 => refine Or.inl ⟨by rfl, ?_⟩; intro w hSw; (try dsimp only at hSw); go_simp <;> with_reducible rfl
  case hQ1 => exact fun _ _ _ h => h
  try simp only [Act.put, List.setIfInBounds_toArray, List.set_cons_zero, List.set_cons_succ]
  refine wpAnyH_ready (rs := [2]) (by kernel_rfl) (by simp) ?_
  refine AllReadyH.cons rfl (fun KK hKK => ?_) ?_
  · go_simp
    go_at_call 48
    refine (sSea_any p q g a b c d f _).mono ?_
    rintro ek wk2 ⟨hek, hbk2⟩
    rw [HSEA.out] at hek; subst hek
    have hxk2 := Ext.trans (w := Wb) (by repeat (first | with_reducible assumption | with_reducible exact Ext.refl _ | with_reducible apply Ext.alloc | with_reducible apply Ext.drew | with_reducible apply Ext.drewN)) hbk2
    refine hKK.out _ _ ?_ (fun hHeld => ?_)
    · exact hS _ (by repeat (first | with_reducible assumption | with_reducible exact Ext.refl _ | with_reducible apply Ext.alloc | with_reducible apply Ext.drew | with_reducible apply Ext.drewN))
    clear hKK KK
    try simp only [Act.put, List.setIfInBounds_toArray, List.set_cons_zero, List.set_cons_succ]
    refine' wpAnyH_take (i := 3) (v := _) ?hi3 (by kernel_rfl) (by kernel_rfl) (by kernel_rfl) ?hQ3 ?hy3 (by assumption) ?_
    case hi3 => (simp only [List.getElem?_toArray, List.getElem?_cons_succ, List.getElem?_cons_zero]; rfl)
    case hy3 => refine Or.inl ⟨by rfl, ?_⟩; intro w hSw; (try dsimp only at hSw); go_simp <;> with_reducible rfl
    case hQ3 => exact fun _ _ _ h => h
    try simp only [Act.put, List.setIfInBounds_toArray, List.set_cons_zero, List.set_cons_succ]
    refine' wpAnyH_take (i := 4) (v := _) ?hi4 (by kernel_rfl) (by kernel_rfl) (by kernel_rfl) ?hQ4 ?hy4 (by assumption) ?_
    case hi4 => (simp only [List.getElem?_toArray, List.getElem?_cons_succ, List.getElem?_cons_zero]; rfl)
    case hy4 => refine Or.inl ⟨by rfl, ?_⟩; intro w hSw; (try dsimp only at hSw); go_simp <;> with_reducible rfl
    case hQ4 => exact fun _ _ _ h => h
    try simp only [Act.put, List.setIfInBounds_toArray, List.set_cons_zero, List.set_cons_succ]
    refine' wpAnyH_take (i := 5) (v := _) ?hi5 (by kernel_rfl) (by kernel_rfl) (by kernel_rfl) ?hQ5 ?hy5 (by assumption) ?_
    case hi5 => (simp only [List.getElem?_toArray, List.getElem?_cons_succ, List.getElem?_cons_zero]; rfl)
    case hy5 => refine Or.inl ⟨by rfl, ?_⟩; intro w hSw; (try dsimp only at hSw); go_simp <;> with_reducible rfl
    case hQ5 => exact fun _ _ _ h => h
    try simp only [Act.put, List.setIfInBounds_toArray, List.set_cons_zero, List.set_cons_succ]
    refine' wpAnyH_take (i := 6) (v := _) ?hi6 (by kernel_rfl) (by kernel_rfl) (by kernel_rfl) ?hQ6 ?hy6 (by assumption) ?_
    case hi6 => (simp only [List.getElem?_toArray, List.getElem?_cons_succ, List.getElem?_cons_zero]; rfl)
    case hy6 => refine Or.inl ⟨by rfl, ?_⟩; intro w hSw; (try dsimp only at hSw); go_simp <;> with_reducible rfl
    case hQ6 => exact fun _ _ _ h => h
    try simp only [Act.put, List.setIfInBounds_toArray, List.set_cons_zero, List.set_cons_succ]
    refine' wpAnyH_take (i := 7) (v := _) ?hi7 (by kernel_rfl) (by kernel_rfl) (by kernel_rfl) ?hQ7 ?hy7 (by assumption) ?_
    case hi7 => (simp only [List.getElem?_toArray, List.getElem?_cons_succ, List.getElem?_cons_zero]; rfl)
    case hy7 => refine Or.inl ⟨by rfl, ?_⟩; intro w hSw; (try dsimp only at hSw); go_simp <;> with_reducible rfl
    case hQ7 => exact fun _ _ _ h => h
    try simp only [Act.put, List.setIfInBounds_toArray, List.set_cons_zero, List.set_cons_succ]
    refine' wpAnyH_take (i := 8) (v := _) ?hi8 (by kernel_rfl) (by kernel_rfl) (by kernel_rfl) ?hQ8 ?hy8 (by assumption) ?_
    case hi8 => (simp only [List.getElem?_toArray, List.getElem?_cons_succ, List.getElem?_cons_zero]; rfl)
    case hy8 => refine Or.inl ⟨by rfl, ?_⟩; intro w hSw; (try dsimp only at hSw); go_simp <;> with_reducible rfl
    case hQ8 => exact fun _ _ _ h => h
    try simp only [Act.put, List.setIfInBounds_toArray, List.set_cons_zero, List.set_cons_succ]
    refine wpAnyH_ready (rs := [9]) (by kernel_rfl) (by simp) ?_
    refine AllReadyH.cons rfl (fun KK hKK => ?_) ?_
    · go_simp
      go_at_call 49
      refine (bWidth_any a b c d f _).mono ?_
      rintro ek wk9 ⟨hek, hbk9⟩
      rw [HW.out] at hek; subst hek
      have hxk9 := Ext.trans (w := Wb) (by repeat (first | with_reducible assumption | with_reducible exact Ext.refl _ | with_reducible apply Ext.alloc | with_reducible apply Ext.drew | with_reducible apply Ext.drewN)) hbk9
      refine hKK.out _ _ ?_ (fun hHeld => ?_)
      · exact hS _ (by repeat (first | with_reducible assumption | with_reducible exact Ext.refl _ | with_reducible apply Ext.alloc | with_reducible apply Ext.drew | with_reducible apply Ext.drewN))
      clear hKK KK
      try simp only [Act.put, List.setIfInBounds_toArray, List.set_cons_zero, List.set_cons_succ]
      refine' wpAnyH_take (i := 10) (v := _) ?hi10 (by kernel_rfl) (by kernel_rfl) (by kernel_rfl) ?hQ10 ?hy10 (by assumption) ?_
      case hi10 => (simp only [List.getElem?_toArray, List.getElem?_cons_succ, List.getElem?_cons_zero]; rfl)
      case hy10 => refine Or.inl ⟨by rfl, ?_⟩; intro w hSw; (try dsimp only at hSw); go_simp <;> with_reducible rfl
      case hQ10 => exact fun _ _ _ h => h
      try simp only [Act.put, List.setIfInBounds_toArray, List.set_cons_zero, List.set_cons_succ]
      refine' wpAnyH_take (i := 11) (v := _) ?hi11 (by kernel_rfl) (by kernel_rfl) (by kernel_rfl) ?hQ11 ?hy11 (by assumption) ?_
      case hi11 => (simp only [List.getElem?_toArray, List.getElem?_cons_succ, List.getElem?_cons_zero]; rfl)
      case hy11 => refine Or.inl ⟨by rfl, ?_⟩; intro w hSw; (try dsimp only at hSw); go_simp <;> with_reducible rfl
      case hQ11 => exact fun _ _ _ h => h
      try simp only [Act.put, List.setIfInBounds_toArray, List.set_cons_zero, List.set_cons_succ]
      refine' wpAnyH_take (i := 12) (v := _) ?hi12 (by kernel_rfl) (by kernel_rfl) (by kernel_rfl) ?hQ12 ?hy12 (by assumption) ?_
      case hi12 => (simp only [List.getElem?_toArray, List.getElem?_cons_succ, List.getElem?_cons_zero]; rfl)
      case hy12 => refine Or.inl ⟨by rfl, ?_⟩; intro w hSw; (try dsimp only at hSw); go_simp <;> with_reducible rfl
      case hQ12 => exact fun _ _ _ h => h
      try simp only [Act.put, List.setIfInBounds_toArray, List.set_cons_zero, List.set_cons_succ]
      refine' wpAnyH_take (i := 13) (v := _) ?hi13 (by kernel_rfl) (by kernel_rfl) (by kernel_rfl) ?hQ13 ?hy13 (by assumption) ?_
      case hi13 => (simp only [List.getElem?_toArray, List.getElem?_cons_succ, List.getElem?_cons_zero]; rfl)
      case hy13 => refine Or.inl ⟨by rfl, ?_⟩; intro w hSw; (try dsimp only at hSw); go_simp <;> with_reducible rfl
      case hQ13 => exact fun _ _ _ h => h
      try simp only [Act.put, List.setIfInBounds_toArray, List.set_cons_zero, List.set_cons_succ]
      refine' wpAnyH_take (i := 14) (v := _) ?hi14 (by kernel_rfl) (by kernel_rfl) (by kernel_rfl) ?hQ14 ?hy14 (by assumption) ?_
      case hi14 => (simp only [List.getElem?_toArray, List.getElem?_cons_succ, List.getElem?_cons_zero]; rfl)
      case hy14 => refine Or.inl ⟨by rfl, ?_⟩; intro w hSw; (try dsimp only at hSw); go_simp <;> with_reducible rfl
      case hQ14 => exact fun _ _ _ h => h
      try simp only [Act.put, List.setIfInBounds_toArray, List.set_cons_zero, List.set_cons_succ]
      refine' wpAnyH_take (i := 15) (v := _) ?hi15 (by kernel_rfl) (by kernel_rfl) (by kernel_rfl) ?hQ15 ?hy15 (by assumption) ?_
      case hi15 => (simp only [List.getElem?_toArray, List.getElem?_cons_succ, List.getElem?_cons_zero]; rfl)
      case hy15 => refine Or.inl ⟨by rfl, ?_⟩; intro w hSw; (try dsimp only at hSw); go_simp <;> with_reducible rfl
      case hQ15 => exact fun _ _ _ h => h
      try simp only [Act.put, List.setIfInBounds_toArray, List.set_cons_zero, List.set_cons_succ]
      refine wpAnyH_ready (rs := [16]) (by kernel_rfl) (by simp) ?_
      refine AllReadyH.cons rfl (fun KK hKK => ?_) ?_
      · go_simp
        go_at_call 50
        refine (eGood_any p q g A n k0 l _ HGB.out (ha.ext (E.trans (by repeat (first | with_reducible assumption | with_reducible exact Ext.refl _ | with_reducible apply Ext.alloc | with_reducible apply Ext.drew | with_reducible apply Ext.drewN)))) HL.out hn).mono ?_
        rintro ek wk16 ⟨hek, hbk16⟩
        rw [HCI.out] at hek; subst hek
        have hxk16 := Ext.trans (w := Wb) (by repeat (first | with_reducible assumption | with_reducible exact Ext.refl _ | with_reducible apply Ext.alloc | with_reducible apply Ext.drew | with_reducible apply Ext.drewN)) hbk16
        refine hKK.out _ _ ?_ (fun hHeld => ?_)
        · exact hS _ (by repeat (first | with_reducible assumption | with_reducible exact Ext.refl _ | with_reducible apply Ext.alloc | with_reducible apply Ext.drew | with_reducible apply Ext.drewN))
        clear hKK KK
        try simp only [Act.put, List.setIfInBounds_toArray, List.set_cons_zero, List.set_cons_succ]
        refine' wpAnyH_take (i := 17) (v := _) ?hi17 (by kernel_rfl) (by kernel_rfl) (by kernel_rfl) ?hQ17 ?hy17 (by assumption) ?_
        case hi17 => (simp only [List.getElem?_toArray, List.getElem?_cons_succ, List.getElem?_cons_zero]; rfl)
        case hy17 => refine Or.inl ⟨by rfl, ?_⟩; intro w hSw; (try dsimp only at hSw); go_simp <;> with_reducible rfl
        case hQ17 => exact fun _ _ _ h => h
        try simp only [Act.put, List.setIfInBounds_toArray, List.set_cons_zero, List.set_cons_succ]
        refine' wpAnyH_take (i := 18) (v := _) ?hi18 (by kernel_rfl) (by kernel_rfl) (by kernel_rfl) ?hQ18 ?hy18 (by assumption) ?_
        case hi18 => (simp only [List.getElem?_toArray, List.getElem?_cons_succ, List.getElem?_cons_zero]; rfl)
        case hy18 => refine Or.inl ⟨by rfl, ?_⟩; intro w hSw; (try dsimp only at hSw); go_simp <;> with_reducible rfl
        case hQ18 => exact fun _ _ _ h => h
        try simp only [Act.put, List.setIfInBounds_toArray, List.set_cons_zero, List.set_cons_succ]
        refine wpAnyH_done (by kernel_rfl) ?_ _
        replace E := E.trans hxk16
        replace B0 := B0.ext hxk16
        replace B1 := B1.ext hxk16
        replace B2 := B2.ext hxk16
        replace B3 := B3.ext hxk16
        have CC0 := B0.cells
        have CC1 := B1.cells
        have CC2 := B2.cells
        go_wp2_with fail
        refine (bMix_any p q g a b c d f A n k0 l _ HGB.out hp2 (ha.ext E) HL.out (by omega) hpos hf5 HRG.out).mono ?_
        rintro ek w3 ⟨rfl, hb3⟩
        clear CC0 CC1 CC2
        have BR2 := B3.ext hb3
        have FF := BR2.frozen
        have CC := BR2.cells
        go_wp2
        refine ret_ciB (a := (mcV p q a f l).1) (b := (mcV p q a f l).2) (k := true) ((BR2.set_ 0 (.int .i64 (mcV p q a f l).1)).set_ 1 (.int .i64 (mcV p q a f l).2)) rfl rfl rfl ?_
        exact ⟨by rw [HR.out, HB.out], (E.trans hb3).then (below_two (g := w.heap.size + 1 + 1 + 1) _ _ _) (by omega)⟩
      exact AllReadyH.nil
    exact AllReadyH.nil
  exact AllReadyH.nil
set_option maxRecDepth 100000 in
set_option maxHeartbeats 8000000 in
theorem iMixCipher_any (p q g a b c d f v : Int) (A : Option Addr) (n k0 : Nat) (B : Option Addr) (m e : Nat) (C1 : Option Addr) (k1 f1 : Nat) (C2 : Option Addr) (k2 f2 : Nat) (C3 : Option Addr) (k3 f3 : Nat) (l : List (Int × Int)) (w : World) (ha : RdC w A l) (hl : l.length = n) (hn : n ≤ maxLen) :
    Calls Try.prog 12 #[.agg #[.int .i64 p, .int .i64 q, .int .i64 g], .agg #[.int .i64 a, .int .i64 b, .int .i64 c, .int .i64 d, .int .i64 f], .agg #[.int .i64 v, .slice A n k0, .slice B m e, .slice C1 k1 f1, .slice C2 k2 f2, .slice C3 k3 f3]] w fun en w' => en = .returned (.tuple #[.agg #[.int .i64 (mcR p q g a b c d f l).1, .int .i64 (mcR p q g a b c d f l).2], .bool (mcB p q g a b c d f l)]) ∧ Ext w w' := by
  have HL := Lib.hid hl
  have hn9 : n ≤ 9223372036854775807 := by unfold maxLen at hn; omega
  clear hl
  have E := (((((Ext.refl w).alloc (.cells #[.int .i64 p, .int .i64 q, .int .i64 g] 38)).alloc (.cells #[.int .i64 a, .int .i64 b, .int .i64 c, .int .i64 d, .int .i64 f] 40)).alloc (.cells #[.int .i64 v, .slice A n k0, .slice B m e, .slice C1 k1 f1, .slice C2 k2 f2, .slice C3 k3 f3] 46)).alloc (.cells #[.int .i64 0, .int .i64 0] 35))
  have B0 := ((((Blk.new w 38 #[.int .i64 p, .int .i64 q, .int .i64 g]).alloc (.cells #[.int .i64 a, .int .i64 b, .int .i64 c, .int .i64 d, .int .i64 f] 40)).alloc (.cells #[.int .i64 v, .slice A n k0, .slice B m e, .slice C1 k1 f1, .slice C2 k2 f2, .slice C3 k3 f3] 46)).alloc (.cells #[.int .i64 0, .int .i64 0] 35))
  have B1 := (((Blk.new (w.alloc (.cells #[.int .i64 p, .int .i64 q, .int .i64 g] 38)) 40 #[.int .i64 a, .int .i64 b, .int .i64 c, .int .i64 d, .int .i64 f]).alloc (.cells #[.int .i64 v, .slice A n k0, .slice B m e, .slice C1 k1 f1, .slice C2 k2 f2, .slice C3 k3 f3] 46)).alloc (.cells #[.int .i64 0, .int .i64 0] 35))
  have B2 := ((Blk.new ((w.alloc (.cells #[.int .i64 p, .int .i64 q, .int .i64 g] 38)).alloc (.cells #[.int .i64 a, .int .i64 b, .int .i64 c, .int .i64 d, .int .i64 f] 40)) 46 #[.int .i64 v, .slice A n k0, .slice B m e, .slice C1 k1 f1, .slice C2 k2 f2, .slice C3 k3 f3]).alloc (.cells #[.int .i64 0, .int .i64 0] 35))
  have B3 := (Blk.new (((w.alloc (.cells #[.int .i64 p, .int .i64 q, .int .i64 g] 38)).alloc (.cells #[.int .i64 a, .int .i64 b, .int .i64 c, .int .i64 d, .int .i64 f] 40)).alloc (.cells #[.int .i64 v, .slice A n k0, .slice B m e, .slice C1 k1 f1, .slice C2 k2 f2, .slice C3 k3 f3] 46)) 35 #[.int .i64 0, .int .i64 0])
  simp only [World.size_alloc] at B1 B2 B3
  cases hsea : seaB p q g a b c d f
  · have hbb : mcB p q g a b c d f l = false := mcB_1 hsea
    have HSEA := Lib.hid hsea
    have HB := Lib.hid hbb
    have HR : Hid (mcR p q g a b c d f l = (0, 0)) := by show _ = _; unfold mcR; rw [hbb]; rfl
    clear hbb
    clear hsea
    go_enter Try.func12, Try.ntmps12
    go_wp2_with fail
    generalize ((((w.alloc (.cells #[.int .i64 p, .int .i64 q, .int .i64 g] 38)).alloc (.cells #[.int .i64 a, .int .i64 b, .int .i64 c, .int .i64 d, .int .i64 f] 40)).alloc (.cells #[.int .i64 v, .slice A n k0, .slice B m e, .slice C1 k1 f1, .slice C2 k2 f2, .slice C3 k3 f3] 46)).alloc (.cells #[.int .i64 0, .int .i64 0] 35)) = Wb at *
    have hS : ∀ V, Ext Wb V → V.cell? ⟨w.heap.size, 0, none⟩ = some (.int .i64 p) ∧ V.cell? ⟨w.heap.size, 1, none⟩ = some (.int .i64 q) ∧ V.cell? ⟨w.heap.size, 2, none⟩ = some (.int .i64 g) ∧ V.cell? ⟨w.heap.size + 1, 0, none⟩ = some (.int .i64 a) ∧ V.cell? ⟨w.heap.size + 1, 1, none⟩ = some (.int .i64 b) ∧ V.cell? ⟨w.heap.size + 1, 2, none⟩ = some (.int .i64 c) ∧ V.cell? ⟨w.heap.size + 1, 3, none⟩ = some (.int .i64 d) ∧ V.cell? ⟨w.heap.size + 1, 4, none⟩ = some (.int .i64 f) ∧ V.cell? ⟨w.heap.size + 1 + 1, 1, none⟩ = some (.slice A n k0) := fun V hV => by
      have a0 := (B0.ext hV).cells
      have a1 := (B1.ext hV).cells
      have a2 := (B2.ext hV).cells
      exact ⟨a0 0, a0 1, a0 2, a1 0, a1 1, a1 2, a1 3, a1 4, a2 1⟩
    refine wp_region_held_drew (S := fun V => V.cell? ⟨w.heap.size, 0, none⟩ = some (.int .i64 p) ∧ V.cell? ⟨w.heap.size, 1, none⟩ = some (.int .i64 q) ∧ V.cell? ⟨w.heap.size, 2, none⟩ = some (.int .i64 g) ∧ V.cell? ⟨w.heap.size + 1, 0, none⟩ = some (.int .i64 a) ∧ V.cell? ⟨w.heap.size + 1, 1, none⟩ = some (.int .i64 b) ∧ V.cell? ⟨w.heap.size + 1, 2, none⟩ = some (.int .i64 c) ∧ V.cell? ⟨w.heap.size + 1, 3, none⟩ = some (.int .i64 d) ∧ V.cell? ⟨w.heap.size + 1, 4, none⟩ = some (.int .i64 f) ∧ V.cell? ⟨w.heap.size + 1 + 1, 1, none⟩ = some (.slice A n k0)) (by kernel_rfl) ?_ (fun hHeld => ?_)
    · exact hS _ (by repeat (first | with_reducible assumption | with_reducible exact Ext.refl _ | with_reducible apply Ext.alloc | with_reducible apply Ext.drew | with_reducible apply Ext.drewN))
    refine' wpAnyH_take (i := 0) (v := _) ?hi0 (by kernel_rfl) (by kernel_rfl) (by kernel_rfl) ?hQ0 ?hy0 (by assumption) ?_
    case hi0 => (simp only [List.getElem?_toArray, List.getElem?_cons_zero]; rfl)
    case hy0 => refine Or.inl ⟨by rfl, ?_⟩; intro w hSw; (try dsimp only at hSw); go_simp <;> with_reducible rfl
    case hQ0 => exact fun _ _ _ h => h
    try simp only [Act.put, List.setIfInBounds_toArray, List.set_cons_zero, List.set_cons_succ]
    refine' wpAnyH_take (i := 1) (v := _) ?hi1 (by kernel_rfl) (by kernel_rfl) (by kernel_rfl) ?hQ1 ?hy1 (by assumption) ?_
    case hi1 => (simp only [List.getElem?_toArray, List.getElem?_cons_succ, List.getElem?_cons_zero]; rfl)
    case hy1 => refine Or.inl ⟨by rfl, ?_⟩; intro w hSw; (try dsimp only at hSw); go_simp <;> with_reducible rfl
    case hQ1 => exact fun _ _ _ h => h
    try simp only [Act.put, List.setIfInBounds_toArray, List.set_cons_zero, List.set_cons_succ]
    refine wpAnyH_ready (rs := [2]) (by kernel_rfl) (by simp) ?_
    refine AllReadyH.cons rfl (fun KK hKK => ?_) ?_
    · go_simp
      go_at_call 54
      refine (iSea_any p q g a b c d f _).mono ?_
      rintro ek wk2 ⟨hek, hbk2⟩
      rw [HSEA.out] at hek; subst hek
      have hxk2 := Ext.trans (w := Wb) (by repeat (first | with_reducible assumption | with_reducible exact Ext.refl _ | with_reducible apply Ext.alloc | with_reducible apply Ext.drew | with_reducible apply Ext.drewN)) hbk2
      refine hKK.out _ _ ?_ (fun hHeld => ?_)
      · exact hS _ (by repeat (first | with_reducible assumption | with_reducible exact Ext.refl _ | with_reducible apply Ext.alloc | with_reducible apply Ext.drew | with_reducible apply Ext.drewN))
      clear hKK KK
      try simp only [Act.put, List.setIfInBounds_toArray, List.set_cons_zero, List.set_cons_succ]
      refine' wpAnyH_take (i := 3) (v := _) ?hi3 (by kernel_rfl) (by kernel_rfl) (by kernel_rfl) ?hQ3 ?hy3 (by assumption) ?_
      case hi3 => (simp only [List.getElem?_toArray, List.getElem?_cons_succ, List.getElem?_cons_zero]; rfl)
      case hy3 => refine Or.inl ⟨by rfl, ?_⟩; intro w hSw; (try dsimp only at hSw); go_simp <;> with_reducible rfl
      case hQ3 => exact fun _ _ _ h => h
      try simp only [Act.put, List.setIfInBounds_toArray, List.set_cons_zero, List.set_cons_succ]
      refine' wpAnyH_take (i := 4) (v := _) ?hi4 (by kernel_rfl) (by kernel_rfl) (by kernel_rfl) ?hQ4 ?hy4 (by assumption) ?_
      case hi4 => (simp only [List.getElem?_toArray, List.getElem?_cons_succ, List.getElem?_cons_zero]; rfl)
      case hy4 => refine Or.inl ⟨by rfl, ?_⟩; intro w hSw; (try dsimp only at hSw); go_simp <;> with_reducible rfl
      case hQ4 => exact fun _ _ _ h => h
      try simp only [Act.put, List.setIfInBounds_toArray, List.set_cons_zero, List.set_cons_succ]
      refine' wpAnyH_take (i := 5) (v := undef) ?hi5 (by kernel_rfl) (by kernel_rfl) (by kernel_rfl) ?hQ5 ?hy5 (by assumption) ?_
      case hi5 => (simp only [List.getElem?_toArray, List.getElem?_cons_succ, List.getElem?_cons_zero]; rfl)
      case hQ5 => exact fun _ _ _ h => h
      case hy5 => exact Or.inr ⟨by rfl, rfl⟩
      try simp only [Act.put, List.setIfInBounds_toArray, List.set_cons_zero, List.set_cons_succ]
      refine' wpAnyH_take (i := 6) (v := undef) ?hi6 (by kernel_rfl) (by kernel_rfl) (by kernel_rfl) ?hQ6 ?hy6 (by assumption) ?_
      case hi6 => (simp only [List.getElem?_toArray, List.getElem?_cons_succ, List.getElem?_cons_zero]; rfl)
      case hQ6 => exact fun _ _ _ h => h
      case hy6 => exact Or.inr ⟨by rfl, rfl⟩
      try simp only [Act.put, List.setIfInBounds_toArray, List.set_cons_zero, List.set_cons_succ]
      refine' wpAnyH_take (i := 7) (v := undef) ?hi7 (by kernel_rfl) (by kernel_rfl) (by kernel_rfl) ?hQ7 ?hy7 (by assumption) ?_
      case hi7 => (simp only [List.getElem?_toArray, List.getElem?_cons_succ, List.getElem?_cons_zero]; rfl)
      case hQ7 => exact fun _ _ _ h => h
      case hy7 => exact Or.inr ⟨by rfl, rfl⟩
      try simp only [Act.put, List.setIfInBounds_toArray, List.set_cons_zero, List.set_cons_succ]
      refine' wpAnyH_take (i := 8) (v := undef) ?hi8 (by kernel_rfl) (by kernel_rfl) (by kernel_rfl) ?hQ8 ?hy8 (by assumption) ?_
      case hi8 => (simp only [List.getElem?_toArray, List.getElem?_cons_succ, List.getElem?_cons_zero]; rfl)
      case hQ8 => exact fun _ _ _ h => h
      case hy8 => exact Or.inr ⟨by rfl, rfl⟩
      try simp only [Act.put, List.setIfInBounds_toArray, List.set_cons_zero, List.set_cons_succ]
      refine' wpAnyH_take (i := 9) (v := undef) ?hi9 (by kernel_rfl) (by kernel_rfl) (by kernel_rfl) ?hQ9 ?hy9 (by assumption) ?_
      case hi9 => (simp only [List.getElem?_toArray, List.getElem?_cons_succ, List.getElem?_cons_zero]; rfl)
      case hQ9 => exact fun _ _ _ h => h
      case hy9 => exact Or.inr ⟨by rfl, rfl⟩
      try simp only [Act.put, List.setIfInBounds_toArray, List.set_cons_zero, List.set_cons_succ]
      refine' wpAnyH_take (i := 10) (v := undef) ?hi10 (by kernel_rfl) (by kernel_rfl) (by kernel_rfl) ?hQ10 ?hy10 (by assumption) ?_
      case hi10 => (simp only [List.getElem?_toArray, List.getElem?_cons_succ, List.getElem?_cons_zero]; rfl)
      case hQ10 => exact fun _ _ _ h => h
      case hy10 => exact Or.inr ⟨by rfl, rfl⟩
      try simp only [Act.put, List.setIfInBounds_toArray, List.set_cons_zero, List.set_cons_succ]
      refine' wpAnyH_take (i := 11) (v := _) ?hi11 (by kernel_rfl) (by kernel_rfl) (by kernel_rfl) ?hQ11 ?hy11 (by assumption) ?_
      case hi11 => (simp only [List.getElem?_toArray, List.getElem?_cons_succ, List.getElem?_cons_zero]; rfl)
      case hy11 => refine Or.inl ⟨by rfl, ?_⟩; intro w hSw; (try dsimp only at hSw); go_simp <;> with_reducible rfl
      case hQ11 => exact fun _ _ _ h => h
      try simp only [Act.put, List.setIfInBounds_toArray, List.set_cons_zero, List.set_cons_succ]
      refine' wpAnyH_take (i := 12) (v := _) ?hi12 (by kernel_rfl) (by kernel_rfl) (by kernel_rfl) ?hQ12 ?hy12 (by assumption) ?_
      case hi12 => (simp only [List.getElem?_toArray, List.getElem?_cons_succ, List.getElem?_cons_zero]; rfl)
      case hy12 => refine Or.inl ⟨by rfl, ?_⟩; intro w hSw; (try dsimp only at hSw); go_simp <;> with_reducible rfl
      case hQ12 => exact fun _ _ _ h => h
      try simp only [Act.put, List.setIfInBounds_toArray, List.set_cons_zero, List.set_cons_succ]
      refine' wpAnyH_take (i := 13) (v := undef) ?hi13 (by kernel_rfl) (by kernel_rfl) (by kernel_rfl) ?hQ13 ?hy13 (by assumption) ?_
      case hi13 => (simp only [List.getElem?_toArray, List.getElem?_cons_succ, List.getElem?_cons_zero]; rfl)
      case hQ13 => exact fun _ _ _ h => h
      case hy13 => exact Or.inr ⟨by rfl, rfl⟩
      try simp only [Act.put, List.setIfInBounds_toArray, List.set_cons_zero, List.set_cons_succ]
      refine' wpAnyH_take (i := 14) (v := undef) ?hi14 (by kernel_rfl) (by kernel_rfl) (by kernel_rfl) ?hQ14 ?hy14 (by assumption) ?_
      case hi14 => (simp only [List.getElem?_toArray, List.getElem?_cons_succ, List.getElem?_cons_zero]; rfl)
      case hQ14 => exact fun _ _ _ h => h
      case hy14 => exact Or.inr ⟨by rfl, rfl⟩
      try simp only [Act.put, List.setIfInBounds_toArray, List.set_cons_zero, List.set_cons_succ]
      refine' wpAnyH_take (i := 15) (v := undef) ?hi15 (by kernel_rfl) (by kernel_rfl) (by kernel_rfl) ?hQ15 ?hy15 (by assumption) ?_
      case hi15 => (simp only [List.getElem?_toArray, List.getElem?_cons_succ, List.getElem?_cons_zero]; rfl)
      case hQ15 => exact fun _ _ _ h => h
      case hy15 => exact Or.inr ⟨by rfl, rfl⟩
      try simp only [Act.put, List.setIfInBounds_toArray, List.set_cons_zero, List.set_cons_succ]
      refine' wpAnyH_take (i := 16) (v := undef) ?hi16 (by kernel_rfl) (by kernel_rfl) (by kernel_rfl) ?hQ16 ?hy16 (by assumption) ?_
      case hi16 => (simp only [List.getElem?_toArray, List.getElem?_cons_succ, List.getElem?_cons_zero]; rfl)
      case hQ16 => exact fun _ _ _ h => h
      case hy16 => exact Or.inr ⟨by rfl, rfl⟩
      try simp only [Act.put, List.setIfInBounds_toArray, List.set_cons_zero, List.set_cons_succ]
      refine' wpAnyH_take (i := 17) (v := undef) ?hi17 (by kernel_rfl) (by kernel_rfl) (by kernel_rfl) ?hQ17 ?hy17 (by assumption) ?_
      case hi17 => (simp only [List.getElem?_toArray, List.getElem?_cons_succ, List.getElem?_cons_zero]; rfl)
      case hQ17 => exact fun _ _ _ h => h
      case hy17 => exact Or.inr ⟨by rfl, rfl⟩
      try simp only [Act.put, List.setIfInBounds_toArray, List.set_cons_zero, List.set_cons_succ]
      refine' wpAnyH_take (i := 18) (v := _) ?hi18 (by kernel_rfl) (by kernel_rfl) (by kernel_rfl) ?hQ18 ?hy18 (by assumption) ?_
      case hi18 => (simp only [List.getElem?_toArray, List.getElem?_cons_succ, List.getElem?_cons_zero]; rfl)
      case hy18 => refine Or.inl ⟨by rfl, ?_⟩; intro w hSw; (try dsimp only at hSw); go_simp <;> with_reducible rfl
      case hQ18 => exact fun _ _ _ h => h
      try simp only [Act.put, List.setIfInBounds_toArray, List.set_cons_zero, List.set_cons_succ]
      refine wpAnyH_done (by kernel_rfl) ?_ _
      have BR2 := B3.ext hxk2
      have FF := BR2.frozen
      have CC := BR2.cells
      go_wp2
      refine ret_ciB (a := 0) (b := 0) (k := false) ((BR2.set_ 0 (.int .i64 0)).set_ 1 (.int .i64 0)) rfl rfl rfl ?_
      exact ⟨by rw [HR.out, HB.out], (E.trans hxk2).then (below_two (g := w.heap.size + 1 + 1 + 1) _ _ _) (by omega)⟩
    exact AllReadyH.nil
  obtain ⟨hgg, hvv⟩ := seaB_in hsea
  have HSEA := Lib.hid hsea
  have HGB := Lib.hid (grpB_in hgg).bd
  obtain ⟨wd, hw⟩ : ∃ wd, (if a = 1 ∨ a = 2 then b else 1) = wd := ⟨_, rfl⟩
  have HW := Lib.hid hw
  have hwd : mcW a b = wd := hw
  by_cases hne : (n : Int) = wd
  case neg =>
    have hbb : mcB p q g a b c d f l = false := mcB_2 (by rw [HL.out, hwd]; exact hne)
    have hz : ((n : Int) != wd) = true := by simp [hne]
    have HB := Lib.hid hbb
    have HR : Hid (mcR p q g a b c d f l = (0, 0)) := by show _ = _; unfold mcR; rw [hbb]; rfl
    clear hbb
    clear hne hw hwd hgg hvv hsea
    go_enter Try.func12, Try.ntmps12
    go_wp2_with fail
    generalize ((((w.alloc (.cells #[.int .i64 p, .int .i64 q, .int .i64 g] 38)).alloc (.cells #[.int .i64 a, .int .i64 b, .int .i64 c, .int .i64 d, .int .i64 f] 40)).alloc (.cells #[.int .i64 v, .slice A n k0, .slice B m e, .slice C1 k1 f1, .slice C2 k2 f2, .slice C3 k3 f3] 46)).alloc (.cells #[.int .i64 0, .int .i64 0] 35)) = Wb at *
    have hS : ∀ V, Ext Wb V → V.cell? ⟨w.heap.size, 0, none⟩ = some (.int .i64 p) ∧ V.cell? ⟨w.heap.size, 1, none⟩ = some (.int .i64 q) ∧ V.cell? ⟨w.heap.size, 2, none⟩ = some (.int .i64 g) ∧ V.cell? ⟨w.heap.size + 1, 0, none⟩ = some (.int .i64 a) ∧ V.cell? ⟨w.heap.size + 1, 1, none⟩ = some (.int .i64 b) ∧ V.cell? ⟨w.heap.size + 1, 2, none⟩ = some (.int .i64 c) ∧ V.cell? ⟨w.heap.size + 1, 3, none⟩ = some (.int .i64 d) ∧ V.cell? ⟨w.heap.size + 1, 4, none⟩ = some (.int .i64 f) ∧ V.cell? ⟨w.heap.size + 1 + 1, 1, none⟩ = some (.slice A n k0) := fun V hV => by
      have a0 := (B0.ext hV).cells
      have a1 := (B1.ext hV).cells
      have a2 := (B2.ext hV).cells
      exact ⟨a0 0, a0 1, a0 2, a1 0, a1 1, a1 2, a1 3, a1 4, a2 1⟩
    refine wp_region_held_drew (S := fun V => V.cell? ⟨w.heap.size, 0, none⟩ = some (.int .i64 p) ∧ V.cell? ⟨w.heap.size, 1, none⟩ = some (.int .i64 q) ∧ V.cell? ⟨w.heap.size, 2, none⟩ = some (.int .i64 g) ∧ V.cell? ⟨w.heap.size + 1, 0, none⟩ = some (.int .i64 a) ∧ V.cell? ⟨w.heap.size + 1, 1, none⟩ = some (.int .i64 b) ∧ V.cell? ⟨w.heap.size + 1, 2, none⟩ = some (.int .i64 c) ∧ V.cell? ⟨w.heap.size + 1, 3, none⟩ = some (.int .i64 d) ∧ V.cell? ⟨w.heap.size + 1, 4, none⟩ = some (.int .i64 f) ∧ V.cell? ⟨w.heap.size + 1 + 1, 1, none⟩ = some (.slice A n k0)) (by kernel_rfl) ?_ (fun hHeld => ?_)
    · exact hS _ (by repeat (first | with_reducible assumption | with_reducible exact Ext.refl _ | with_reducible apply Ext.alloc | with_reducible apply Ext.drew | with_reducible apply Ext.drewN))
    refine' wpAnyH_take (i := 0) (v := _) ?hi0 (by kernel_rfl) (by kernel_rfl) (by kernel_rfl) ?hQ0 ?hy0 (by assumption) ?_
    case hi0 => (simp only [List.getElem?_toArray, List.getElem?_cons_zero]; rfl)
    case hy0 => refine Or.inl ⟨by rfl, ?_⟩; intro w hSw; (try dsimp only at hSw); go_simp <;> with_reducible rfl
    case hQ0 => exact fun _ _ _ h => h
    try simp only [Act.put, List.setIfInBounds_toArray, List.set_cons_zero, List.set_cons_succ]
    refine' wpAnyH_take (i := 1) (v := _) ?hi1 (by kernel_rfl) (by kernel_rfl) (by kernel_rfl) ?hQ1 ?hy1 (by assumption) ?_
    case hi1 => (simp only [List.getElem?_toArray, List.getElem?_cons_succ, List.getElem?_cons_zero]; rfl)
    case hy1 => refine Or.inl ⟨by rfl, ?_⟩; intro w hSw; (try dsimp only at hSw); go_simp <;> with_reducible rfl
    case hQ1 => exact fun _ _ _ h => h
    try simp only [Act.put, List.setIfInBounds_toArray, List.set_cons_zero, List.set_cons_succ]
    refine wpAnyH_ready (rs := [2]) (by kernel_rfl) (by simp) ?_
    refine AllReadyH.cons rfl (fun KK hKK => ?_) ?_
    · go_simp
      go_at_call 54
      refine (iSea_any p q g a b c d f _).mono ?_
      rintro ek wk2 ⟨hek, hbk2⟩
      rw [HSEA.out] at hek; subst hek
      have hxk2 := Ext.trans (w := Wb) (by repeat (first | with_reducible assumption | with_reducible exact Ext.refl _ | with_reducible apply Ext.alloc | with_reducible apply Ext.drew | with_reducible apply Ext.drewN)) hbk2
      refine hKK.out _ _ ?_ (fun hHeld => ?_)
      · exact hS _ (by repeat (first | with_reducible assumption | with_reducible exact Ext.refl _ | with_reducible apply Ext.alloc | with_reducible apply Ext.drew | with_reducible apply Ext.drewN))
      clear hKK KK
      try simp only [Act.put, List.setIfInBounds_toArray, List.set_cons_zero, List.set_cons_succ]
      refine' wpAnyH_take (i := 3) (v := _) ?hi3 (by kernel_rfl) (by kernel_rfl) (by kernel_rfl) ?hQ3 ?hy3 (by assumption) ?_
      case hi3 => (simp only [List.getElem?_toArray, List.getElem?_cons_succ, List.getElem?_cons_zero]; rfl)
      case hy3 => refine Or.inl ⟨by rfl, ?_⟩; intro w hSw; (try dsimp only at hSw); go_simp <;> with_reducible rfl
      case hQ3 => exact fun _ _ _ h => h
      try simp only [Act.put, List.setIfInBounds_toArray, List.set_cons_zero, List.set_cons_succ]
      refine' wpAnyH_take (i := 4) (v := _) ?hi4 (by kernel_rfl) (by kernel_rfl) (by kernel_rfl) ?hQ4 ?hy4 (by assumption) ?_
      case hi4 => (simp only [List.getElem?_toArray, List.getElem?_cons_succ, List.getElem?_cons_zero]; rfl)
      case hy4 => refine Or.inl ⟨by rfl, ?_⟩; intro w hSw; (try dsimp only at hSw); go_simp <;> with_reducible rfl
      case hQ4 => exact fun _ _ _ h => h
      try simp only [Act.put, List.setIfInBounds_toArray, List.set_cons_zero, List.set_cons_succ]
      refine' wpAnyH_take (i := 5) (v := _) ?hi5 (by kernel_rfl) (by kernel_rfl) (by kernel_rfl) ?hQ5 ?hy5 (by assumption) ?_
      case hi5 => (simp only [List.getElem?_toArray, List.getElem?_cons_succ, List.getElem?_cons_zero]; rfl)
      case hy5 => refine Or.inl ⟨by rfl, ?_⟩; intro w hSw; (try dsimp only at hSw); go_simp <;> with_reducible rfl
      case hQ5 => exact fun _ _ _ h => h
      try simp only [Act.put, List.setIfInBounds_toArray, List.set_cons_zero, List.set_cons_succ]
      refine' wpAnyH_take (i := 6) (v := _) ?hi6 (by kernel_rfl) (by kernel_rfl) (by kernel_rfl) ?hQ6 ?hy6 (by assumption) ?_
      case hi6 => (simp only [List.getElem?_toArray, List.getElem?_cons_succ, List.getElem?_cons_zero]; rfl)
      case hy6 => refine Or.inl ⟨by rfl, ?_⟩; intro w hSw; (try dsimp only at hSw); go_simp <;> with_reducible rfl
      case hQ6 => exact fun _ _ _ h => h
      try simp only [Act.put, List.setIfInBounds_toArray, List.set_cons_zero, List.set_cons_succ]
      refine' wpAnyH_take (i := 7) (v := _) ?hi7 (by kernel_rfl) (by kernel_rfl) (by kernel_rfl) ?hQ7 ?hy7 (by assumption) ?_
      case hi7 => (simp only [List.getElem?_toArray, List.getElem?_cons_succ, List.getElem?_cons_zero]; rfl)
      case hy7 => refine Or.inl ⟨by rfl, ?_⟩; intro w hSw; (try dsimp only at hSw); go_simp <;> with_reducible rfl
      case hQ7 => exact fun _ _ _ h => h
      try simp only [Act.put, List.setIfInBounds_toArray, List.set_cons_zero, List.set_cons_succ]
      refine' wpAnyH_take (i := 8) (v := _) ?hi8 (by kernel_rfl) (by kernel_rfl) (by kernel_rfl) ?hQ8 ?hy8 (by assumption) ?_
      case hi8 => (simp only [List.getElem?_toArray, List.getElem?_cons_succ, List.getElem?_cons_zero]; rfl)
      case hy8 => refine Or.inl ⟨by rfl, ?_⟩; intro w hSw; (try dsimp only at hSw); go_simp <;> with_reducible rfl
      case hQ8 => exact fun _ _ _ h => h
      try simp only [Act.put, List.setIfInBounds_toArray, List.set_cons_zero, List.set_cons_succ]
      refine wpAnyH_ready (rs := [9]) (by kernel_rfl) (by simp) ?_
      refine AllReadyH.cons rfl (fun KK hKK => ?_) ?_
      · go_simp
        go_at_call 55
        refine (width_any a b c d f _).mono ?_
        rintro ek wk9 ⟨hek, hbk9⟩
        rw [HW.out] at hek; subst hek
        have hxk9 := Ext.trans (w := Wb) (by repeat (first | with_reducible assumption | with_reducible exact Ext.refl _ | with_reducible apply Ext.alloc | with_reducible apply Ext.drew | with_reducible apply Ext.drewN)) hbk9
        refine hKK.out _ _ ?_ (fun hHeld => ?_)
        · exact hS _ (by repeat (first | with_reducible assumption | with_reducible exact Ext.refl _ | with_reducible apply Ext.alloc | with_reducible apply Ext.drew | with_reducible apply Ext.drewN))
        clear hKK KK
        try simp only [Act.put, List.setIfInBounds_toArray, List.set_cons_zero, List.set_cons_succ]
        refine' wpAnyH_take (i := 10) (v := _) ?hi10 (by kernel_rfl) (by kernel_rfl) (by kernel_rfl) ?hQ10 ?hy10 (by assumption) ?_
        case hi10 => (simp only [List.getElem?_toArray, List.getElem?_cons_succ, List.getElem?_cons_zero]; rfl)
        case hy10 => refine Or.inl ⟨by rfl, ?_⟩; intro w hSw; (try dsimp only at hSw); go_simp <;> with_reducible rfl
        case hQ10 => exact fun _ _ _ h => h
        try simp only [Act.put, List.setIfInBounds_toArray, List.set_cons_zero, List.set_cons_succ]
        refine' wpAnyH_take (i := 11) (v := _) ?hi11 (by kernel_rfl) (by kernel_rfl) (by kernel_rfl) ?hQ11 ?hy11 (by assumption) ?_
        case hi11 => (simp only [List.getElem?_toArray, List.getElem?_cons_succ, List.getElem?_cons_zero]; rfl)
        case hy11 => refine Or.inl ⟨by rfl, ?_⟩; intro w hSw; (try dsimp only at hSw); go_simp <;> with_reducible rfl
        case hQ11 => exact fun _ _ _ h => h
        try simp only [Act.put, List.setIfInBounds_toArray, List.set_cons_zero, List.set_cons_succ]
        refine' wpAnyH_take (i := 12) (v := _) ?hi12 (by kernel_rfl) (by kernel_rfl) (by kernel_rfl) ?hQ12 ?hy12 (by assumption) ?_
        case hi12 => (simp only [List.getElem?_toArray, List.getElem?_cons_succ, List.getElem?_cons_zero]; rfl)
        case hy12 => refine Or.inl ⟨by rfl, ?_⟩; intro w hSw; (try dsimp only at hSw); go_simp <;> with_reducible rfl
        case hQ12 => exact fun _ _ _ h => h
        try simp only [Act.put, List.setIfInBounds_toArray, List.set_cons_zero, List.set_cons_succ]
        refine' wpAnyH_take (i := 13) (v := undef) ?hi13 (by kernel_rfl) (by kernel_rfl) (by kernel_rfl) ?hQ13 ?hy13 (by assumption) ?_
        case hi13 => (simp only [List.getElem?_toArray, List.getElem?_cons_succ, List.getElem?_cons_zero]; rfl)
        case hQ13 => exact fun _ _ _ h => h
        case hy13 => exact Or.inr ⟨by rfl, rfl⟩
        try simp only [Act.put, List.setIfInBounds_toArray, List.set_cons_zero, List.set_cons_succ]
        refine' wpAnyH_take (i := 14) (v := undef) ?hi14 (by kernel_rfl) (by kernel_rfl) (by kernel_rfl) ?hQ14 ?hy14 (by assumption) ?_
        case hi14 => (simp only [List.getElem?_toArray, List.getElem?_cons_succ, List.getElem?_cons_zero]; rfl)
        case hQ14 => exact fun _ _ _ h => h
        case hy14 => exact Or.inr ⟨by rfl, rfl⟩
        try simp only [Act.put, List.setIfInBounds_toArray, List.set_cons_zero, List.set_cons_succ]
        refine' wpAnyH_take (i := 15) (v := undef) ?hi15 (by kernel_rfl) (by kernel_rfl) (by kernel_rfl) ?hQ15 ?hy15 (by assumption) ?_
        case hi15 => (simp only [List.getElem?_toArray, List.getElem?_cons_succ, List.getElem?_cons_zero]; rfl)
        case hQ15 => exact fun _ _ _ h => h
        case hy15 => exact Or.inr ⟨by rfl, rfl⟩
        try simp only [Act.put, List.setIfInBounds_toArray, List.set_cons_zero, List.set_cons_succ]
        refine' wpAnyH_take (i := 16) (v := undef) ?hi16 (by kernel_rfl) (by kernel_rfl) (by kernel_rfl) ?hQ16 ?hy16 (by assumption) ?_
        case hi16 => (simp only [List.getElem?_toArray, List.getElem?_cons_succ, List.getElem?_cons_zero]; rfl)
        case hQ16 => exact fun _ _ _ h => h
        case hy16 => exact Or.inr ⟨by rfl, rfl⟩
        try simp only [Act.put, List.setIfInBounds_toArray, List.set_cons_zero, List.set_cons_succ]
        refine' wpAnyH_take (i := 17) (v := undef) ?hi17 (by kernel_rfl) (by kernel_rfl) (by kernel_rfl) ?hQ17 ?hy17 (by assumption) ?_
        case hi17 => (simp only [List.getElem?_toArray, List.getElem?_cons_succ, List.getElem?_cons_zero]; rfl)
        case hQ17 => exact fun _ _ _ h => h
        case hy17 => exact Or.inr ⟨by rfl, rfl⟩
        try simp only [Act.put, List.setIfInBounds_toArray, List.set_cons_zero, List.set_cons_succ]
        refine' wpAnyH_take (i := 18) (v := _) ?hi18 (by kernel_rfl) (by kernel_rfl) (by kernel_rfl) ?hQ18 ?hy18 (by assumption) ?_
        case hi18 => (simp only [List.getElem?_toArray, List.getElem?_cons_succ, List.getElem?_cons_zero]; rfl)
        case hy18 => refine Or.inl ⟨by rfl, ?_⟩; intro w hSw; (try dsimp only at hSw); go_simp <;> with_reducible rfl
        case hQ18 => exact fun _ _ _ h => h
        try simp only [Act.put, List.setIfInBounds_toArray, List.set_cons_zero, List.set_cons_succ]
        refine wpAnyH_done (by kernel_rfl) ?_ _
        have BR2 := B3.ext hxk9
        have FF := BR2.frozen
        have CC := BR2.cells
        go_wp2
        refine ret_ciB (a := 0) (b := 0) (k := false) ((BR2.set_ 0 (.int .i64 0)).set_ 1 (.int .i64 0)) rfl rfl rfl ?_
        exact ⟨by rw [HR.out, HB.out], (E.trans hxk9).then (below_two (g := w.heap.size + 1 + 1 + 1) _ _ _) (by omega)⟩
      exact AllReadyH.nil
    exact AllReadyH.nil
  have hz : ((n : Int) != wd) = false := by simp [hne]
  cases hci : (decide (n ≤ 24) && l.all (ciB p q))
  · have hbb : mcB p q g a b c d f l = false := by rw [mcB_3 hsea (by rw [HL.out, hwd]; exact hne), HL.out, hci]
    have HCI := Lib.hid hci
    have HB := Lib.hid hbb
    have HR : Hid (mcR p q g a b c d f l = (0, 0)) := by show _ = _; unfold mcR; rw [hbb]; rfl
    clear hbb
    clear hne hw hwd hgg hvv hsea hci
    go_enter Try.func12, Try.ntmps12
    go_wp2_with fail
    generalize ((((w.alloc (.cells #[.int .i64 p, .int .i64 q, .int .i64 g] 38)).alloc (.cells #[.int .i64 a, .int .i64 b, .int .i64 c, .int .i64 d, .int .i64 f] 40)).alloc (.cells #[.int .i64 v, .slice A n k0, .slice B m e, .slice C1 k1 f1, .slice C2 k2 f2, .slice C3 k3 f3] 46)).alloc (.cells #[.int .i64 0, .int .i64 0] 35)) = Wb at *
    have hS : ∀ V, Ext Wb V → V.cell? ⟨w.heap.size, 0, none⟩ = some (.int .i64 p) ∧ V.cell? ⟨w.heap.size, 1, none⟩ = some (.int .i64 q) ∧ V.cell? ⟨w.heap.size, 2, none⟩ = some (.int .i64 g) ∧ V.cell? ⟨w.heap.size + 1, 0, none⟩ = some (.int .i64 a) ∧ V.cell? ⟨w.heap.size + 1, 1, none⟩ = some (.int .i64 b) ∧ V.cell? ⟨w.heap.size + 1, 2, none⟩ = some (.int .i64 c) ∧ V.cell? ⟨w.heap.size + 1, 3, none⟩ = some (.int .i64 d) ∧ V.cell? ⟨w.heap.size + 1, 4, none⟩ = some (.int .i64 f) ∧ V.cell? ⟨w.heap.size + 1 + 1, 1, none⟩ = some (.slice A n k0) := fun V hV => by
      have a0 := (B0.ext hV).cells
      have a1 := (B1.ext hV).cells
      have a2 := (B2.ext hV).cells
      exact ⟨a0 0, a0 1, a0 2, a1 0, a1 1, a1 2, a1 3, a1 4, a2 1⟩
    refine wp_region_held_drew (S := fun V => V.cell? ⟨w.heap.size, 0, none⟩ = some (.int .i64 p) ∧ V.cell? ⟨w.heap.size, 1, none⟩ = some (.int .i64 q) ∧ V.cell? ⟨w.heap.size, 2, none⟩ = some (.int .i64 g) ∧ V.cell? ⟨w.heap.size + 1, 0, none⟩ = some (.int .i64 a) ∧ V.cell? ⟨w.heap.size + 1, 1, none⟩ = some (.int .i64 b) ∧ V.cell? ⟨w.heap.size + 1, 2, none⟩ = some (.int .i64 c) ∧ V.cell? ⟨w.heap.size + 1, 3, none⟩ = some (.int .i64 d) ∧ V.cell? ⟨w.heap.size + 1, 4, none⟩ = some (.int .i64 f) ∧ V.cell? ⟨w.heap.size + 1 + 1, 1, none⟩ = some (.slice A n k0)) (by kernel_rfl) ?_ (fun hHeld => ?_)
    · exact hS _ (by repeat (first | with_reducible assumption | with_reducible exact Ext.refl _ | with_reducible apply Ext.alloc | with_reducible apply Ext.drew | with_reducible apply Ext.drewN))
    refine' wpAnyH_take (i := 0) (v := _) ?hi0 (by kernel_rfl) (by kernel_rfl) (by kernel_rfl) ?hQ0 ?hy0 (by assumption) ?_
    case hi0 => (simp only [List.getElem?_toArray, List.getElem?_cons_zero]; rfl)
    case hy0 => refine Or.inl ⟨by rfl, ?_⟩; intro w hSw; (try dsimp only at hSw); go_simp <;> with_reducible rfl
    case hQ0 => exact fun _ _ _ h => h
    try simp only [Act.put, List.setIfInBounds_toArray, List.set_cons_zero, List.set_cons_succ]
    refine' wpAnyH_take (i := 1) (v := _) ?hi1 (by kernel_rfl) (by kernel_rfl) (by kernel_rfl) ?hQ1 ?hy1 (by assumption) ?_
    case hi1 => (simp only [List.getElem?_toArray, List.getElem?_cons_succ, List.getElem?_cons_zero]; rfl)
    case hy1 => refine Or.inl ⟨by rfl, ?_⟩; intro w hSw; (try dsimp only at hSw); go_simp <;> with_reducible rfl
    case hQ1 => exact fun _ _ _ h => h
    try simp only [Act.put, List.setIfInBounds_toArray, List.set_cons_zero, List.set_cons_succ]
    refine wpAnyH_ready (rs := [2]) (by kernel_rfl) (by simp) ?_
    refine AllReadyH.cons rfl (fun KK hKK => ?_) ?_
    · go_simp
      go_at_call 54
      refine (iSea_any p q g a b c d f _).mono ?_
      rintro ek wk2 ⟨hek, hbk2⟩
      rw [HSEA.out] at hek; subst hek
      have hxk2 := Ext.trans (w := Wb) (by repeat (first | with_reducible assumption | with_reducible exact Ext.refl _ | with_reducible apply Ext.alloc | with_reducible apply Ext.drew | with_reducible apply Ext.drewN)) hbk2
      refine hKK.out _ _ ?_ (fun hHeld => ?_)
      · exact hS _ (by repeat (first | with_reducible assumption | with_reducible exact Ext.refl _ | with_reducible apply Ext.alloc | with_reducible apply Ext.drew | with_reducible apply Ext.drewN))
      clear hKK KK
      try simp only [Act.put, List.setIfInBounds_toArray, List.set_cons_zero, List.set_cons_succ]
      refine' wpAnyH_take (i := 3) (v := _) ?hi3 (by kernel_rfl) (by kernel_rfl) (by kernel_rfl) ?hQ3 ?hy3 (by assumption) ?_
      case hi3 => (simp only [List.getElem?_toArray, List.getElem?_cons_succ, List.getElem?_cons_zero]; rfl)
      case hy3 => refine Or.inl ⟨by rfl, ?_⟩; intro w hSw; (try dsimp only at hSw); go_simp <;> with_reducible rfl
      case hQ3 => exact fun _ _ _ h => h
      try simp only [Act.put, List.setIfInBounds_toArray, List.set_cons_zero, List.set_cons_succ]
      refine' wpAnyH_take (i := 4) (v := _) ?hi4 (by kernel_rfl) (by kernel_rfl) (by kernel_rfl) ?hQ4 ?hy4 (by assumption) ?_
      case hi4 => (simp only [List.getElem?_toArray, List.getElem?_cons_succ, List.getElem?_cons_zero]; rfl)
      case hy4 => refine Or.inl ⟨by rfl, ?_⟩; intro w hSw; (try dsimp only at hSw); go_simp <;> with_reducible rfl
      case hQ4 => exact fun _ _ _ h => h
      try simp only [Act.put, List.setIfInBounds_toArray, List.set_cons_zero, List.set_cons_succ]
      refine' wpAnyH_take (i := 5) (v := _) ?hi5 (by kernel_rfl) (by kernel_rfl) (by kernel_rfl) ?hQ5 ?hy5 (by assumption) ?_
      case hi5 => (simp only [List.getElem?_toArray, List.getElem?_cons_succ, List.getElem?_cons_zero]; rfl)
      case hy5 => refine Or.inl ⟨by rfl, ?_⟩; intro w hSw; (try dsimp only at hSw); go_simp <;> with_reducible rfl
      case hQ5 => exact fun _ _ _ h => h
      try simp only [Act.put, List.setIfInBounds_toArray, List.set_cons_zero, List.set_cons_succ]
      refine' wpAnyH_take (i := 6) (v := _) ?hi6 (by kernel_rfl) (by kernel_rfl) (by kernel_rfl) ?hQ6 ?hy6 (by assumption) ?_
      case hi6 => (simp only [List.getElem?_toArray, List.getElem?_cons_succ, List.getElem?_cons_zero]; rfl)
      case hy6 => refine Or.inl ⟨by rfl, ?_⟩; intro w hSw; (try dsimp only at hSw); go_simp <;> with_reducible rfl
      case hQ6 => exact fun _ _ _ h => h
      try simp only [Act.put, List.setIfInBounds_toArray, List.set_cons_zero, List.set_cons_succ]
      refine' wpAnyH_take (i := 7) (v := _) ?hi7 (by kernel_rfl) (by kernel_rfl) (by kernel_rfl) ?hQ7 ?hy7 (by assumption) ?_
      case hi7 => (simp only [List.getElem?_toArray, List.getElem?_cons_succ, List.getElem?_cons_zero]; rfl)
      case hy7 => refine Or.inl ⟨by rfl, ?_⟩; intro w hSw; (try dsimp only at hSw); go_simp <;> with_reducible rfl
      case hQ7 => exact fun _ _ _ h => h
      try simp only [Act.put, List.setIfInBounds_toArray, List.set_cons_zero, List.set_cons_succ]
      refine' wpAnyH_take (i := 8) (v := _) ?hi8 (by kernel_rfl) (by kernel_rfl) (by kernel_rfl) ?hQ8 ?hy8 (by assumption) ?_
      case hi8 => (simp only [List.getElem?_toArray, List.getElem?_cons_succ, List.getElem?_cons_zero]; rfl)
      case hy8 => refine Or.inl ⟨by rfl, ?_⟩; intro w hSw; (try dsimp only at hSw); go_simp <;> with_reducible rfl
      case hQ8 => exact fun _ _ _ h => h
      try simp only [Act.put, List.setIfInBounds_toArray, List.set_cons_zero, List.set_cons_succ]
      refine wpAnyH_ready (rs := [9]) (by kernel_rfl) (by simp) ?_
      refine AllReadyH.cons rfl (fun KK hKK => ?_) ?_
      · go_simp
        go_at_call 55
        refine (width_any a b c d f _).mono ?_
        rintro ek wk9 ⟨hek, hbk9⟩
        rw [HW.out] at hek; subst hek
        have hxk9 := Ext.trans (w := Wb) (by repeat (first | with_reducible assumption | with_reducible exact Ext.refl _ | with_reducible apply Ext.alloc | with_reducible apply Ext.drew | with_reducible apply Ext.drewN)) hbk9
        refine hKK.out _ _ ?_ (fun hHeld => ?_)
        · exact hS _ (by repeat (first | with_reducible assumption | with_reducible exact Ext.refl _ | with_reducible apply Ext.alloc | with_reducible apply Ext.drew | with_reducible apply Ext.drewN))
        clear hKK KK
        try simp only [Act.put, List.setIfInBounds_toArray, List.set_cons_zero, List.set_cons_succ]
        refine' wpAnyH_take (i := 10) (v := _) ?hi10 (by kernel_rfl) (by kernel_rfl) (by kernel_rfl) ?hQ10 ?hy10 (by assumption) ?_
        case hi10 => (simp only [List.getElem?_toArray, List.getElem?_cons_succ, List.getElem?_cons_zero]; rfl)
        case hy10 => refine Or.inl ⟨by rfl, ?_⟩; intro w hSw; (try dsimp only at hSw); go_simp <;> with_reducible rfl
        case hQ10 => exact fun _ _ _ h => h
        try simp only [Act.put, List.setIfInBounds_toArray, List.set_cons_zero, List.set_cons_succ]
        refine' wpAnyH_take (i := 11) (v := _) ?hi11 (by kernel_rfl) (by kernel_rfl) (by kernel_rfl) ?hQ11 ?hy11 (by assumption) ?_
        case hi11 => (simp only [List.getElem?_toArray, List.getElem?_cons_succ, List.getElem?_cons_zero]; rfl)
        case hy11 => refine Or.inl ⟨by rfl, ?_⟩; intro w hSw; (try dsimp only at hSw); go_simp <;> with_reducible rfl
        case hQ11 => exact fun _ _ _ h => h
        try simp only [Act.put, List.setIfInBounds_toArray, List.set_cons_zero, List.set_cons_succ]
        refine' wpAnyH_take (i := 12) (v := _) ?hi12 (by kernel_rfl) (by kernel_rfl) (by kernel_rfl) ?hQ12 ?hy12 (by assumption) ?_
        case hi12 => (simp only [List.getElem?_toArray, List.getElem?_cons_succ, List.getElem?_cons_zero]; rfl)
        case hy12 => refine Or.inl ⟨by rfl, ?_⟩; intro w hSw; (try dsimp only at hSw); go_simp <;> with_reducible rfl
        case hQ12 => exact fun _ _ _ h => h
        try simp only [Act.put, List.setIfInBounds_toArray, List.set_cons_zero, List.set_cons_succ]
        refine' wpAnyH_take (i := 13) (v := _) ?hi13 (by kernel_rfl) (by kernel_rfl) (by kernel_rfl) ?hQ13 ?hy13 (by assumption) ?_
        case hi13 => (simp only [List.getElem?_toArray, List.getElem?_cons_succ, List.getElem?_cons_zero]; rfl)
        case hy13 => refine Or.inl ⟨by rfl, ?_⟩; intro w hSw; (try dsimp only at hSw); go_simp <;> with_reducible rfl
        case hQ13 => exact fun _ _ _ h => h
        try simp only [Act.put, List.setIfInBounds_toArray, List.set_cons_zero, List.set_cons_succ]
        refine' wpAnyH_take (i := 14) (v := _) ?hi14 (by kernel_rfl) (by kernel_rfl) (by kernel_rfl) ?hQ14 ?hy14 (by assumption) ?_
        case hi14 => (simp only [List.getElem?_toArray, List.getElem?_cons_succ, List.getElem?_cons_zero]; rfl)
        case hy14 => refine Or.inl ⟨by rfl, ?_⟩; intro w hSw; (try dsimp only at hSw); go_simp <;> with_reducible rfl
        case hQ14 => exact fun _ _ _ h => h
        try simp only [Act.put, List.setIfInBounds_toArray, List.set_cons_zero, List.set_cons_succ]
        refine' wpAnyH_take (i := 15) (v := _) ?hi15 (by kernel_rfl) (by kernel_rfl) (by kernel_rfl) ?hQ15 ?hy15 (by assumption) ?_
        case hi15 => (simp only [List.getElem?_toArray, List.getElem?_cons_succ, List.getElem?_cons_zero]; rfl)
        case hy15 => refine Or.inl ⟨by rfl, ?_⟩; intro w hSw; (try dsimp only at hSw); go_simp <;> with_reducible rfl
        case hQ15 => exact fun _ _ _ h => h
        try simp only [Act.put, List.setIfInBounds_toArray, List.set_cons_zero, List.set_cons_succ]
        refine wpAnyH_ready (rs := [16]) (by kernel_rfl) (by simp) ?_
        refine AllReadyH.cons rfl (fun KK hKK => ?_) ?_
        · go_simp
          go_at_call 56
          refine (hasCiphers_any p q g A n k0 l _ HGB.out (ha.ext (E.trans (by repeat (first | with_reducible assumption | with_reducible exact Ext.refl _ | with_reducible apply Ext.alloc | with_reducible apply Ext.drew | with_reducible apply Ext.drewN)))) HL.out hn).mono ?_
          rintro ek wk16 ⟨hek, hbk16⟩
          rw [HCI.out] at hek; subst hek
          have hxk16 := Ext.trans (w := Wb) (by repeat (first | with_reducible assumption | with_reducible exact Ext.refl _ | with_reducible apply Ext.alloc | with_reducible apply Ext.drew | with_reducible apply Ext.drewN)) hbk16
          refine hKK.out _ _ ?_ (fun hHeld => ?_)
          · exact hS _ (by repeat (first | with_reducible assumption | with_reducible exact Ext.refl _ | with_reducible apply Ext.alloc | with_reducible apply Ext.drew | with_reducible apply Ext.drewN))
          clear hKK KK
          try simp only [Act.put, List.setIfInBounds_toArray, List.set_cons_zero, List.set_cons_succ]
          refine' wpAnyH_take (i := 17) (v := _) ?hi17 (by kernel_rfl) (by kernel_rfl) (by kernel_rfl) ?hQ17 ?hy17 (by assumption) ?_
          case hi17 => (simp only [List.getElem?_toArray, List.getElem?_cons_succ, List.getElem?_cons_zero]; rfl)
          case hy17 => refine Or.inl ⟨by rfl, ?_⟩; intro w hSw; (try dsimp only at hSw); go_simp <;> with_reducible rfl
          case hQ17 => exact fun _ _ _ h => h
          try simp only [Act.put, List.setIfInBounds_toArray, List.set_cons_zero, List.set_cons_succ]
          refine' wpAnyH_take (i := 18) (v := _) ?hi18 (by kernel_rfl) (by kernel_rfl) (by kernel_rfl) ?hQ18 ?hy18 (by assumption) ?_
          case hi18 => (simp only [List.getElem?_toArray, List.getElem?_cons_succ, List.getElem?_cons_zero]; rfl)
          case hy18 => refine Or.inl ⟨by rfl, ?_⟩; intro w hSw; (try dsimp only at hSw); go_simp <;> with_reducible rfl
          case hQ18 => exact fun _ _ _ h => h
          try simp only [Act.put, List.setIfInBounds_toArray, List.set_cons_zero, List.set_cons_succ]
          refine wpAnyH_done (by kernel_rfl) ?_ _
          have BR2 := B3.ext hxk16
          have FF := BR2.frozen
          have CC := BR2.cells
          go_wp2
          refine ret_ciB (a := 0) (b := 0) (k := false) ((BR2.set_ 0 (.int .i64 0)).set_ 1 (.int .i64 0)) rfl rfl rfl ?_
          exact ⟨by rw [HR.out, HB.out], (E.trans hxk16).then (below_two (g := w.heap.size + 1 + 1 + 1) _ _ _) (by omega)⟩
        exact AllReadyH.nil
      exact AllReadyH.nil
    exact AllReadyH.nil
  have hbb : mcB p q g a b c d f l = true := by rw [mcB_3 hsea (by rw [HL.out, hwd]; exact hne), HL.out, hci]
  have HB := Lib.hid hbb
  have HR : Hid (mcR p q g a b c d f l = mcV p q a f l) := by show _ = _; unfold mcR; rw [hbb]; rfl
  have HCI := Lib.hid hci
  have h24 : n ≤ 24 := by simp only [Bool.and_eq_true, decide_eq_true_eq] at hci; exact hci.1
  have HRG : Hid (∀ x ∈ l, (0 ≤ x.1 ∧ x.1 ≤ 3000000000) ∧ 0 ≤ x.2 ∧ x.2 ≤ 3000000000) := ciB_rg (grpB_in hgg).p9 (by simp only [Bool.and_eq_true] at hci; exact hci.2)
  have hpos : 0 < n := by have := mcW_pos hvv; omega
  have hf5 : 0 ≤ f ∧ f ≤ 1000 := by have := valid_kind hvv; omega
  have hp2 : 2 ≤ p := by have := (grpB_in hgg).p3; omega
  have hq2 : 2 ≤ q := (grpB_in hgg).q2
  have HMX := Lib.hid (mx_mcV hbb)
  clear hne hw hwd hgg hvv hsea hci hbb
  go_enter Try.func12, Try.ntmps12
  go_wp2_with fail
  generalize ((((w.alloc (.cells #[.int .i64 p, .int .i64 q, .int .i64 g] 38)).alloc (.cells #[.int .i64 a, .int .i64 b, .int .i64 c, .int .i64 d, .int .i64 f] 40)).alloc (.cells #[.int .i64 v, .slice A n k0, .slice B m e, .slice C1 k1 f1, .slice C2 k2 f2, .slice C3 k3 f3] 46)).alloc (.cells #[.int .i64 0, .int .i64 0] 35)) = Wb at *
  have hS : ∀ V, Ext Wb V → V.cell? ⟨w.heap.size, 0, none⟩ = some (.int .i64 p) ∧ V.cell? ⟨w.heap.size, 1, none⟩ = some (.int .i64 q) ∧ V.cell? ⟨w.heap.size, 2, none⟩ = some (.int .i64 g) ∧ V.cell? ⟨w.heap.size + 1, 0, none⟩ = some (.int .i64 a) ∧ V.cell? ⟨w.heap.size + 1, 1, none⟩ = some (.int .i64 b) ∧ V.cell? ⟨w.heap.size + 1, 2, none⟩ = some (.int .i64 c) ∧ V.cell? ⟨w.heap.size + 1, 3, none⟩ = some (.int .i64 d) ∧ V.cell? ⟨w.heap.size + 1, 4, none⟩ = some (.int .i64 f) ∧ V.cell? ⟨w.heap.size + 1 + 1, 1, none⟩ = some (.slice A n k0) := fun V hV => by
    have a0 := (B0.ext hV).cells
    have a1 := (B1.ext hV).cells
    have a2 := (B2.ext hV).cells
    exact ⟨a0 0, a0 1, a0 2, a1 0, a1 1, a1 2, a1 3, a1 4, a2 1⟩
  refine wp_region_held_drew (S := fun V => V.cell? ⟨w.heap.size, 0, none⟩ = some (.int .i64 p) ∧ V.cell? ⟨w.heap.size, 1, none⟩ = some (.int .i64 q) ∧ V.cell? ⟨w.heap.size, 2, none⟩ = some (.int .i64 g) ∧ V.cell? ⟨w.heap.size + 1, 0, none⟩ = some (.int .i64 a) ∧ V.cell? ⟨w.heap.size + 1, 1, none⟩ = some (.int .i64 b) ∧ V.cell? ⟨w.heap.size + 1, 2, none⟩ = some (.int .i64 c) ∧ V.cell? ⟨w.heap.size + 1, 3, none⟩ = some (.int .i64 d) ∧ V.cell? ⟨w.heap.size + 1, 4, none⟩ = some (.int .i64 f) ∧ V.cell? ⟨w.heap.size + 1 + 1, 1, none⟩ = some (.slice A n k0)) (by kernel_rfl) ?_ (fun hHeld => ?_)
  · exact hS _ (by repeat (first | with_reducible assumption | with_reducible exact Ext.refl _ | with_reducible apply Ext.alloc | with_reducible apply Ext.drew | with_reducible apply Ext.drewN))
  refine' wpAnyH_take (i := 0) (v := _) ?hi0 (by kernel_rfl) (by kernel_rfl) (by kernel_rfl) ?hQ0 ?hy0 (by assumption) ?_
  case hi0 => (simp only [List.getElem?_toArray, List.getElem?_cons_zero]; rfl)
  case hy0 => refine Or.inl ⟨by rfl, ?_⟩; intro w hSw; (try dsimp only at hSw); go_simp <;> with_reducible rfl
  case hQ0 => exact fun _ _ _ h => h
  try simp only [Act.put, List.setIfInBounds_toArray, List.set_cons_zero, List.set_cons_succ]
  refine' wpAnyH_take (i := 1) (v := _) ?hi1 (by kernel_rfl) (by kernel_rfl) (by kernel_rfl) ?hQ1 ?hy1 (by assumption) ?_
  case hi1 => (simp only [List.getElem?_toArray, List.getElem?_cons_succ, List.getElem?_cons_zero]; rfl)
  case hy1 => refine Or.inl ⟨by rfl, ?_⟩; intro w hSw; (try dsimp only at hSw); go_simp <;> with_reducible rfl
  case hQ1 => exact fun _ _ _ h => h
  try simp only [Act.put, List.setIfInBounds_toArray, List.set_cons_zero, List.set_cons_succ]
  refine wpAnyH_ready (rs := [2]) (by kernel_rfl) (by simp) ?_
  refine AllReadyH.cons rfl (fun KK hKK => ?_) ?_
  · go_simp
    go_at_call 54
    refine (iSea_any p q g a b c d f _).mono ?_
    rintro ek wk2 ⟨hek, hbk2⟩
    rw [HSEA.out] at hek; subst hek
    have hxk2 := Ext.trans (w := Wb) (by repeat (first | with_reducible assumption | with_reducible exact Ext.refl _ | with_reducible apply Ext.alloc | with_reducible apply Ext.drew | with_reducible apply Ext.drewN)) hbk2
    refine hKK.out _ _ ?_ (fun hHeld => ?_)
    · exact hS _ (by repeat (first | with_reducible assumption | with_reducible exact Ext.refl _ | with_reducible apply Ext.alloc | with_reducible apply Ext.drew | with_reducible apply Ext.drewN))
    clear hKK KK
    try simp only [Act.put, List.setIfInBounds_toArray, List.set_cons_zero, List.set_cons_succ]
    refine' wpAnyH_take (i := 3) (v := _) ?hi3 (by kernel_rfl) (by kernel_rfl) (by kernel_rfl) ?hQ3 ?hy3 (by assumption) ?_
    case hi3 => (simp only [List.getElem?_toArray, List.getElem?_cons_succ, List.getElem?_cons_zero]; rfl)
    case hy3 => refine Or.inl ⟨by rfl, ?_⟩; intro w hSw; (try dsimp only at hSw); go_simp <;> with_reducible rfl
    case hQ3 => exact fun _ _ _ h => h
    try simp only [Act.put, List.setIfInBounds_toArray, List.set_cons_zero, List.set_cons_succ]
    refine' wpAnyH_take (i := 4) (v := _) ?hi4 (by kernel_rfl) (by kernel_rfl) (by kernel_rfl) ?hQ4 ?hy4 (by assumption) ?_
    case hi4 => (simp only [List.getElem?_toArray, List.getElem?_cons_succ, List.getElem?_cons_zero]; rfl)
    case hy4 => refine Or.inl ⟨by rfl, ?_⟩; intro w hSw; (try dsimp only at hSw); go_simp <;> with_reducible rfl
    case hQ4 => exact fun _ _ _ h => h
    try simp only [Act.put, List.setIfInBounds_toArray, List.set_cons_zero, List.set_cons_succ]
    refine' wpAnyH_take (i := 5) (v := _) ?hi5 (by kernel_rfl) (by kernel_rfl) (by kernel_rfl) ?hQ5 ?hy5 (by assumption) ?_
    case hi5 => (simp only [List.getElem?_toArray, List.getElem?_cons_succ, List.getElem?_cons_zero]; rfl)
    case hy5 => refine Or.inl ⟨by rfl, ?_⟩; intro w hSw; (try dsimp only at hSw); go_simp <;> with_reducible rfl
    case hQ5 => exact fun _ _ _ h => h
    try simp only [Act.put, List.setIfInBounds_toArray, List.set_cons_zero, List.set_cons_succ]
    refine' wpAnyH_take (i := 6) (v := _) ?hi6 (by kernel_rfl) (by kernel_rfl) (by kernel_rfl) ?hQ6 ?hy6 (by assumption) ?_
    case hi6 => (simp only [List.getElem?_toArray, List.getElem?_cons_succ, List.getElem?_cons_zero]; rfl)
    case hy6 => refine Or.inl ⟨by rfl, ?_⟩; intro w hSw; (try dsimp only at hSw); go_simp <;> with_reducible rfl
    case hQ6 => exact fun _ _ _ h => h
    try simp only [Act.put, List.setIfInBounds_toArray, List.set_cons_zero, List.set_cons_succ]
    refine' wpAnyH_take (i := 7) (v := _) ?hi7 (by kernel_rfl) (by kernel_rfl) (by kernel_rfl) ?hQ7 ?hy7 (by assumption) ?_
    case hi7 => (simp only [List.getElem?_toArray, List.getElem?_cons_succ, List.getElem?_cons_zero]; rfl)
    case hy7 => refine Or.inl ⟨by rfl, ?_⟩; intro w hSw; (try dsimp only at hSw); go_simp <;> with_reducible rfl
    case hQ7 => exact fun _ _ _ h => h
    try simp only [Act.put, List.setIfInBounds_toArray, List.set_cons_zero, List.set_cons_succ]
    refine' wpAnyH_take (i := 8) (v := _) ?hi8 (by kernel_rfl) (by kernel_rfl) (by kernel_rfl) ?hQ8 ?hy8 (by assumption) ?_
    case hi8 => (simp only [List.getElem?_toArray, List.getElem?_cons_succ, List.getElem?_cons_zero]; rfl)
    case hy8 => refine Or.inl ⟨by rfl, ?_⟩; intro w hSw; (try dsimp only at hSw); go_simp <;> with_reducible rfl
    case hQ8 => exact fun _ _ _ h => h
    try simp only [Act.put, List.setIfInBounds_toArray, List.set_cons_zero, List.set_cons_succ]
    refine wpAnyH_ready (rs := [9]) (by kernel_rfl) (by simp) ?_
    refine AllReadyH.cons rfl (fun KK hKK => ?_) ?_
    · go_simp
      go_at_call 55
      refine (width_any a b c d f _).mono ?_
      rintro ek wk9 ⟨hek, hbk9⟩
      rw [HW.out] at hek; subst hek
      have hxk9 := Ext.trans (w := Wb) (by repeat (first | with_reducible assumption | with_reducible exact Ext.refl _ | with_reducible apply Ext.alloc | with_reducible apply Ext.drew | with_reducible apply Ext.drewN)) hbk9
      refine hKK.out _ _ ?_ (fun hHeld => ?_)
      · exact hS _ (by repeat (first | with_reducible assumption | with_reducible exact Ext.refl _ | with_reducible apply Ext.alloc | with_reducible apply Ext.drew | with_reducible apply Ext.drewN))
      clear hKK KK
      try simp only [Act.put, List.setIfInBounds_toArray, List.set_cons_zero, List.set_cons_succ]
      refine' wpAnyH_take (i := 10) (v := _) ?hi10 (by kernel_rfl) (by kernel_rfl) (by kernel_rfl) ?hQ10 ?hy10 (by assumption) ?_
      case hi10 => (simp only [List.getElem?_toArray, List.getElem?_cons_succ, List.getElem?_cons_zero]; rfl)
      case hy10 => refine Or.inl ⟨by rfl, ?_⟩; intro w hSw; (try dsimp only at hSw); go_simp <;> with_reducible rfl
      case hQ10 => exact fun _ _ _ h => h
      try simp only [Act.put, List.setIfInBounds_toArray, List.set_cons_zero, List.set_cons_succ]
      refine' wpAnyH_take (i := 11) (v := _) ?hi11 (by kernel_rfl) (by kernel_rfl) (by kernel_rfl) ?hQ11 ?hy11 (by assumption) ?_
      case hi11 => (simp only [List.getElem?_toArray, List.getElem?_cons_succ, List.getElem?_cons_zero]; rfl)
      case hy11 => refine Or.inl ⟨by rfl, ?_⟩; intro w hSw; (try dsimp only at hSw); go_simp <;> with_reducible rfl
      case hQ11 => exact fun _ _ _ h => h
      try simp only [Act.put, List.setIfInBounds_toArray, List.set_cons_zero, List.set_cons_succ]
      refine' wpAnyH_take (i := 12) (v := _) ?hi12 (by kernel_rfl) (by kernel_rfl) (by kernel_rfl) ?hQ12 ?hy12 (by assumption) ?_
      case hi12 => (simp only [List.getElem?_toArray, List.getElem?_cons_succ, List.getElem?_cons_zero]; rfl)
      case hy12 => refine Or.inl ⟨by rfl, ?_⟩; intro w hSw; (try dsimp only at hSw); go_simp <;> with_reducible rfl
      case hQ12 => exact fun _ _ _ h => h
      try simp only [Act.put, List.setIfInBounds_toArray, List.set_cons_zero, List.set_cons_succ]
      refine' wpAnyH_take (i := 13) (v := _) ?hi13 (by kernel_rfl) (by kernel_rfl) (by kernel_rfl) ?hQ13 ?hy13 (by assumption) ?_
      case hi13 => (simp only [List.getElem?_toArray, List.getElem?_cons_succ, List.getElem?_cons_zero]; rfl)
      case hy13 => refine Or.inl ⟨by rfl, ?_⟩; intro w hSw; (try dsimp only at hSw); go_simp <;> with_reducible rfl
      case hQ13 => exact fun _ _ _ h => h
      try simp only [Act.put, List.setIfInBounds_toArray, List.set_cons_zero, List.set_cons_succ]
      refine' wpAnyH_take (i := 14) (v := _) ?hi14 (by kernel_rfl) (by kernel_rfl) (by kernel_rfl) ?hQ14 ?hy14 (by assumption) ?_
      case hi14 => (simp only [List.getElem?_toArray, List.getElem?_cons_succ, List.getElem?_cons_zero]; rfl)
      case hy14 => refine Or.inl ⟨by rfl, ?_⟩; intro w hSw; (try dsimp only at hSw); go_simp <;> with_reducible rfl
      case hQ14 => exact fun _ _ _ h => h
      try simp only [Act.put, List.setIfInBounds_toArray, List.set_cons_zero, List.set_cons_succ]
      refine' wpAnyH_take (i := 15) (v := _) ?hi15 (by kernel_rfl) (by kernel_rfl) (by kernel_rfl) ?hQ15 ?hy15 (by assumption) ?_
      case hi15 => (simp only [List.getElem?_toArray, List.getElem?_cons_succ, List.getElem?_cons_zero]; rfl)
      case hy15 => refine Or.inl ⟨by rfl, ?_⟩; intro w hSw; (try dsimp only at hSw); go_simp <;> with_reducible rfl
      case hQ15 => exact fun _ _ _ h => h
      try simp only [Act.put, List.setIfInBounds_toArray, List.set_cons_zero, List.set_cons_succ]
      refine wpAnyH_ready (rs := [16]) (by kernel_rfl) (by simp) ?_
      refine AllReadyH.cons rfl (fun KK hKK => ?_) ?_
      · go_simp
        go_at_call 56
        refine (hasCiphers_any p q g A n k0 l _ HGB.out (ha.ext (E.trans (by repeat (first | with_reducible assumption | with_reducible exact Ext.refl _ | with_reducible apply Ext.alloc | with_reducible apply Ext.drew | with_reducible apply Ext.drewN)))) HL.out hn).mono ?_
        rintro ek wk16 ⟨hek, hbk16⟩
        rw [HCI.out] at hek; subst hek
        have hxk16 := Ext.trans (w := Wb) (by repeat (first | with_reducible assumption | with_reducible exact Ext.refl _ | with_reducible apply Ext.alloc | with_reducible apply Ext.drew | with_reducible apply Ext.drewN)) hbk16
        refine hKK.out _ _ ?_ (fun hHeld => ?_)
        · exact hS _ (by repeat (first | with_reducible assumption | with_reducible exact Ext.refl _ | with_reducible apply Ext.alloc | with_reducible apply Ext.drew | with_reducible apply Ext.drewN))
        clear hKK KK
        try simp only [Act.put, List.setIfInBounds_toArray, List.set_cons_zero, List.set_cons_succ]
        refine' wpAnyH_take (i := 17) (v := _) ?hi17 (by kernel_rfl) (by kernel_rfl) (by kernel_rfl) ?hQ17 ?hy17 (by assumption) ?_
        case hi17 => (simp only [List.getElem?_toArray, List.getElem?_cons_succ, List.getElem?_cons_zero]; rfl)
        case hy17 => refine Or.inl ⟨by rfl, ?_⟩; intro w hSw; (try dsimp only at hSw); go_simp <;> with_reducible rfl
        case hQ17 => exact fun _ _ _ h => h
        try simp only [Act.put, List.setIfInBounds_toArray, List.set_cons_zero, List.set_cons_succ]
        refine' wpAnyH_take (i := 18) (v := _) ?hi18 (by kernel_rfl) (by kernel_rfl) (by kernel_rfl) ?hQ18 ?hy18 (by assumption) ?_
        case hi18 => (simp only [List.getElem?_toArray, List.getElem?_cons_succ, List.getElem?_cons_zero]; rfl)
        case hy18 => refine Or.inl ⟨by rfl, ?_⟩; intro w hSw; (try dsimp only at hSw); go_simp <;> with_reducible rfl
        case hQ18 => exact fun _ _ _ h => h
        try simp only [Act.put, List.setIfInBounds_toArray, List.set_cons_zero, List.set_cons_succ]
        refine wpAnyH_done (by kernel_rfl) ?_ _
        replace E := E.trans hxk16
        replace B0 := B0.ext hxk16
        replace B1 := B1.ext hxk16
        replace B2 := B2.ext hxk16
        replace B3 := B3.ext hxk16
        generalize wk16 = w1 at *
        clear hS
        have hz1 := B3.lt
        have E1 := E.alloc (.cells #[.int .i64 1, .int .i64 1] 35)
        have B01 := B0.alloc (.cells #[.int .i64 1, .int .i64 1] 35)
        have B11 := B1.alloc (.cells #[.int .i64 1, .int .i64 1] 35)
        have B21 := B2.alloc (.cells #[.int .i64 1, .int .i64 1] 35)
        have B31 := B3.alloc (.cells #[.int .i64 1, .int .i64 1] 35)
        have B41 := Blk.new w1 35 #[.int .i64 1, .int .i64 1]
        have C0 := B0.cells
        have CC2 := B21.cells
        obtain ⟨t0, ht0⟩ : ∃ t0, (if a = 2 then f else 1) = t0 := ⟨_, rfl⟩
        have hb0 : 0 ≤ t0 ∧ t0 ≤ 1000 := by rw [← ht0]; split <;> omega
        have HT0 := Lib.hid ht0
        obtain ⟨t, htt⟩ : ∃ t, t0 + 1 = t := ⟨_, rfl⟩
        have hbt : 1 ≤ t ∧ t ≤ 1001 := by omega
        have hwr : IntKind.i64.wrap (t0 + 1) = t := by rw [htt]; rw [IntKind.wrap_i64]; omega
        have HMV : Hid ((mxF p q t l).1 = mcV p q a f l) := by show _ = _; rw [← HMX.out, ht0, htt]
        clear htt ht0 HMX
        go_wp2
        generalize w1.heap.size = gz at *
        generalize w1.alloc (.cells #[.int .i64 1, .int .i64 1] 35) = w2 at *
        clear B0 B1 B2 B3 E C0 CC2
        have hp9 := HGB.out.p2
        have hq9 := HGB.out.q2
        go_loopw [9, 36] (fun ee i wr => ∃ (j : Nat) (ev : Int), j ≤ n ∧ i = .int .i64 j ∧ ee = .int .i64 ev ∧ ev = (mxF p q t (l.take j)).2 ∧ Blk wr w.heap.size 38 #[.int .i64 p, .int .i64 q, .int .i64 g] ∧ Blk wr (w.heap.size + 1) 40 #[.int .i64 a, .int .i64 b, .int .i64 c, .int .i64 d, .int .i64 f] ∧ Blk wr (w.heap.size + 1 + 1 + 1) 35 #[.int .i64 0, .int .i64 0] ∧ Blk wr gz 35 #[.int .i64 (mxF p q t (l.take j)).1.1, .int .i64 (mxF p q t (l.take j)).1.2] ∧ Ext w wr) (fun _ i _ => n - (intOf i).toNat)
        case atStart => exact ⟨0, 1, Nat.zero_le _, rfl, rfl, rfl, B01, B11, B31, B41, E1⟩
        case round =>
          clear B01 B11 B21 B31 B41 E1
          obtain ⟨j, ev, hj, rfl, rfl, hev, B0, B1, B3, B4, E⟩ := hrel
          by_cases hlt : j < n
          · have hlt' : j < l.length := by rw [HL.out]; exact hlt
            obtain ⟨ad, rfl, hc, hd⟩ := (ha.ext E).at_ hlt'
            have hx := HRG.out _ (List.getElem_mem hlt')
            have ho := mxF_rg (b := t) HGB.out hq2 hp2 (l.take j)
            have hs1 := mxF_take (p := p) (q := q) (b := t) hlt'
            generalize l[j] = x at *
            obtain ⟨x1, x2⟩ := x
            generalize mxF p q t (l.take j) = o at *
            obtain ⟨⟨o1, o2⟩, ev'⟩ := o
            simp only at hc hd hx ho B4 hs1 hev
            subst hev
            have hm0 : 0 ≤ ev * t := Int.mul_nonneg (by omega) (by omega)
            have hm1 : ev * t ≤ 4000000000 * 1001 := Int.mul_le_mul (by omega) (by omega) (by omega) (by omega)
            obtain ⟨em, hem⟩ : ∃ em, ev * t = em := ⟨_, rfl⟩
            have hwr2 : IntKind.i64.wrap (ev * t) = em := by rw [hem]; rw [IntKind.wrap_i64]; omega
            have HSE : Hid (em % q = (mxStep p q t ((o1, o2), ev) (x1, x2)).2) := by show _ = _; rw [← hem]; rfl
            rw [hem] at hm0 hm1
            have HS := Lib.hid hs1
            have g1 := gpw_rgp (x := x1) (e := ev) HGB.out
            have g2 := gpw_rgp (x := x2) (e := ev) HGB.out
            clear hs1 hem
            have hW := (Ext.refl wr).alloc (.cells #[.int .i64 x1, .int .i64 x2] 35)
            have B6 := Blk.new wr 35 #[.int .i64 x1, .int .i64 x2]
            have hS7 : ∀ V, Ext (wr.alloc (.cells #[.int .i64 x1, .int .i64 x2] 35)) V → V.cell? ⟨w.heap.size, 0, none⟩ = some (.int .i64 p) ∧ V.cell? ⟨w.heap.size, 1, none⟩ = some (.int .i64 q) ∧ V.cell? ⟨w.heap.size, 2, none⟩ = some (.int .i64 g) ∧ V.cell? ⟨w.heap.size + 1, 0, none⟩ = some (.int .i64 a) ∧ V.cell? ⟨w.heap.size + 1, 1, none⟩ = some (.int .i64 b) ∧ V.cell? ⟨w.heap.size + 1, 2, none⟩ = some (.int .i64 c) ∧ V.cell? ⟨w.heap.size + 1, 3, none⟩ = some (.int .i64 d) ∧ V.cell? ⟨w.heap.size + 1, 4, none⟩ = some (.int .i64 f) ∧ V.cell? ⟨gz, 0, none⟩ = some (.int .i64 o1) ∧ V.cell? ⟨gz, 1, none⟩ = some (.int .i64 o2) ∧ V.cell? ⟨wr.heap.size, 0, none⟩ = some (.int .i64 x1) ∧ V.cell? ⟨wr.heap.size, 1, none⟩ = some (.int .i64 x2) := fun V hV => by
              have a0 := (B0.ext (hW.trans hV)).cells
              have a1 := (B1.ext (hW.trans hV)).cells
              have a4 := (B4.ext (hW.trans hV)).cells
              have a6 := (B6.ext hV).cells
              exact ⟨a0 0, a0 1, a0 2, a1 0, a1 1, a1 2, a1 3, a1 4, a4 0, a4 1, a6 0, a6 1⟩
            have HFx : Hid (∀ V, Ext (wr.alloc (.cells #[.int .i64 x1, .int .i64 x2] 35)) V → V.frozen? ⟨gz, 0, none⟩ = false ∧ V.frozen? ⟨gz, 1, none⟩ = false) := fun V hV => by
              have a4 := (B4.ext (hW.trans hV)).frozen
              exact ⟨a4 0, a4 1⟩
            have HFin : Hid (∀ V (y1 y2 : Int), Ext (wr.alloc (.cells #[.int .i64 x1, .int .i64 x2] 35)) V → Blk ((V.setCell ⟨gz, 0, none⟩ (.int .i64 y1)).setCell ⟨gz, 1, none⟩ (.int .i64 y2)) w.heap.size 38 #[.int .i64 p, .int .i64 q, .int .i64 g] ∧ Blk ((V.setCell ⟨gz, 0, none⟩ (.int .i64 y1)).setCell ⟨gz, 1, none⟩ (.int .i64 y2)) (w.heap.size + 1) 40 #[.int .i64 a, .int .i64 b, .int .i64 c, .int .i64 d, .int .i64 f] ∧ Blk ((V.setCell ⟨gz, 0, none⟩ (.int .i64 y1)).setCell ⟨gz, 1, none⟩ (.int .i64 y2)) (w.heap.size + 1 + 1 + 1) 35 #[.int .i64 0, .int .i64 0] ∧ Blk ((V.setCell ⟨gz, 0, none⟩ (.int .i64 y1)).setCell ⟨gz, 1, none⟩ (.int .i64 y2)) gz 35 #[.int .i64 y1, .int .i64 y2] ∧ Ext w ((V.setCell ⟨gz, 0, none⟩ (.int .i64 y1)).setCell ⟨gz, 1, none⟩ (.int .i64 y2))) := fun V y1 y2 h9 => by
              have hV := hW.trans h9
              exact ⟨((B0.ext hV).far (p := ⟨gz, 0, none⟩) (by simp; omega) _).far (p := ⟨gz, 1, none⟩) (by simp; omega) _, ((B1.ext hV).far (p := ⟨gz, 0, none⟩) (by simp; omega) _).far (p := ⟨gz, 1, none⟩) (by simp; omega) _, ((B3.ext hV).far (p := ⟨gz, 0, none⟩) (by simp; omega) _).far (p := ⟨gz, 1, none⟩) (by simp; omega) _, ((B4.ext hV).set_ 0 _).set_ 1 _, ((E.trans hV).setCell (p := ⟨gz, 0, none⟩) (by simp; omega) _).setCell (p := ⟨gz, 1, none⟩) (by simp; omega) _⟩
            have CC0 := B0.cells
            have CC4 := B4.cells
            go_wp2
            refine wp_region_heldL (S := fun V => V.cell? ⟨w.heap.size, 0, none⟩ = some (.int .i64 p) ∧ V.cell? ⟨w.heap.size, 1, none⟩ = some (.int .i64 q) ∧ V.cell? ⟨w.heap.size, 2, none⟩ = some (.int .i64 g) ∧ V.cell? ⟨w.heap.size + 1, 0, none⟩ = some (.int .i64 a) ∧ V.cell? ⟨w.heap.size + 1, 1, none⟩ = some (.int .i64 b) ∧ V.cell? ⟨w.heap.size + 1, 2, none⟩ = some (.int .i64 c) ∧ V.cell? ⟨w.heap.size + 1, 3, none⟩ = some (.int .i64 d) ∧ V.cell? ⟨w.heap.size + 1, 4, none⟩ = some (.int .i64 f) ∧ V.cell? ⟨gz, 0, none⟩ = some (.int .i64 o1) ∧ V.cell? ⟨gz, 1, none⟩ = some (.int .i64 o2) ∧ V.cell? ⟨wr.heap.size, 0, none⟩ = some (.int .i64 x1) ∧ V.cell? ⟨wr.heap.size, 1, none⟩ = some (.int .i64 x2)) 14 (by kernel_rfl) ?_ (fun hHeld => ?_)
            · exact hS7 _ (by repeat (first | with_reducible assumption | with_reducible exact Ext.refl _ | with_reducible apply Ext.alloc | with_reducible apply Ext.drew | with_reducible apply Ext.drewN))
            refine' wpAnyL_take (i := 0) (v := _) ?hi0 (by kernel_rfl) (by kernel_rfl) (by kernel_rfl) [14] (by kernel_rfl) ?hQ0 ?hy0 (by assumption) ?_
            case hi0 => (simp only [List.getElem?_toArray, List.getElem?_cons_zero]; rfl)
            case hy0 => refine Or.inl ⟨by rfl, ?_⟩; intro w hSw; (try dsimp only at hSw); go_simp <;> with_reducible rfl
            case hQ0 => exact fun _ _ _ h => h
            try simp only [Act.put, List.setIfInBounds_toArray, List.set_cons_zero, List.set_cons_succ]
            refine' wpAnyL_take (i := 1) (v := _) ?hi1 (by kernel_rfl) (by kernel_rfl) (by kernel_rfl) [14] (by kernel_rfl) ?hQ1 ?hy1 (by assumption) ?_
            case hi1 => (simp only [List.getElem?_toArray, List.getElem?_cons_succ, List.getElem?_cons_zero]; rfl)
            case hy1 => refine Or.inl ⟨by rfl, ?_⟩; intro w hSw; (try dsimp only at hSw); go_simp <;> with_reducible rfl
            case hQ1 => exact fun _ _ _ h => h
            try simp only [Act.put, List.setIfInBounds_toArray, List.set_cons_zero, List.set_cons_succ]
            refine' wpAnyL_take (i := 2) (v := _) ?hi2 (by kernel_rfl) (by kernel_rfl) (by kernel_rfl) [14] (by kernel_rfl) ?hQ2 ?hy2 (by assumption) ?_
            case hi2 => (simp only [List.getElem?_toArray, List.getElem?_cons_succ, List.getElem?_cons_zero]; rfl)
            case hy2 => refine Or.inl ⟨by rfl, ?_⟩; intro w hSw; (try dsimp only at hSw); go_simp <;> with_reducible rfl
            case hQ2 => exact fun _ _ _ h => h
            try simp only [Act.put, List.setIfInBounds_toArray, List.set_cons_zero, List.set_cons_succ]
            refine' wpAnyL_take (i := 3) (v := _) ?hi3 (by kernel_rfl) (by kernel_rfl) (by kernel_rfl) [14] (by kernel_rfl) ?hQ3 ?hy3 (by assumption) ?_
            case hi3 => (simp only [List.getElem?_toArray, List.getElem?_cons_succ, List.getElem?_cons_zero]; rfl)
            case hy3 => refine Or.inl ⟨by rfl, ?_⟩; intro w hSw; (try dsimp only at hSw); go_simp <;> with_reducible rfl
            case hQ3 => exact fun _ _ _ h => h
            try simp only [Act.put, List.setIfInBounds_toArray, List.set_cons_zero, List.set_cons_succ]
            refine' wpAnyL_take (i := 4) (v := _) ?hi4 (by kernel_rfl) (by kernel_rfl) (by kernel_rfl) [14] (by kernel_rfl) ?hQ4 ?hy4 (by assumption) ?_
            case hi4 => (simp only [List.getElem?_toArray, List.getElem?_cons_succ, List.getElem?_cons_zero]; rfl)
            case hy4 => refine Or.inl ⟨by rfl, ?_⟩; intro w hSw; (try dsimp only at hSw); go_simp <;> with_reducible rfl
            case hQ4 => exact fun _ _ _ h => h
            try simp only [Act.put, List.setIfInBounds_toArray, List.set_cons_zero, List.set_cons_succ]
            refine' wpAnyL_take (i := 7) (v := _) ?hi7 (by kernel_rfl) (by kernel_rfl) (by kernel_rfl) [13, 14] (by kernel_rfl) ?hQ7 ?hy7 (by assumption) ?_
            case hi7 => (simp only [List.getElem?_toArray, List.getElem?_cons_succ, List.getElem?_cons_zero]; rfl)
            case hy7 => refine Or.inl ⟨by rfl, ?_⟩; intro w hSw; (try dsimp only at hSw); go_simp <;> with_reducible rfl
            case hQ7 => exact fun _ _ _ h => h
            try simp only [Act.put, List.setIfInBounds_toArray, List.set_cons_zero, List.set_cons_succ]
            refine' wpAnyL_take (i := 8) (v := _) ?hi8 (by kernel_rfl) (by kernel_rfl) (by kernel_rfl) [12, 13, 14] (by kernel_rfl) ?hQ8 ?hy8 (by assumption) ?_
            case hi8 => (simp only [List.getElem?_toArray, List.getElem?_cons_succ, List.getElem?_cons_zero]; rfl)
            case hy8 => refine Or.inl ⟨by rfl, ?_⟩; intro w hSw; (try dsimp only at hSw); go_simp <;> with_reducible rfl
            case hQ8 => exact fun _ _ _ h => h
            try simp only [Act.put, List.setIfInBounds_toArray, List.set_cons_zero, List.set_cons_succ]
            refine' wpAnyL_take (i := 9) (v := _) ?hi9 (by kernel_rfl) (by kernel_rfl) (by kernel_rfl) [10, 13, 14] (by kernel_rfl) ?hQ9 ?hy9 (by assumption) ?_
            case hi9 => (simp only [List.getElem?_toArray, List.getElem?_cons_succ, List.getElem?_cons_zero]; rfl)
            case hy9 => refine Or.inl ⟨by rfl, ?_⟩; intro w hSw; (try dsimp only at hSw); go_simp <;> with_reducible rfl
            case hQ9 => exact fun _ _ _ h => h
            try simp only [Act.put, List.setIfInBounds_toArray, List.set_cons_zero, List.set_cons_succ]
            refine wpAnyL_ready (rs := [5]) (by kernel_rfl) (by simp) ?_
            refine AllReadyL.cons rfl (by kernel_rfl) (fun KK hKK => ?_) ?_
            · go_simp
              go_at_call 58
              refine (powCipher_any p q g x1 x2 ev _ HGB.out hx.1 hx.2 (by omega)).mono ?_
              rintro ek wk5 ⟨rfl, hbk5⟩
              have hxk5 := Ext.trans (w := (wr.alloc (.cells #[.int .i64 x1, .int .i64 x2] 35))) (by repeat (first | with_reducible assumption | with_reducible exact Ext.refl _ | with_reducible apply Ext.alloc | with_reducible apply Ext.drew | with_reducible apply Ext.drewN)) hbk5
              refine hKK.out _ _ ?_ (fun hHeld => ?_)
              · exact hS7 _ (by repeat (first | with_reducible assumption | with_reducible exact Ext.refl _ | with_reducible apply Ext.alloc | with_reducible apply Ext.drew | with_reducible apply Ext.drewN))
              clear hKK KK
              try simp only [Act.put, List.setIfInBounds_toArray, List.set_cons_zero, List.set_cons_succ]
              refine wpAnyL_ready (rs := [6]) (by kernel_rfl) (by simp) ?_
              refine AllReadyL.cons rfl (by kernel_rfl) (fun KK hKK => ?_) ?_
              · go_simp
                go_at_call 57
                refine (mulTwo_any p q g o1 o2 (gpw p q x1 ev) (gpw p q x2 ev) _ HGB.out (by omega) (by omega) (by omega) (by omega)).mono ?_
                rintro ek wk6 ⟨rfl, hbk6⟩
                have hxk6 := Ext.trans (w := (wr.alloc (.cells #[.int .i64 x1, .int .i64 x2] 35))) (by repeat (first | with_reducible assumption | with_reducible exact Ext.refl _ | with_reducible apply Ext.alloc | with_reducible apply Ext.drew | with_reducible apply Ext.drewN)) hbk6
                refine hKK.out _ _ ?_ (fun hHeld => ?_)
                · exact hS7 _ (by repeat (first | with_reducible assumption | with_reducible exact Ext.refl _ | with_reducible apply Ext.alloc | with_reducible apply Ext.drew | with_reducible apply Ext.drewN))
                clear hKK KK
                try simp only [Act.put, List.setIfInBounds_toArray, List.set_cons_zero, List.set_cons_succ]
                refine wpAnyL_ready (rs := [10]) (by kernel_rfl) (by simp) ?_
                refine AllReadyL.cons rfl (by kernel_rfl) (fun KK hKK => ?_) ?_
                · go_simp
                  go_at_call 60
                  refine (most_any a b c d f _).mono ?_
                  rintro ek wk10 ⟨hek, hbk10⟩
                  rw [HT0.out] at hek; subst hek
                  have hxk10 := Ext.trans (w := (wr.alloc (.cells #[.int .i64 x1, .int .i64 x2] 35))) (by repeat (first | with_reducible assumption | with_reducible exact Ext.refl _ | with_reducible apply Ext.alloc | with_reducible apply Ext.drew | with_reducible apply Ext.drewN)) hbk10
                  refine hKK.out _ _ ?_ (fun hHeld => ?_)
                  · exact hS7 _ (by repeat (first | with_reducible assumption | with_reducible exact Ext.refl _ | with_reducible apply Ext.alloc | with_reducible apply Ext.drew | with_reducible apply Ext.drewN))
                  clear hKK KK
                  try simp only [Act.put, List.setIfInBounds_toArray, List.set_cons_zero, List.set_cons_succ]
                  refine' wpAnyL_take (i := 11) (v := _) ?hi11 (by kernel_rfl) (by kernel_rfl) (by kernel_rfl) [12, 13, 14] (by kernel_rfl) ?hQ11 ?hy11 (by assumption) ?_
                  case hi11 => (simp only [List.getElem?_toArray, List.getElem?_cons_succ, List.getElem?_cons_zero]; rfl)
                  case hy11 => refine Or.inl ⟨by rfl, ?_⟩; intro w hSw; (try dsimp only at hSw); go_simp <;> with_reducible rfl
                  case hQ11 => exact fun _ _ _ h => h
                  try simp only [Act.put, List.setIfInBounds_toArray, List.set_cons_zero, List.set_cons_succ]
                  refine' wpAnyL_take (i := 12) (v := _) ?hi12 (by kernel_rfl) (by kernel_rfl) (by kernel_rfl) [13, 14] (by kernel_rfl) ?hQ12 ?hy12 (by assumption) ?_
                  case hi12 => (simp only [List.getElem?_toArray, List.getElem?_cons_succ, List.getElem?_cons_zero]; rfl)
                  case hy12 => refine Or.inl ⟨by rfl, ?_⟩; intro w hSw; (try dsimp only at hSw); go_simp <;> with_reducible rfl
                  case hQ12 => exact fun _ _ _ h => h
                  try simp only [Act.put, List.setIfInBounds_toArray, List.set_cons_zero, List.set_cons_succ]
                  refine wpAnyL_ready (rs := [13]) (by kernel_rfl) (by simp) ?_
                  refine AllReadyL.cons rfl (by kernel_rfl) (fun KK hKK => ?_) ?_
                  · go_simp
                    go_at_call 59
                    refine (exp_any p q g em _ HGB.out (by omega) (by omega)).mono ?_
                    rintro ek wk13 ⟨rfl, hbk13⟩
                    have hxk13 := Ext.trans (w := (wr.alloc (.cells #[.int .i64 x1, .int .i64 x2] 35))) (by repeat (first | with_reducible assumption | with_reducible exact Ext.refl _ | with_reducible apply Ext.alloc | with_reducible apply Ext.drew | with_reducible apply Ext.drewN)) hbk13
                    refine hKK.out _ _ ?_ (fun hHeld => ?_)
                    · exact hS7 _ (by repeat (first | with_reducible assumption | with_reducible exact Ext.refl _ | with_reducible apply Ext.alloc | with_reducible apply Ext.drew | with_reducible apply Ext.drewN))
                    clear hKK KK
                    try simp only [Act.put, List.setIfInBounds_toArray, List.set_cons_zero, List.set_cons_succ]
                    refine wpAnyL_ready (rs := [14]) (by kernel_rfl) (by simp) ?_
                    refine AllReadyL.last rfl (by kernel_rfl) (fun KK hKK => ?_) ?_
                    · obtain ⟨ff0, ff1⟩ := HFx.out _ hxk13
                      obtain ⟨c0, c1, c2, c3, c4, c5, c6, c7, c8, c9, c10, c11⟩ := hS7 _ hxk13
                      go_simp
                      refine hKK.out _ _ ?_
                      clear hKK KK
                      try simp only [Act.put, List.setIfInBounds_toArray, List.set_cons_zero, List.set_cons_succ]
                      refine' wpAny_take (i := 15) (v := _) ?hi15 (by kernel_rfl) (by kernel_rfl) (by kernel_rfl) ?hQ15 ?hy15 ?_
                      case hi15 => (simp only [List.getElem?_toArray, List.getElem?_cons_succ, List.getElem?_cons_zero]; rfl)
                      case hy15 => refine Or.inl ⟨by rfl, ?_⟩; intro w; go_simp <;> with_reducible rfl
                      case hQ15 => exact fun _ _ _ h => h
                      try simp only [Act.put, List.setIfInBounds_toArray, List.set_cons_zero, List.set_cons_succ]
                      refine wpAny_done (by kernel_rfl) ?_ _
                      go_wp2
                      go_roundw
                      case rel => exact ⟨j + 1, em % q, by omega, by go_num, rfl, by rw [HS.out]; exact HSE.out, by have h9 := HFin.out _ (gmul p [o1, gpw p q x1 ev]) (gmul p [o2, gpw p q x2 ev]) hxk13; rw [HS.out]; exact h9⟩
                      case measure => first | (simp [intOf]; done) | (simp [intOf]; omega)
                    exact AllReadyL.nil
                  exact AllReadyL.nil
                exact AllReadyL.nil
              exact AllReadyL.nil
            exact AllReadyL.nil
          · obtain rfl : j = n := by omega
            have hlj : j = l.length := HL.out.symm
            rw [hlj, List.take_length] at B4
            have CC := B4.cells
            have FF := B3.frozen
            have CC3 := B3.cells
            clear hlj hev
            go_wp2
            refine ret_ciB (a := (mxF p q t l).1.1) (b := (mxF p q t l).1.2) (k := true) ((B3.set_ 0 (.int .i64 (mxF p q t l).1.1)).set_ 1 (.int .i64 (mxF p q t l).1.2)) rfl rfl rfl ?_
            exact ⟨by rw [HR.out, HB.out, HMV.out], E.then (below_two (g := w.heap.size + 1 + 1 + 1) _ _ _) (by omega)⟩
      exact AllReadyH.nil
    exact AllReadyH.nil
  exact AllReadyH.nil
end
end Go.Proofs.Ytpfccboighdcbaa

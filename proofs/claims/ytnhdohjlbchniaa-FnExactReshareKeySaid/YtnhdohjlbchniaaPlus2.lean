/- A contract for the reference's sum of a key and dealings. (Printed by tools/gen_plus.py.) -/
import Derived.Test.YtnhdohjlbchniaaProg
import Derived.Test.YtnhdohjlbchniaaPlus
import Derived.Test.YtnhdohjlbchniaaSum2
namespace Go.Proofs.Ytnhdohjlbchniaa
open Go.RowKit

set_option maxRecDepth 100000 in
set_option maxHeartbeats 4000000 in
theorem rShared_any (A : Option Addr) (n c : Nat) (B : Option Addr) (m d : Nat) (l k : List Int) (w : World) (ha : SlI w A n c l) (hb : SlI w B m d k) (hn : n ≤ 100000) (hm : m ≤ 100000) :
    Calls Try.prog 36 #[.agg #[.slice A n c, .slice B m d]] w fun en w' => ∃ A' c' B' d', en = .returned (.agg #[.slice A' n c', .slice B' m d']) ∧ OwnK w' w.heap.size A' n c' B' m d' l k ∧ Ext w w' := by
  have E := (((Ext.refl w).alloc (.cells #[.slice A n c, .slice B m d] 68)).alloc (.cells #[.slice none 0 0, .slice none 0 0] 28))
  have B0 := ((Blk.new w 68 #[.slice A n c, .slice B m d]).alloc (.cells #[.slice none 0 0, .slice none 0 0] 28))
  have B1 := (Blk.new (w.alloc (.cells #[.slice A n c, .slice B m d] 68)) 28 #[.slice none 0 0, .slice none 0 0])
  simp only [World.size_alloc] at B1
  have hwz := E.size
  have hlt := B1.lt
  go_enter Try.func36, Try.ntmps36
  go_wp2
  generalize ((w.alloc (.cells #[.slice A n c, .slice B m d] 68)).alloc (.cells #[.slice none 0 0, .slice none 0 0] 28)) = Wb at *
  have hS : ∀ V, Ext w V → Ext Wb V → V.cell? ⟨w.heap.size, 0, none⟩ = some (.slice A n c) ∧ V.cell? ⟨w.heap.size, 1, none⟩ = some (.slice B m d) := fun V _ hV => by
    have a0 := (B0.ext hV).cells
    exact ⟨a0 0, a0 1⟩
  have K0 := B0.cells
  have K1 := B0.drew.cells
  have hcl : ∀ V, Ext Wb V → Blk V (w.heap.size + 1) 28 #[.slice none 0 0, .slice none 0 0] := fun V hV => B1.ext hV
  go_region_law (first
      | (go_simp; go_at_call 71; first
          | (have hz := hx2; refine (l1Own_any B m d k _ (hb.rd.ext (Ext.trans E (Ext.trans hx2 (by repeat (first | with_reducible assumption | with_reducible exact Ext.refl _ | with_reducible apply Ext.alloc | with_reducible apply Ext.drew | with_reducible apply Ext.drewN))))) hb.len (by omega)).mono ?_; rintro en w3 ⟨A3, c3, rfl, o3, hb3⟩; have hh3 := Ext.trans (w := w2) (by repeat (first | with_reducible assumption | with_reducible exact Ext.refl _ | with_reducible apply Ext.alloc | with_reducible apply Ext.drew | with_reducible apply Ext.drewN)) hb3; have hx3 := hx2.trans hh3; have hl3 := o3.high; have o2 := o2.ext hh3; have B3 := hcl _ hx3; have F3 := B3.frozen; have C3 := B3.cells; have D3 := (B0.ext hx3).cells)
          | (refine (l1Own_any A n c l _ (ha.rd.ext (Ext.trans E (by repeat (first | with_reducible assumption | with_reducible exact Ext.refl _ | with_reducible apply Ext.alloc | with_reducible apply Ext.drew | with_reducible apply Ext.drewN)))) ha.len (by omega)).mono ?_; rintro en w2 ⟨A2, c2, rfl, o2, hb2⟩; have hx2 := Ext.trans (w := Wb) (by repeat (first | with_reducible assumption | with_reducible exact Ext.refl _ | with_reducible apply Ext.alloc | with_reducible apply Ext.drew | with_reducible apply Ext.drewN)) hb2; have lo2 := o2.low; have hz2 := hx2.size; have D2 := (B0.ext hx2).cells)
          | fail)
      | fail)
  all_goals
    have CZ := ((B3.set_ 0 (.slice A2 n c2)).set_ 1 (.slice A3 m c3)).cells
    go_wp2
    refine bodyPost_ret (v := .agg #[.slice A2 n c2, .slice A3 m c3]) (by simp [results, Try.results36, CZ, go_sem]) rfl ⟨A2, c2, A3, c3, rfl, (OwnK.mk (o2.more (by first | exact Nat.le_refl _ | omega | (simp; done) | (simp; omega))) (o3.more (by first | exact Nat.le_refl _ | omega | (simp; done) | (simp; omega))) (Apart.of_low lo2 (hl3.mono (by first | exact Nat.le_refl _ | omega | (simp; done) | (simp; omega))))).keepBlk B3 (by decide) (only_two _ _ _ _ _ _), (E.trans hx3).only1 (by first | exact Nat.le_refl _ | omega | (simp; done) | (simp; omega)) (only_two _ _ _ _ _ _)⟩
end Go.Proofs.Ytnhdohjlbchniaa

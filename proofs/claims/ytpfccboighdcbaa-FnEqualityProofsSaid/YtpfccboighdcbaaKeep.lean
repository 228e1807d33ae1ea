/- What is owned stays behind a store into a block of another kind. -/
import Derived.Test.YtpfccboighdcbaaProg
import Derived.Test.YtpfccboighdcbaaDl
namespace Go.Proofs.Ytpfccboighdcbaa
open Go.RowKit

theorem Blk.off_own {w : World} {g base e n c s : Nat} {t : TypeId} {cs : Array Value} {A : Option Addr} {xs : List Value} (h : Blk w g t cs) (ho : OwnW s w base e A n c xs) (hne : t ≠ e) : g ∉ fpI A := by
  intro hh
  obtain ⟨cur, hc⟩ := ho.block hh
  unfold Blk at h
  rw [h] at hc
  simp only [Option.some.injEq, Obj.cells.injEq] at hc
  exact hne hc.2.1
theorem OwnI.keepBlk {w : World} {g base n c : Nat} {t : TypeId} {cs : Array Value} {A : Option Addr} {l : List Int} (h : OwnI w base 3 A n c l) (hB : Blk w g t cs) (hne : t ≠ 3) {w' : World} (ho : Only [g] w w') : OwnI w' base 3 A n c l :=
  h.only ho fun b hb hb' => hB.off_own h.w hne (by simp at hb'; subst hb'; exact hb)
/-- Two cells of a block are stored. -/
theorem only_two (w : World) (g i j : Nat) (u v : Value) : Only [g] w ((w.setCell ⟨g, i, none⟩ u).setCell ⟨g, j, none⟩ v) :=
  ((Only.refl _ _).setCell (p := ⟨g, i, none⟩) (by simp) _).setCell (p := ⟨g, j, none⟩) (by simp) _
theorem Ext.setCellS {w w' : World} {p : Addr} {u : Value} (hp : w.heap.size ≤ p.block) (h : Ext w w') : Ext w (w'.setCell p u) := h.setCell hp u
theorem Ext.only1 {w w' w'' : World} {g : Nat} (h : Ext w w') (hg : w.heap.size ≤ g) (k : Only [g] w' w'') : Ext w w'' := h.only k fun b hb => by simp at hb; omega
end Go.Proofs.Ytpfccboighdcbaa

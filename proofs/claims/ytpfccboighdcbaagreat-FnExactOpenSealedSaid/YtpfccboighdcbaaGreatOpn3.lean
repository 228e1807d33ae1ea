/- Contracts for the program's OpenSealed. (Printed by tools/gen_opn2.py.) -/
import Derived.Test.YtpfccboighdcbaaGreatProg
import Derived.Test.YtpfccboighdcbaaGreatOpn
import Derived.Test.YtpfccboighdcbaaGreatMxc
import Derived.Test.YtpfccboighdcbaaGreatSea3
import Derived.Test.YtpfccboighdcbaaGreatHeldL
import Derived.Deep.CutRange
namespace Go.Proofs.YtpfccboighdcbaaGreat
open Go.RowKit
set_option linter.unusedVariables false
set_option linter.unusedSimpArgs false

theorem decI_some {a b c d f x : Int} (h : decG a b c d f x = true) : decR a b c d f x = some (decV a b f x.toNat) := by unfold decR; rw [h]; rfl
theorem decI_none {a b c d f x : Int} (h : decG a b c d f x = false) : decR a b c d f x = none := by unfold decR; rw [h]; rfl
theorem log_anyI (q g : Int) (P B X M : Nat) (N : Int) (w : World) (hN : N = (M : Int)) (h : GrpB P q) (hp : 2 ≤ P) (hb : B ≤ 3000000000) (hM : M ≤ 1000000) :
    Calls Tryz.prog 41 #[.agg #[.int .i64 (P : Int), .int .i64 q, .int .i64 g], .int .i64 (B : Int), .int .i64 (X : Int), .int .i64 N] w fun e w' => e = .returned (.int .i64 (lgOut (lgO P B X M))) ∧ Ext w w' := by
  subst hN
  exact log_any q g P B X M w h hp hb hM
set_option maxRecDepth 100000 in
set_option maxHeartbeats 20000000 in
theorem iOpenSealed_any (p q g x a b c d f v : Int) (A : Option Addr) (n k0 : Nat) (B : Option Addr) (m e : Nat) (C1 : Option Addr) (k1 f1 : Nat) (C2 : Option Addr) (k2 f2 : Nat) (C3 : Option Addr) (k3 f3 : Nat) (l : List (Int × Int)) (w : World) (ha : RdC w A l) (hl : l.length = n) (hn : n ≤ maxLen) (hx : Fits x) :
    Calls Tryz.prog 10 #[.agg #[.int .i64 p, .int .i64 q, .int .i64 g], .int .i64 x, .agg #[.int .i64 a, .int .i64 b, .int .i64 c, .int .i64 d, .int .i64 f], .agg #[.int .i64 v, .slice A n k0, .slice B m e, .slice C1 k1 f1, .slice C2 k2 f2, .slice C3 k3 f3]] w fun en w' => ResI 3 w (opR p q g x a b c d f l) en w' := by
  have HL := Lib.hid hl
  have hn9 : n ≤ 9223372036854775807 := by unfold maxLen at hn; omega
  clear hl
  have E := ((((Ext.refl w).alloc (.cells #[.int .i64 p, .int .i64 q, .int .i64 g] 36)).alloc (.cells #[.int .i64 a, .int .i64 b, .int .i64 c, .int .i64 d, .int .i64 f] 38)).alloc (.cells #[.int .i64 v, .slice A n k0, .slice B m e, .slice C1 k1 f1, .slice C2 k2 f2, .slice C3 k3 f3] 44))
  have B0 := (((Blk.new w 36 #[.int .i64 p, .int .i64 q, .int .i64 g]).alloc (.cells #[.int .i64 a, .int .i64 b, .int .i64 c, .int .i64 d, .int .i64 f] 38)).alloc (.cells #[.int .i64 v, .slice A n k0, .slice B m e, .slice C1 k1 f1, .slice C2 k2 f2, .slice C3 k3 f3] 44))
  have B1 := ((Blk.new (w.alloc (.cells #[.int .i64 p, .int .i64 q, .int .i64 g] 36)) 38 #[.int .i64 a, .int .i64 b, .int .i64 c, .int .i64 d, .int .i64 f]).alloc (.cells #[.int .i64 v, .slice A n k0, .slice B m e, .slice C1 k1 f1, .slice C2 k2 f2, .slice C3 k3 f3] 44))
  have B2 := (Blk.new ((w.alloc (.cells #[.int .i64 p, .int .i64 q, .int .i64 g] 36)).alloc (.cells #[.int .i64 a, .int .i64 b, .int .i64 c, .int .i64 d, .int .i64 f] 38)) 44 #[.int .i64 v, .slice A n k0, .slice B m e, .slice C1 k1 f1, .slice C2 k2 f2, .slice C3 k3 f3])
  simp only [World.size_alloc] at B1 B2
  cases h1 : seaB p q g a b c d f
  · have hog : opG p q g x a b c d f l = false := by unfold opG; rw [h1, Bool.false_and]
    have H1 := Lib.hid h1
    have HNO : Hid (opR p q g x a b c d f l = none) := by show _ = _; unfold opR; rw [hog, Bool.false_and]; rfl
    clear hog
    go_enter Tryz.func10, Tryz.ntmps10
    go_wp2_with fail
    generalize (((w.alloc (.cells #[.int .i64 p, .int .i64 q, .int .i64 g] 36)).alloc (.cells #[.int .i64 a, .int .i64 b, .int .i64 c, .int .i64 d, .int .i64 f] 38)).alloc (.cells #[.int .i64 v, .slice A n k0, .slice B m e, .slice C1 k1 f1, .slice C2 k2 f2, .slice C3 k3 f3] 44)) = Wb at *
    have hS : ∀ V, Ext Wb V → V.cell? ⟨w.heap.size, 0, none⟩ = some (.int .i64 p) ∧ V.cell? ⟨w.heap.size, 1, none⟩ = some (.int .i64 q) ∧ V.cell? ⟨w.heap.size, 2, none⟩ = some (.int .i64 g) ∧ V.cell? ⟨w.heap.size + 1, 0, none⟩ = some (.int .i64 a) ∧ V.cell? ⟨w.heap.size + 1, 1, none⟩ = some (.int .i64 b) ∧ V.cell? ⟨w.heap.size + 1, 2, none⟩ = some (.int .i64 c) ∧ V.cell? ⟨w.heap.size + 1, 3, none⟩ = some (.int .i64 d) ∧ V.cell? ⟨w.heap.size + 1, 4, none⟩ = some (.int .i64 f) ∧ V.cell? ⟨w.heap.size + 1 + 1, 1, none⟩ = some (.slice A n k0) := fun V hV => by
      have a0 := (B0.ext hV).cells
      have a1 := (B1.ext hV).cells
      have a2 := (B2.ext hV).cells
      exact ⟨a0 0, a0 1, a0 2, a1 0, a1 1, a1 2, a1 3, a1 4, a2 1⟩
    refine wp_region_held_drew (S := fun V => V.cell? ⟨w.heap.size, 0, none⟩ = some (.int .i64 p) ∧ V.cell? ⟨w.heap.size, 1, none⟩ = some (.int .i64 q) ∧ V.cell? ⟨w.heap.size, 2, none⟩ = some (.int .i64 g) ∧ V.cell? ⟨w.heap.size + 1, 0, none⟩ = some (.int .i64 a) ∧ V.cell? ⟨w.heap.size + 1, 1, none⟩ = some (.int .i64 b) ∧ V.cell? ⟨w.heap.size + 1, 2, none⟩ = some (.int .i64 c) ∧ V.cell? ⟨w.heap.size + 1, 3, none⟩ = some (.int .i64 d) ∧ V.cell? ⟨w.heap.size + 1, 4, none⟩ = some (.int .i64 f) ∧ V.cell? ⟨w.heap.size + 1 + 1, 1, none⟩ = some (.slice A n k0)) (by kernel_rfl) ?_ (fun hHeld => ?_)
    · exact hS _ (by repeat (first | with_reducible assumption | with_reducible exact Ext.refl _ | with_reducible apply Ext.alloc | with_reducible apply Ext.drew | with_reducible apply Ext.drewN))
    refine' wpAnyH_take (i := 0) (v := _) ?hi0 (by kernel_rfl) (by kernel_rfl) (by kernel_rfl) ?hQ0 ?hy0 (by assumption) ?_
    case hi0 => (simp only [List.getElem?_toArray, List.getElem?_cons_zero]; rfl)
    case hy0 => refine Or.inl ⟨by rfl, ?_⟩; intro w hSw; (try dsimp only at hSw); go_simp <;> with_reducible rfl
    case hQ0 => exact fun _ _ _ h => h
    try simp only [Act.put, List.setIfInBounds_toArray, List.set_cons_zero, List.set_cons_succ]
    refine' wpAnyH_take (i := 1) (v := _) ?hi1 (by kernel_rfl) (by kernel_rfl) (by kernel_rfl) ?hQ1 ?hy1 (by assumption) ?_
    case hi1 => (simp only [List.getElem?_toArray, List.getElem?_cons_succ, List.getElem?_cons_zero]; rfl)
    case hy1 => refine Or.inl ⟨by rfl, ?_⟩; intro w hSw; (try dsimp only at hSw); go_simp <;> with_reducible rfl
    case hQ1 => exact fun _ _ _ h => h
    try simp only [Act.put, List.setIfInBounds_toArray, List.set_cons_zero, List.set_cons_succ]
    refine wpAnyH_ready (rs := [2]) (by kernel_rfl) (by simp) ?_
    refine AllReadyH.cons rfl (fun KK hKK => ?_) ?_
    · go_simp
      go_at_call 37
      refine (iSea_any p q g a b c d f _).mono ?_
      rintro ek wk2 ⟨hek, hbk2⟩
      rw [H1.out] at hek; subst hek
      have hxk2 := Ext.trans (w := Wb) (by repeat (first | with_reducible assumption | with_reducible exact Ext.refl _ | with_reducible apply Ext.alloc | with_reducible apply Ext.drew | with_reducible apply Ext.drewN)) hbk2
      refine hKK.out _ _ ?_ (fun hHeld => ?_)
      · exact hS _ (by repeat (first | with_reducible assumption | with_reducible exact Ext.refl _ | with_reducible apply Ext.alloc | with_reducible apply Ext.drew | with_reducible apply Ext.drewN))
      clear hKK KK
      try simp only [Act.put, List.setIfInBounds_toArray, List.set_cons_zero, List.set_cons_succ]
      refine' wpAnyH_take (i := 3) (v := _) ?hi3 (by kernel_rfl) (by kernel_rfl) (by kernel_rfl) ?hQ3 ?hy3 (by assumption) ?_
      case hi3 => (simp only [List.getElem?_toArray, List.getElem?_cons_succ, List.getElem?_cons_zero]; rfl)
      case hy3 => refine Or.inl ⟨by rfl, ?_⟩; intro w hSw; (try dsimp only at hSw); go_simp <;> with_reducible rfl
      case hQ3 => exact fun _ _ _ h => h
      try simp only [Act.put, List.setIfInBounds_toArray, List.set_cons_zero, List.set_cons_succ]
      refine' wpAnyH_take (i := 4) (v := _) ?hi4 (by kernel_rfl) (by kernel_rfl) (by kernel_rfl) ?hQ4 ?hy4 (by assumption) ?_
      case hi4 => (simp only [List.getElem?_toArray, List.getElem?_cons_succ, List.getElem?_cons_zero]; rfl)
      case hy4 => refine Or.inl ⟨by rfl, ?_⟩; intro w hSw; (try dsimp only at hSw); go_simp <;> with_reducible rfl
      case hQ4 => exact fun _ _ _ h => h
      try simp only [Act.put, List.setIfInBounds_toArray, List.set_cons_zero, List.set_cons_succ]
      refine' wpAnyH_take (i := 5) (v := undef) ?hi5 (by kernel_rfl) (by kernel_rfl) (by kernel_rfl) ?hQ5 ?hy5 (by assumption) ?_
      case hi5 => (simp only [List.getElem?_toArray, List.getElem?_cons_succ, List.getElem?_cons_zero]; rfl)
      case hQ5 => exact fun _ _ _ h => h
      case hy5 => exact Or.inr ⟨by rfl, rfl⟩
      try simp only [Act.put, List.setIfInBounds_toArray, List.set_cons_zero, List.set_cons_succ]
      refine' wpAnyH_take (i := 6) (v := undef) ?hi6 (by kernel_rfl) (by kernel_rfl) (by kernel_rfl) ?hQ6 ?hy6 (by assumption) ?_
      case hi6 => (simp only [List.getElem?_toArray, List.getElem?_cons_succ, List.getElem?_cons_zero]; rfl)
      case hQ6 => exact fun _ _ _ h => h
      case hy6 => exact Or.inr ⟨by rfl, rfl⟩
      try simp only [Act.put, List.setIfInBounds_toArray, List.set_cons_zero, List.set_cons_succ]
      refine' wpAnyH_take (i := 7) (v := undef) ?hi7 (by kernel_rfl) (by kernel_rfl) (by kernel_rfl) ?hQ7 ?hy7 (by assumption) ?_
      case hi7 => (simp only [List.getElem?_toArray, List.getElem?_cons_succ, List.getElem?_cons_zero]; rfl)
      case hQ7 => exact fun _ _ _ h => h
      case hy7 => exact Or.inr ⟨by rfl, rfl⟩
      try simp only [Act.put, List.setIfInBounds_toArray, List.set_cons_zero, List.set_cons_succ]
      refine' wpAnyH_take (i := 8) (v := undef) ?hi8 (by kernel_rfl) (by kernel_rfl) (by kernel_rfl) ?hQ8 ?hy8 (by assumption) ?_
      case hi8 => (simp only [List.getElem?_toArray, List.getElem?_cons_succ, List.getElem?_cons_zero]; rfl)
      case hQ8 => exact fun _ _ _ h => h
      case hy8 => exact Or.inr ⟨by rfl, rfl⟩
      try simp only [Act.put, List.setIfInBounds_toArray, List.set_cons_zero, List.set_cons_succ]
      refine' wpAnyH_take (i := 9) (v := _) ?hi9 (by kernel_rfl) (by kernel_rfl) (by kernel_rfl) ?hQ9 ?hy9 (by assumption) ?_
      case hi9 => (simp only [List.getElem?_toArray, List.getElem?_cons_succ, List.getElem?_cons_zero]; rfl)
      case hy9 => refine Or.inl ⟨by rfl, ?_⟩; intro w hSw; (try dsimp only at hSw); go_simp <;> with_reducible rfl
      case hQ9 => exact fun _ _ _ h => h
      try simp only [Act.put, List.setIfInBounds_toArray, List.set_cons_zero, List.set_cons_succ]
      refine' wpAnyH_take (i := 10) (v := _) ?hi10 (by kernel_rfl) (by kernel_rfl) (by kernel_rfl) ?hQ10 ?hy10 (by assumption) ?_
      case hi10 => (simp only [List.getElem?_toArray, List.getElem?_cons_succ, List.getElem?_cons_zero]; rfl)
      case hy10 => refine Or.inl ⟨by rfl, ?_⟩; intro w hSw; (try dsimp only at hSw); go_simp <;> with_reducible rfl
      case hQ10 => exact fun _ _ _ h => h
      try simp only [Act.put, List.setIfInBounds_toArray, List.set_cons_zero, List.set_cons_succ]
      refine' wpAnyH_take (i := 11) (v := undef) ?hi11 (by kernel_rfl) (by kernel_rfl) (by kernel_rfl) ?hQ11 ?hy11 (by assumption) ?_
      case hi11 => (simp only [List.getElem?_toArray, List.getElem?_cons_succ, List.getElem?_cons_zero]; rfl)
      case hQ11 => exact fun _ _ _ h => h
      case hy11 => exact Or.inr ⟨by rfl, rfl⟩
      try simp only [Act.put, List.setIfInBounds_toArray, List.set_cons_zero, List.set_cons_succ]
      refine' wpAnyH_take (i := 12) (v := undef) ?hi12 (by kernel_rfl) (by kernel_rfl) (by kernel_rfl) ?hQ12 ?hy12 (by assumption) ?_
      case hi12 => (simp only [List.getElem?_toArray, List.getElem?_cons_succ, List.getElem?_cons_zero]; rfl)
      case hQ12 => exact fun _ _ _ h => h
      case hy12 => exact Or.inr ⟨by rfl, rfl⟩
      try simp only [Act.put, List.setIfInBounds_toArray, List.set_cons_zero, List.set_cons_succ]
      refine' wpAnyH_take (i := 13) (v := undef) ?hi13 (by kernel_rfl) (by kernel_rfl) (by kernel_rfl) ?hQ13 ?hy13 (by assumption) ?_
      case hi13 => (simp only [List.getElem?_toArray, List.getElem?_cons_succ, List.getElem?_cons_zero]; rfl)
      case hQ13 => exact fun _ _ _ h => h
      case hy13 => exact Or.inr ⟨by rfl, rfl⟩
      try simp only [Act.put, List.setIfInBounds_toArray, List.set_cons_zero, List.set_cons_succ]
      refine' wpAnyH_take (i := 14) (v := undef) ?hi14 (by kernel_rfl) (by kernel_rfl) (by kernel_rfl) ?hQ14 ?hy14 (by assumption) ?_
      case hi14 => (simp only [List.getElem?_toArray, List.getElem?_cons_succ, List.getElem?_cons_zero]; rfl)
      case hQ14 => exact fun _ _ _ h => h
      case hy14 => exact Or.inr ⟨by rfl, rfl⟩
      try simp only [Act.put, List.setIfInBounds_toArray, List.set_cons_zero, List.set_cons_succ]
      refine' wpAnyH_take (i := 15) (v := undef) ?hi15 (by kernel_rfl) (by kernel_rfl) (by kernel_rfl) ?hQ15 ?hy15 (by assumption) ?_
      case hi15 => (simp only [List.getElem?_toArray, List.getElem?_cons_succ, List.getElem?_cons_zero]; rfl)
      case hQ15 => exact fun _ _ _ h => h
      case hy15 => exact Or.inr ⟨by rfl, rfl⟩
      try simp only [Act.put, List.setIfInBounds_toArray, List.set_cons_zero, List.set_cons_succ]
      refine' wpAnyH_take (i := 16) (v := _) ?hi16 (by kernel_rfl) (by kernel_rfl) (by kernel_rfl) ?hQ16 ?hy16 (by assumption) ?_
      case hi16 => (simp only [List.getElem?_toArray, List.getElem?_cons_succ, List.getElem?_cons_zero]; rfl)
      case hy16 => refine Or.inl ⟨by rfl, ?_⟩; intro w hSw; (try dsimp only at hSw); go_simp <;> with_reducible rfl
      case hQ16 => exact fun _ _ _ h => h
      try simp only [Act.put, List.setIfInBounds_toArray, List.set_cons_zero, List.set_cons_succ]
      refine' wpAnyH_take (i := 17) (v := _) ?hi17 (by kernel_rfl) (by kernel_rfl) (by kernel_rfl) ?hQ17 ?hy17 (by assumption) ?_
      case hi17 => (simp only [List.getElem?_toArray, List.getElem?_cons_succ, List.getElem?_cons_zero]; rfl)
      case hy17 => refine Or.inl ⟨by rfl, ?_⟩; intro w hSw; (try dsimp only at hSw); go_simp <;> with_reducible rfl
      case hQ17 => exact fun _ _ _ h => h
      try simp only [Act.put, List.setIfInBounds_toArray, List.set_cons_zero, List.set_cons_succ]
      refine' wpAnyH_take (i := 18) (v := undef) ?hi18 (by kernel_rfl) (by kernel_rfl) (by kernel_rfl) ?hQ18 ?hy18 (by assumption) ?_
      case hi18 => (simp only [List.getElem?_toArray, List.getElem?_cons_succ, List.getElem?_cons_zero]; rfl)
      case hQ18 => exact fun _ _ _ h => h
      case hy18 => exact Or.inr ⟨by rfl, rfl⟩
      try simp only [Act.put, List.setIfInBounds_toArray, List.set_cons_zero, List.set_cons_succ]
      refine' wpAnyH_take (i := 19) (v := undef) ?hi19 (by kernel_rfl) (by kernel_rfl) (by kernel_rfl) ?hQ19 ?hy19 (by assumption) ?_
      case hi19 => (simp only [List.getElem?_toArray, List.getElem?_cons_succ, List.getElem?_cons_zero]; rfl)
      case hQ19 => exact fun _ _ _ h => h
      case hy19 => exact Or.inr ⟨by rfl, rfl⟩
      try simp only [Act.put, List.setIfInBounds_toArray, List.set_cons_zero, List.set_cons_succ]
      refine' wpAnyH_take (i := 20) (v := undef) ?hi20 (by kernel_rfl) (by kernel_rfl) (by kernel_rfl) ?hQ20 ?hy20 (by assumption) ?_
      case hi20 => (simp only [List.getElem?_toArray, List.getElem?_cons_succ, List.getElem?_cons_zero]; rfl)
      case hQ20 => exact fun _ _ _ h => h
      case hy20 => exact Or.inr ⟨by rfl, rfl⟩
      try simp only [Act.put, List.setIfInBounds_toArray, List.set_cons_zero, List.set_cons_succ]
      refine' wpAnyH_take (i := 21) (v := undef) ?hi21 (by kernel_rfl) (by kernel_rfl) (by kernel_rfl) ?hQ21 ?hy21 (by assumption) ?_
      case hi21 => (simp only [List.getElem?_toArray, List.getElem?_cons_succ, List.getElem?_cons_zero]; rfl)
      case hQ21 => exact fun _ _ _ h => h
      case hy21 => exact Or.inr ⟨by rfl, rfl⟩
      try simp only [Act.put, List.setIfInBounds_toArray, List.set_cons_zero, List.set_cons_succ]
      refine' wpAnyH_take (i := 22) (v := undef) ?hi22 (by kernel_rfl) (by kernel_rfl) (by kernel_rfl) ?hQ22 ?hy22 (by assumption) ?_
      case hi22 => (simp only [List.getElem?_toArray, List.getElem?_cons_succ, List.getElem?_cons_zero]; rfl)
      case hQ22 => exact fun _ _ _ h => h
      case hy22 => exact Or.inr ⟨by rfl, rfl⟩
      try simp only [Act.put, List.setIfInBounds_toArray, List.set_cons_zero, List.set_cons_succ]
      refine' wpAnyH_take (i := 23) (v := undef) ?hi23 (by kernel_rfl) (by kernel_rfl) (by kernel_rfl) ?hQ23 ?hy23 (by assumption) ?_
      case hi23 => (simp only [List.getElem?_toArray, List.getElem?_cons_succ, List.getElem?_cons_zero]; rfl)
      case hQ23 => exact fun _ _ _ h => h
      case hy23 => exact Or.inr ⟨by rfl, rfl⟩
      try simp only [Act.put, List.setIfInBounds_toArray, List.set_cons_zero, List.set_cons_succ]
      refine' wpAnyH_take (i := 24) (v := _) ?hi24 (by kernel_rfl) (by kernel_rfl) (by kernel_rfl) ?hQ24 ?hy24 (by assumption) ?_
      case hi24 => (simp only [List.getElem?_toArray, List.getElem?_cons_succ, List.getElem?_cons_zero]; rfl)
      case hy24 => refine Or.inl ⟨by rfl, ?_⟩; intro w hSw; (try dsimp only at hSw); go_simp <;> with_reducible rfl
      case hQ24 => exact fun _ _ _ h => h
      try simp only [Act.put, List.setIfInBounds_toArray, List.set_cons_zero, List.set_cons_succ]
      refine wpAnyH_done (by kernel_rfl) ?_ _
      go_wp2
      go_ret2
      exact ⟨none, 0, 0, by rw [HNO.out]; rfl, by rw [HNO.out]; exact OwnI.nil _ _ _, E.trans hxk2⟩
    exact AllReadyH.nil
  have H1 := Lib.hid h1
  have hgg : grpB p q g = true ∧ validCt a b c d f = true := by unfold seaB at h1; simp only [Bool.and_eq_true] at h1; exact ⟨h1.1, h1.2.1⟩
  obtain ⟨hgg, hvv⟩ := hgg
  have HGB := Lib.hid (grpB_in hgg).bd
  cases h2 : inR x 0 (q - 1)
  · have hog : opG p q g x a b c d f l = false := by unfold opG; rw [h2, Bool.false_and, Bool.and_false]
    have H2 := Lib.hid h2
    have HNO : Hid (opR p q g x a b c d f l = none) := by show _ = _; unfold opR; rw [hog, Bool.false_and]; rfl
    clear hog
    go_enter Tryz.func10, Tryz.ntmps10
    go_wp2_with fail
    generalize (((w.alloc (.cells #[.int .i64 p, .int .i64 q, .int .i64 g] 36)).alloc (.cells #[.int .i64 a, .int .i64 b, .int .i64 c, .int .i64 d, .int .i64 f] 38)).alloc (.cells #[.int .i64 v, .slice A n k0, .slice B m e, .slice C1 k1 f1, .slice C2 k2 f2, .slice C3 k3 f3] 44)) = Wb at *
    have hS : ∀ V, Ext Wb V → V.cell? ⟨w.heap.size, 0, none⟩ = some (.int .i64 p) ∧ V.cell? ⟨w.heap.size, 1, none⟩ = some (.int .i64 q) ∧ V.cell? ⟨w.heap.size, 2, none⟩ = some (.int .i64 g) ∧ V.cell? ⟨w.heap.size + 1, 0, none⟩ = some (.int .i64 a) ∧ V.cell? ⟨w.heap.size + 1, 1, none⟩ = some (.int .i64 b) ∧ V.cell? ⟨w.heap.size + 1, 2, none⟩ = some (.int .i64 c) ∧ V.cell? ⟨w.heap.size + 1, 3, none⟩ = some (.int .i64 d) ∧ V.cell? ⟨w.heap.size + 1, 4, none⟩ = some (.int .i64 f) ∧ V.cell? ⟨w.heap.size + 1 + 1, 1, none⟩ = some (.slice A n k0) := fun V hV => by
      have a0 := (B0.ext hV).cells
      have a1 := (B1.ext hV).cells
      have a2 := (B2.ext hV).cells
      exact ⟨a0 0, a0 1, a0 2, a1 0, a1 1, a1 2, a1 3, a1 4, a2 1⟩
    refine wp_region_held_drew (S := fun V => V.cell? ⟨w.heap.size, 0, none⟩ = some (.int .i64 p) ∧ V.cell? ⟨w.heap.size, 1, none⟩ = some (.int .i64 q) ∧ V.cell? ⟨w.heap.size, 2, none⟩ = some (.int .i64 g) ∧ V.cell? ⟨w.heap.size + 1, 0, none⟩ = some (.int .i64 a) ∧ V.cell? ⟨w.heap.size + 1, 1, none⟩ = some (.int .i64 b) ∧ V.cell? ⟨w.heap.size + 1, 2, none⟩ = some (.int .i64 c) ∧ V.cell? ⟨w.heap.size + 1, 3, none⟩ = some (.int .i64 d) ∧ V.cell? ⟨w.heap.size + 1, 4, none⟩ = some (.int .i64 f) ∧ V.cell? ⟨w.heap.size + 1 + 1, 1, none⟩ = some (.slice A n k0)) (by kernel_rfl) ?_ (fun hHeld => ?_)
    · exact hS _ (by repeat (first | with_reducible assumption | with_reducible exact Ext.refl _ | with_reducible apply Ext.alloc | with_reducible apply Ext.drew | with_reducible apply Ext.drewN))
    refine' wpAnyH_take (i := 0) (v := _) ?hi0 (by kernel_rfl) (by kernel_rfl) (by kernel_rfl) ?hQ0 ?hy0 (by assumption) ?_
    case hi0 => (simp only [List.getElem?_toArray, List.getElem?_cons_zero]; rfl)
    case hy0 => refine Or.inl ⟨by rfl, ?_⟩; intro w hSw; (try dsimp only at hSw); go_simp <;> with_reducible rfl
    case hQ0 => exact fun _ _ _ h => h
    try simp only [Act.put, List.setIfInBounds_toArray, List.set_cons_zero, List.set_cons_succ]
    refine' wpAnyH_take (i := 1) (v := _) ?hi1 (by kernel_rfl) (by kernel_rfl) (by kernel_rfl) ?hQ1 ?hy1 (by assumption) ?_
    case hi1 => (simp only [List.getElem?_toArray, List.getElem?_cons_succ, List.getElem?_cons_zero]; rfl)
    case hy1 => refine Or.inl ⟨by rfl, ?_⟩; intro w hSw; (try dsimp only at hSw); go_simp <;> with_reducible rfl
    case hQ1 => exact fun _ _ _ h => h
    try simp only [Act.put, List.setIfInBounds_toArray, List.set_cons_zero, List.set_cons_succ]
    refine wpAnyH_ready (rs := [2]) (by kernel_rfl) (by simp) ?_
    refine AllReadyH.cons rfl (fun KK hKK => ?_) ?_
    · go_simp
      go_at_call 37
      refine (iSea_any p q g a b c d f _).mono ?_
      rintro ek wk2 ⟨hek, hbk2⟩
      rw [H1.out] at hek; subst hek
      have hxk2 := Ext.trans (w := Wb) (by repeat (first | with_reducible assumption | with_reducible exact Ext.refl _ | with_reducible apply Ext.alloc | with_reducible apply Ext.drew | with_reducible apply Ext.drewN)) hbk2
      refine hKK.out _ _ ?_ (fun hHeld => ?_)
      · exact hS _ (by repeat (first | with_reducible assumption | with_reducible exact Ext.refl _ | with_reducible apply Ext.alloc | with_reducible apply Ext.drew | with_reducible apply Ext.drewN))
      clear hKK KK
      try simp only [Act.put, List.setIfInBounds_toArray, List.set_cons_zero, List.set_cons_succ]
      refine' wpAnyH_take (i := 3) (v := _) ?hi3 (by kernel_rfl) (by kernel_rfl) (by kernel_rfl) ?hQ3 ?hy3 (by assumption) ?_
      case hi3 => (simp only [List.getElem?_toArray, List.getElem?_cons_succ, List.getElem?_cons_zero]; rfl)
      case hy3 => refine Or.inl ⟨by rfl, ?_⟩; intro w hSw; (try dsimp only at hSw); go_simp <;> with_reducible rfl
      case hQ3 => exact fun _ _ _ h => h
      try simp only [Act.put, List.setIfInBounds_toArray, List.set_cons_zero, List.set_cons_succ]
      refine' wpAnyH_take (i := 4) (v := _) ?hi4 (by kernel_rfl) (by kernel_rfl) (by kernel_rfl) ?hQ4 ?hy4 (by assumption) ?_
      case hi4 => (simp only [List.getElem?_toArray, List.getElem?_cons_succ, List.getElem?_cons_zero]; rfl)
      case hy4 => refine Or.inl ⟨by rfl, ?_⟩; intro w hSw; (try dsimp only at hSw); go_simp <;> with_reducible rfl
      case hQ4 => exact fun _ _ _ h => h
      try simp only [Act.put, List.setIfInBounds_toArray, List.set_cons_zero, List.set_cons_succ]
      refine' wpAnyH_take (i := 5) (v := _) ?hi5 (by kernel_rfl) (by kernel_rfl) (by kernel_rfl) ?hQ5 ?hy5 (by assumption) ?_
      case hi5 => (simp only [List.getElem?_toArray, List.getElem?_cons_succ, List.getElem?_cons_zero]; rfl)
      case hy5 => refine Or.inl ⟨by rfl, ?_⟩; intro w hSw; (try dsimp only at hSw); go_simp <;> with_reducible rfl
      case hQ5 => exact fun _ _ _ h => h
      try simp only [Act.put, List.setIfInBounds_toArray, List.set_cons_zero, List.set_cons_succ]
      refine' wpAnyH_take (i := 6) (v := _) ?hi6 (by kernel_rfl) (by kernel_rfl) (by kernel_rfl) ?hQ6 ?hy6 (by assumption) ?_
      case hi6 => (simp only [List.getElem?_toArray, List.getElem?_cons_succ, List.getElem?_cons_zero]; rfl)
      case hy6 => refine Or.inl ⟨by rfl, ?_⟩; intro w hSw; (try dsimp only at hSw); go_simp <;> with_reducible rfl
      case hQ6 => exact fun _ _ _ h => h
      try simp only [Act.put, List.setIfInBounds_toArray, List.set_cons_zero, List.set_cons_succ]
      refine wpAnyH_ready (rs := [7]) (by kernel_rfl) (by simp) ?_
      refine AllReadyH.cons rfl (fun KK hKK => ?_) ?_
      · go_simp
        go_at_call 38
        refine (isExp_any p q g x _ HGB.out).mono ?_
        rintro ek wk7 ⟨hek, hbk7⟩
        rw [H2.out] at hek; subst hek
        have hxk7 := Ext.trans (w := Wb) (by repeat (first | with_reducible assumption | with_reducible exact Ext.refl _ | with_reducible apply Ext.alloc | with_reducible apply Ext.drew | with_reducible apply Ext.drewN)) hbk7
        refine hKK.out _ _ ?_ (fun hHeld => ?_)
        · exact hS _ (by repeat (first | with_reducible assumption | with_reducible exact Ext.refl _ | with_reducible apply Ext.alloc | with_reducible apply Ext.drew | with_reducible apply Ext.drewN))
        clear hKK KK
        try simp only [Act.put, List.setIfInBounds_toArray, List.set_cons_zero, List.set_cons_succ]
        refine' wpAnyH_take (i := 8) (v := _) ?hi8 (by kernel_rfl) (by kernel_rfl) (by kernel_rfl) ?hQ8 ?hy8 (by assumption) ?_
        case hi8 => (simp only [List.getElem?_toArray, List.getElem?_cons_succ, List.getElem?_cons_zero]; rfl)
        case hy8 => refine Or.inl ⟨by rfl, ?_⟩; intro w hSw; (try dsimp only at hSw); go_simp <;> with_reducible rfl
        case hQ8 => exact fun _ _ _ h => h
        try simp only [Act.put, List.setIfInBounds_toArray, List.set_cons_zero, List.set_cons_succ]
        refine' wpAnyH_take (i := 9) (v := _) ?hi9 (by kernel_rfl) (by kernel_rfl) (by kernel_rfl) ?hQ9 ?hy9 (by assumption) ?_
        case hi9 => (simp only [List.getElem?_toArray, List.getElem?_cons_succ, List.getElem?_cons_zero]; rfl)
        case hy9 => refine Or.inl ⟨by rfl, ?_⟩; intro w hSw; (try dsimp only at hSw); go_simp <;> with_reducible rfl
        case hQ9 => exact fun _ _ _ h => h
        try simp only [Act.put, List.setIfInBounds_toArray, List.set_cons_zero, List.set_cons_succ]
        refine' wpAnyH_take (i := 10) (v := _) ?hi10 (by kernel_rfl) (by kernel_rfl) (by kernel_rfl) ?hQ10 ?hy10 (by assumption) ?_
        case hi10 => (simp only [List.getElem?_toArray, List.getElem?_cons_succ, List.getElem?_cons_zero]; rfl)
        case hy10 => refine Or.inl ⟨by rfl, ?_⟩; intro w hSw; (try dsimp only at hSw); go_simp <;> with_reducible rfl
        case hQ10 => exact fun _ _ _ h => h
        try simp only [Act.put, List.setIfInBounds_toArray, List.set_cons_zero, List.set_cons_succ]
        refine' wpAnyH_take (i := 11) (v := undef) ?hi11 (by kernel_rfl) (by kernel_rfl) (by kernel_rfl) ?hQ11 ?hy11 (by assumption) ?_
        case hi11 => (simp only [List.getElem?_toArray, List.getElem?_cons_succ, List.getElem?_cons_zero]; rfl)
        case hQ11 => exact fun _ _ _ h => h
        case hy11 => exact Or.inr ⟨by rfl, rfl⟩
        try simp only [Act.put, List.setIfInBounds_toArray, List.set_cons_zero, List.set_cons_succ]
        refine' wpAnyH_take (i := 12) (v := undef) ?hi12 (by kernel_rfl) (by kernel_rfl) (by kernel_rfl) ?hQ12 ?hy12 (by assumption) ?_
        case hi12 => (simp only [List.getElem?_toArray, List.getElem?_cons_succ, List.getElem?_cons_zero]; rfl)
        case hQ12 => exact fun _ _ _ h => h
        case hy12 => exact Or.inr ⟨by rfl, rfl⟩
        try simp only [Act.put, List.setIfInBounds_toArray, List.set_cons_zero, List.set_cons_succ]
        refine' wpAnyH_take (i := 13) (v := undef) ?hi13 (by kernel_rfl) (by kernel_rfl) (by kernel_rfl) ?hQ13 ?hy13 (by assumption) ?_
        case hi13 => (simp only [List.getElem?_toArray, List.getElem?_cons_succ, List.getElem?_cons_zero]; rfl)
        case hQ13 => exact fun _ _ _ h => h
        case hy13 => exact Or.inr ⟨by rfl, rfl⟩
        try simp only [Act.put, List.setIfInBounds_toArray, List.set_cons_zero, List.set_cons_succ]
        refine' wpAnyH_take (i := 14) (v := undef) ?hi14 (by kernel_rfl) (by kernel_rfl) (by kernel_rfl) ?hQ14 ?hy14 (by assumption) ?_
        case hi14 => (simp only [List.getElem?_toArray, List.getElem?_cons_succ, List.getElem?_cons_zero]; rfl)
        case hQ14 => exact fun _ _ _ h => h
        case hy14 => exact Or.inr ⟨by rfl, rfl⟩
        try simp only [Act.put, List.setIfInBounds_toArray, List.set_cons_zero, List.set_cons_succ]
        refine' wpAnyH_take (i := 15) (v := undef) ?hi15 (by kernel_rfl) (by kernel_rfl) (by kernel_rfl) ?hQ15 ?hy15 (by assumption) ?_
        case hi15 => (simp only [List.getElem?_toArray, List.getElem?_cons_succ, List.getElem?_cons_zero]; rfl)
        case hQ15 => exact fun _ _ _ h => h
        case hy15 => exact Or.inr ⟨by rfl, rfl⟩
        try simp only [Act.put, List.setIfInBounds_toArray, List.set_cons_zero, List.set_cons_succ]
        refine' wpAnyH_take (i := 16) (v := _) ?hi16 (by kernel_rfl) (by kernel_rfl) (by kernel_rfl) ?hQ16 ?hy16 (by assumption) ?_
        case hi16 => (simp only [List.getElem?_toArray, List.getElem?_cons_succ, List.getElem?_cons_zero]; rfl)
        case hy16 => refine Or.inl ⟨by rfl, ?_⟩; intro w hSw; (try dsimp only at hSw); go_simp <;> with_reducible rfl
        case hQ16 => exact fun _ _ _ h => h
        try simp only [Act.put, List.setIfInBounds_toArray, List.set_cons_zero, List.set_cons_succ]
        refine' wpAnyH_take (i := 17) (v := _) ?hi17 (by kernel_rfl) (by kernel_rfl) (by kernel_rfl) ?hQ17 ?hy17 (by assumption) ?_
        case hi17 => (simp only [List.getElem?_toArray, List.getElem?_cons_succ, List.getElem?_cons_zero]; rfl)
        case hy17 => refine Or.inl ⟨by rfl, ?_⟩; intro w hSw; (try dsimp only at hSw); go_simp <;> with_reducible rfl
        case hQ17 => exact fun _ _ _ h => h
        try simp only [Act.put, List.setIfInBounds_toArray, List.set_cons_zero, List.set_cons_succ]
        refine' wpAnyH_take (i := 18) (v := undef) ?hi18 (by kernel_rfl) (by kernel_rfl) (by kernel_rfl) ?hQ18 ?hy18 (by assumption) ?_
        case hi18 => (simp only [List.getElem?_toArray, List.getElem?_cons_succ, List.getElem?_cons_zero]; rfl)
        case hQ18 => exact fun _ _ _ h => h
        case hy18 => exact Or.inr ⟨by rfl, rfl⟩
        try simp only [Act.put, List.setIfInBounds_toArray, List.set_cons_zero, List.set_cons_succ]
        refine' wpAnyH_take (i := 19) (v := undef) ?hi19 (by kernel_rfl) (by kernel_rfl) (by kernel_rfl) ?hQ19 ?hy19 (by assumption) ?_
        case hi19 => (simp only [List.getElem?_toArray, List.getElem?_cons_succ, List.getElem?_cons_zero]; rfl)
        case hQ19 => exact fun _ _ _ h => h
        case hy19 => exact Or.inr ⟨by rfl, rfl⟩
        try simp only [Act.put, List.setIfInBounds_toArray, List.set_cons_zero, List.set_cons_succ]
        refine' wpAnyH_take (i := 20) (v := undef) ?hi20 (by kernel_rfl) (by kernel_rfl) (by kernel_rfl) ?hQ20 ?hy20 (by assumption) ?_
        case hi20 => (simp only [List.getElem?_toArray, List.getElem?_cons_succ, List.getElem?_cons_zero]; rfl)
        case hQ20 => exact fun _ _ _ h => h
        case hy20 => exact Or.inr ⟨by rfl, rfl⟩
        try simp only [Act.put, List.setIfInBounds_toArray, List.set_cons_zero, List.set_cons_succ]
        refine' wpAnyH_take (i := 21) (v := undef) ?hi21 (by kernel_rfl) (by kernel_rfl) (by kernel_rfl) ?hQ21 ?hy21 (by assumption) ?_
        case hi21 => (simp only [List.getElem?_toArray, List.getElem?_cons_succ, List.getElem?_cons_zero]; rfl)
        case hQ21 => exact fun _ _ _ h => h
        case hy21 => exact Or.inr ⟨by rfl, rfl⟩
        try simp only [Act.put, List.setIfInBounds_toArray, List.set_cons_zero, List.set_cons_succ]
        refine' wpAnyH_take (i := 22) (v := undef) ?hi22 (by kernel_rfl) (by kernel_rfl) (by kernel_rfl) ?hQ22 ?hy22 (by assumption) ?_
        case hi22 => (simp only [List.getElem?_toArray, List.getElem?_cons_succ, List.getElem?_cons_zero]; rfl)
        case hQ22 => exact fun _ _ _ h => h
        case hy22 => exact Or.inr ⟨by rfl, rfl⟩
        try simp only [Act.put, List.setIfInBounds_toArray, List.set_cons_zero, List.set_cons_succ]
        refine' wpAnyH_take (i := 23) (v := undef) ?hi23 (by kernel_rfl) (by kernel_rfl) (by kernel_rfl) ?hQ23 ?hy23 (by assumption) ?_
        case hi23 => (simp only [List.getElem?_toArray, List.getElem?_cons_succ, List.getElem?_cons_zero]; rfl)
        case hQ23 => exact fun _ _ _ h => h
        case hy23 => exact Or.inr ⟨by rfl, rfl⟩
        try simp only [Act.put, List.setIfInBounds_toArray, List.set_cons_zero, List.set_cons_succ]
        refine' wpAnyH_take (i := 24) (v := _) ?hi24 (by kernel_rfl) (by kernel_rfl) (by kernel_rfl) ?hQ24 ?hy24 (by assumption) ?_
        case hi24 => (simp only [List.getElem?_toArray, List.getElem?_cons_succ, List.getElem?_cons_zero]; rfl)
        case hy24 => refine Or.inl ⟨by rfl, ?_⟩; intro w hSw; (try dsimp only at hSw); go_simp <;> with_reducible rfl
        case hQ24 => exact fun _ _ _ h => h
        try simp only [Act.put, List.setIfInBounds_toArray, List.set_cons_zero, List.set_cons_succ]
        refine wpAnyH_done (by kernel_rfl) ?_ _
        go_wp2
        go_ret2
        exact ⟨none, 0, 0, by rw [HNO.out]; rfl, by rw [HNO.out]; exact OwnI.nil _ _ _, E.trans hxk7⟩
      exact AllReadyH.nil
    exact AllReadyH.nil
  have H2 := Lib.hid h2
  cases h4 : (decide (n ≤ 24) && l.all (ciB p q))
  · have hog : opG p q g x a b c d f l = false := by unfold opG; rw [HL.out, show (fun c : Int × Int => elB p q c.1 && elB p q c.2) = ciB p q from rfl, h4, Bool.and_false, Bool.and_false, Bool.and_false]
    have H4 := Lib.hid h4
    have HNO : Hid (opR p q g x a b c d f l = none) := by show _ = _; unfold opR; rw [hog, Bool.false_and]; rfl
    clear hog
    go_enter Tryz.func10, Tryz.ntmps10
    go_wp2_with fail
    generalize (((w.alloc (.cells #[.int .i64 p, .int .i64 q, .int .i64 g] 36)).alloc (.cells #[.int .i64 a, .int .i64 b, .int .i64 c, .int .i64 d, .int .i64 f] 38)).alloc (.cells #[.int .i64 v, .slice A n k0, .slice B m e, .slice C1 k1 f1, .slice C2 k2 f2, .slice C3 k3 f3] 44)) = Wb at *
    have hS : ∀ V, Ext Wb V → V.cell? ⟨w.heap.size, 0, none⟩ = some (.int .i64 p) ∧ V.cell? ⟨w.heap.size, 1, none⟩ = some (.int .i64 q) ∧ V.cell? ⟨w.heap.size, 2, none⟩ = some (.int .i64 g) ∧ V.cell? ⟨w.heap.size + 1, 0, none⟩ = some (.int .i64 a) ∧ V.cell? ⟨w.heap.size + 1, 1, none⟩ = some (.int .i64 b) ∧ V.cell? ⟨w.heap.size + 1, 2, none⟩ = some (.int .i64 c) ∧ V.cell? ⟨w.heap.size + 1, 3, none⟩ = some (.int .i64 d) ∧ V.cell? ⟨w.heap.size + 1, 4, none⟩ = some (.int .i64 f) ∧ V.cell? ⟨w.heap.size + 1 + 1, 1, none⟩ = some (.slice A n k0) := fun V hV => by
      have a0 := (B0.ext hV).cells
      have a1 := (B1.ext hV).cells
      have a2 := (B2.ext hV).cells
      exact ⟨a0 0, a0 1, a0 2, a1 0, a1 1, a1 2, a1 3, a1 4, a2 1⟩
    refine wp_region_held_drew (S := fun V => V.cell? ⟨w.heap.size, 0, none⟩ = some (.int .i64 p) ∧ V.cell? ⟨w.heap.size, 1, none⟩ = some (.int .i64 q) ∧ V.cell? ⟨w.heap.size, 2, none⟩ = some (.int .i64 g) ∧ V.cell? ⟨w.heap.size + 1, 0, none⟩ = some (.int .i64 a) ∧ V.cell? ⟨w.heap.size + 1, 1, none⟩ = some (.int .i64 b) ∧ V.cell? ⟨w.heap.size + 1, 2, none⟩ = some (.int .i64 c) ∧ V.cell? ⟨w.heap.size + 1, 3, none⟩ = some (.int .i64 d) ∧ V.cell? ⟨w.heap.size + 1, 4, none⟩ = some (.int .i64 f) ∧ V.cell? ⟨w.heap.size + 1 + 1, 1, none⟩ = some (.slice A n k0)) (by kernel_rfl) ?_ (fun hHeld => ?_)
    · exact hS _ (by repeat (first | with_reducible assumption | with_reducible exact Ext.refl _ | with_reducible apply Ext.alloc | with_reducible apply Ext.drew | with_reducible apply Ext.drewN))
    refine' wpAnyH_take (i := 0) (v := _) ?hi0 (by kernel_rfl) (by kernel_rfl) (by kernel_rfl) ?hQ0 ?hy0 (by assumption) ?_
    case hi0 => (simp only [List.getElem?_toArray, List.getElem?_cons_zero]; rfl)
    case hy0 => refine Or.inl ⟨by rfl, ?_⟩; intro w hSw; (try dsimp only at hSw); go_simp <;> with_reducible rfl
    case hQ0 => exact fun _ _ _ h => h
    try simp only [Act.put, List.setIfInBounds_toArray, List.set_cons_zero, List.set_cons_succ]
    refine' wpAnyH_take (i := 1) (v := _) ?hi1 (by kernel_rfl) (by kernel_rfl) (by kernel_rfl) ?hQ1 ?hy1 (by assumption) ?_
    case hi1 => (simp only [List.getElem?_toArray, List.getElem?_cons_succ, List.getElem?_cons_zero]; rfl)
    case hy1 => refine Or.inl ⟨by rfl, ?_⟩; intro w hSw; (try dsimp only at hSw); go_simp <;> with_reducible rfl
    case hQ1 => exact fun _ _ _ h => h
    try simp only [Act.put, List.setIfInBounds_toArray, List.set_cons_zero, List.set_cons_succ]
    refine wpAnyH_ready (rs := [2]) (by kernel_rfl) (by simp) ?_
    refine AllReadyH.cons rfl (fun KK hKK => ?_) ?_
    · go_simp
      go_at_call 37
      refine (iSea_any p q g a b c d f _).mono ?_
      rintro ek wk2 ⟨hek, hbk2⟩
      rw [H1.out] at hek; subst hek
      have hxk2 := Ext.trans (w := Wb) (by repeat (first | with_reducible assumption | with_reducible exact Ext.refl _ | with_reducible apply Ext.alloc | with_reducible apply Ext.drew | with_reducible apply Ext.drewN)) hbk2
      refine hKK.out _ _ ?_ (fun hHeld => ?_)
      · exact hS _ (by repeat (first | with_reducible assumption | with_reducible exact Ext.refl _ | with_reducible apply Ext.alloc | with_reducible apply Ext.drew | with_reducible apply Ext.drewN))
      clear hKK KK
      try simp only [Act.put, List.setIfInBounds_toArray, List.set_cons_zero, List.set_cons_succ]
      refine' wpAnyH_take (i := 3) (v := _) ?hi3 (by kernel_rfl) (by kernel_rfl) (by kernel_rfl) ?hQ3 ?hy3 (by assumption) ?_
      case hi3 => (simp only [List.getElem?_toArray, List.getElem?_cons_succ, List.getElem?_cons_zero]; rfl)
      case hy3 => refine Or.inl ⟨by rfl, ?_⟩; intro w hSw; (try dsimp only at hSw); go_simp <;> with_reducible rfl
      case hQ3 => exact fun _ _ _ h => h
      try simp only [Act.put, List.setIfInBounds_toArray, List.set_cons_zero, List.set_cons_succ]
      refine' wpAnyH_take (i := 4) (v := _) ?hi4 (by kernel_rfl) (by kernel_rfl) (by kernel_rfl) ?hQ4 ?hy4 (by assumption) ?_
      case hi4 => (simp only [List.getElem?_toArray, List.getElem?_cons_succ, List.getElem?_cons_zero]; rfl)
      case hy4 => refine Or.inl ⟨by rfl, ?_⟩; intro w hSw; (try dsimp only at hSw); go_simp <;> with_reducible rfl
      case hQ4 => exact fun _ _ _ h => h
      try simp only [Act.put, List.setIfInBounds_toArray, List.set_cons_zero, List.set_cons_succ]
      refine' wpAnyH_take (i := 5) (v := _) ?hi5 (by kernel_rfl) (by kernel_rfl) (by kernel_rfl) ?hQ5 ?hy5 (by assumption) ?_
      case hi5 => (simp only [List.getElem?_toArray, List.getElem?_cons_succ, List.getElem?_cons_zero]; rfl)
      case hy5 => refine Or.inl ⟨by rfl, ?_⟩; intro w hSw; (try dsimp only at hSw); go_simp <;> with_reducible rfl
      case hQ5 => exact fun _ _ _ h => h
      try simp only [Act.put, List.setIfInBounds_toArray, List.set_cons_zero, List.set_cons_succ]
      refine' wpAnyH_take (i := 6) (v := _) ?hi6 (by kernel_rfl) (by kernel_rfl) (by kernel_rfl) ?hQ6 ?hy6 (by assumption) ?_
      case hi6 => (simp only [List.getElem?_toArray, List.getElem?_cons_succ, List.getElem?_cons_zero]; rfl)
      case hy6 => refine Or.inl ⟨by rfl, ?_⟩; intro w hSw; (try dsimp only at hSw); go_simp <;> with_reducible rfl
      case hQ6 => exact fun _ _ _ h => h
      try simp only [Act.put, List.setIfInBounds_toArray, List.set_cons_zero, List.set_cons_succ]
      refine wpAnyH_ready (rs := [7]) (by kernel_rfl) (by simp) ?_
      refine AllReadyH.cons rfl (fun KK hKK => ?_) ?_
      · go_simp
        go_at_call 38
        refine (isExp_any p q g x _ HGB.out).mono ?_
        rintro ek wk7 ⟨hek, hbk7⟩
        rw [H2.out] at hek; subst hek
        have hxk7 := Ext.trans (w := Wb) (by repeat (first | with_reducible assumption | with_reducible exact Ext.refl _ | with_reducible apply Ext.alloc | with_reducible apply Ext.drew | with_reducible apply Ext.drewN)) hbk7
        refine hKK.out _ _ ?_ (fun hHeld => ?_)
        · exact hS _ (by repeat (first | with_reducible assumption | with_reducible exact Ext.refl _ | with_reducible apply Ext.alloc | with_reducible apply Ext.drew | with_reducible apply Ext.drewN))
        clear hKK KK
        try simp only [Act.put, List.setIfInBounds_toArray, List.set_cons_zero, List.set_cons_succ]
        refine' wpAnyH_take (i := 8) (v := _) ?hi8 (by kernel_rfl) (by kernel_rfl) (by kernel_rfl) ?hQ8 ?hy8 (by assumption) ?_
        case hi8 => (simp only [List.getElem?_toArray, List.getElem?_cons_succ, List.getElem?_cons_zero]; rfl)
        case hy8 => refine Or.inl ⟨by rfl, ?_⟩; intro w hSw; (try dsimp only at hSw); go_simp <;> with_reducible rfl
        case hQ8 => exact fun _ _ _ h => h
        try simp only [Act.put, List.setIfInBounds_toArray, List.set_cons_zero, List.set_cons_succ]
        refine' wpAnyH_take (i := 9) (v := _) ?hi9 (by kernel_rfl) (by kernel_rfl) (by kernel_rfl) ?hQ9 ?hy9 (by assumption) ?_
        case hi9 => (simp only [List.getElem?_toArray, List.getElem?_cons_succ, List.getElem?_cons_zero]; rfl)
        case hy9 => refine Or.inl ⟨by rfl, ?_⟩; intro w hSw; (try dsimp only at hSw); go_simp <;> with_reducible rfl
        case hQ9 => exact fun _ _ _ h => h
        try simp only [Act.put, List.setIfInBounds_toArray, List.set_cons_zero, List.set_cons_succ]
        refine' wpAnyH_take (i := 10) (v := _) ?hi10 (by kernel_rfl) (by kernel_rfl) (by kernel_rfl) ?hQ10 ?hy10 (by assumption) ?_
        case hi10 => (simp only [List.getElem?_toArray, List.getElem?_cons_succ, List.getElem?_cons_zero]; rfl)
        case hy10 => refine Or.inl ⟨by rfl, ?_⟩; intro w hSw; (try dsimp only at hSw); go_simp <;> with_reducible rfl
        case hQ10 => exact fun _ _ _ h => h
        try simp only [Act.put, List.setIfInBounds_toArray, List.set_cons_zero, List.set_cons_succ]
        refine' wpAnyH_take (i := 11) (v := _) ?hi11 (by kernel_rfl) (by kernel_rfl) (by kernel_rfl) ?hQ11 ?hy11 (by assumption) ?_
        case hi11 => (simp only [List.getElem?_toArray, List.getElem?_cons_succ, List.getElem?_cons_zero]; rfl)
        case hy11 => refine Or.inl ⟨by rfl, ?_⟩; intro w hSw; (try dsimp only at hSw); go_simp <;> with_reducible rfl
        case hQ11 => exact fun _ _ _ h => h
        try simp only [Act.put, List.setIfInBounds_toArray, List.set_cons_zero, List.set_cons_succ]
        refine' wpAnyH_take (i := 12) (v := _) ?hi12 (by kernel_rfl) (by kernel_rfl) (by kernel_rfl) ?hQ12 ?hy12 (by assumption) ?_
        case hi12 => (simp only [List.getElem?_toArray, List.getElem?_cons_succ, List.getElem?_cons_zero]; rfl)
        case hy12 => refine Or.inl ⟨by rfl, ?_⟩; intro w hSw; (try dsimp only at hSw); go_simp <;> with_reducible rfl
        case hQ12 => exact fun _ _ _ h => h
        try simp only [Act.put, List.setIfInBounds_toArray, List.set_cons_zero, List.set_cons_succ]
        refine' wpAnyH_take (i := 13) (v := _) ?hi13 (by kernel_rfl) (by kernel_rfl) (by kernel_rfl) ?hQ13 ?hy13 (by assumption) ?_
        case hi13 => (simp only [List.getElem?_toArray, List.getElem?_cons_succ, List.getElem?_cons_zero]; rfl)
        case hy13 => refine Or.inl ⟨by rfl, ?_⟩; intro w hSw; (try dsimp only at hSw); go_simp <;> with_reducible rfl
        case hQ13 => exact fun _ _ _ h => h
        try simp only [Act.put, List.setIfInBounds_toArray, List.set_cons_zero, List.set_cons_succ]
        refine wpAnyH_ready (rs := [14]) (by kernel_rfl) (by simp) ?_
        refine AllReadyH.cons rfl (fun KK hKK => ?_) ?_
        · go_simp
          go_at_call 39
          refine (hasCiphers_any p q g A n k0 l _ HGB.out (ha.ext (E.trans (by repeat (first | with_reducible assumption | with_reducible exact Ext.refl _ | with_reducible apply Ext.alloc | with_reducible apply Ext.drew | with_reducible apply Ext.drewN)))) HL.out hn).mono ?_
          rintro ek wk14 ⟨hek, hbk14⟩
          rw [H4.out] at hek; subst hek
          have hxk14 := Ext.trans (w := Wb) (by repeat (first | with_reducible assumption | with_reducible exact Ext.refl _ | with_reducible apply Ext.alloc | with_reducible apply Ext.drew | with_reducible apply Ext.drewN)) hbk14
          refine hKK.out _ _ ?_ (fun hHeld => ?_)
          · exact hS _ (by repeat (first | with_reducible assumption | with_reducible exact Ext.refl _ | with_reducible apply Ext.alloc | with_reducible apply Ext.drew | with_reducible apply Ext.drewN))
          clear hKK KK
          try simp only [Act.put, List.setIfInBounds_toArray, List.set_cons_zero, List.set_cons_succ]
          refine' wpAnyH_take (i := 15) (v := _) ?hi15 (by kernel_rfl) (by kernel_rfl) (by kernel_rfl) ?hQ15 ?hy15 (by assumption) ?_
          case hi15 => (simp only [List.getElem?_toArray, List.getElem?_cons_succ, List.getElem?_cons_zero]; rfl)
          case hy15 => refine Or.inl ⟨by rfl, ?_⟩; intro w hSw; (try dsimp only at hSw); go_simp <;> with_reducible rfl
          case hQ15 => exact fun _ _ _ h => h
          try simp only [Act.put, List.setIfInBounds_toArray, List.set_cons_zero, List.set_cons_succ]
          refine' wpAnyH_take (i := 16) (v := _) ?hi16 (by kernel_rfl) (by kernel_rfl) (by kernel_rfl) ?hQ16 ?hy16 (by assumption) ?_
          case hi16 => (simp only [List.getElem?_toArray, List.getElem?_cons_succ, List.getElem?_cons_zero]; rfl)
          case hy16 => refine Or.inl ⟨by rfl, ?_⟩; intro w hSw; (try dsimp only at hSw); go_simp <;> with_reducible rfl
          case hQ16 => exact fun _ _ _ h => h
          try simp only [Act.put, List.setIfInBounds_toArray, List.set_cons_zero, List.set_cons_succ]
          refine' wpAnyH_take (i := 17) (v := _) ?hi17 (by kernel_rfl) (by kernel_rfl) (by kernel_rfl) ?hQ17 ?hy17 (by assumption) ?_
          case hi17 => (simp only [List.getElem?_toArray, List.getElem?_cons_succ, List.getElem?_cons_zero]; rfl)
          case hy17 => refine Or.inl ⟨by rfl, ?_⟩; intro w hSw; (try dsimp only at hSw); go_simp <;> with_reducible rfl
          case hQ17 => exact fun _ _ _ h => h
          try simp only [Act.put, List.setIfInBounds_toArray, List.set_cons_zero, List.set_cons_succ]
          refine' wpAnyH_take (i := 18) (v := undef) ?hi18 (by kernel_rfl) (by kernel_rfl) (by kernel_rfl) ?hQ18 ?hy18 (by assumption) ?_
          case hi18 => (simp only [List.getElem?_toArray, List.getElem?_cons_succ, List.getElem?_cons_zero]; rfl)
          case hQ18 => exact fun _ _ _ h => h
          case hy18 => exact Or.inr ⟨by rfl, rfl⟩
          try simp only [Act.put, List.setIfInBounds_toArray, List.set_cons_zero, List.set_cons_succ]
          refine' wpAnyH_take (i := 19) (v := undef) ?hi19 (by kernel_rfl) (by kernel_rfl) (by kernel_rfl) ?hQ19 ?hy19 (by assumption) ?_
          case hi19 => (simp only [List.getElem?_toArray, List.getElem?_cons_succ, List.getElem?_cons_zero]; rfl)
          case hQ19 => exact fun _ _ _ h => h
          case hy19 => exact Or.inr ⟨by rfl, rfl⟩
          try simp only [Act.put, List.setIfInBounds_toArray, List.set_cons_zero, List.set_cons_succ]
          refine' wpAnyH_take (i := 20) (v := undef) ?hi20 (by kernel_rfl) (by kernel_rfl) (by kernel_rfl) ?hQ20 ?hy20 (by assumption) ?_
          case hi20 => (simp only [List.getElem?_toArray, List.getElem?_cons_succ, List.getElem?_cons_zero]; rfl)
          case hQ20 => exact fun _ _ _ h => h
          case hy20 => exact Or.inr ⟨by rfl, rfl⟩
          try simp only [Act.put, List.setIfInBounds_toArray, List.set_cons_zero, List.set_cons_succ]
          refine' wpAnyH_take (i := 21) (v := undef) ?hi21 (by kernel_rfl) (by kernel_rfl) (by kernel_rfl) ?hQ21 ?hy21 (by assumption) ?_
          case hi21 => (simp only [List.getElem?_toArray, List.getElem?_cons_succ, List.getElem?_cons_zero]; rfl)
          case hQ21 => exact fun _ _ _ h => h
          case hy21 => exact Or.inr ⟨by rfl, rfl⟩
          try simp only [Act.put, List.setIfInBounds_toArray, List.set_cons_zero, List.set_cons_succ]
          refine' wpAnyH_take (i := 22) (v := undef) ?hi22 (by kernel_rfl) (by kernel_rfl) (by kernel_rfl) ?hQ22 ?hy22 (by assumption) ?_
          case hi22 => (simp only [List.getElem?_toArray, List.getElem?_cons_succ, List.getElem?_cons_zero]; rfl)
          case hQ22 => exact fun _ _ _ h => h
          case hy22 => exact Or.inr ⟨by rfl, rfl⟩
          try simp only [Act.put, List.setIfInBounds_toArray, List.set_cons_zero, List.set_cons_succ]
          refine' wpAnyH_take (i := 23) (v := undef) ?hi23 (by kernel_rfl) (by kernel_rfl) (by kernel_rfl) ?hQ23 ?hy23 (by assumption) ?_
          case hi23 => (simp only [List.getElem?_toArray, List.getElem?_cons_succ, List.getElem?_cons_zero]; rfl)
          case hQ23 => exact fun _ _ _ h => h
          case hy23 => exact Or.inr ⟨by rfl, rfl⟩
          try simp only [Act.put, List.setIfInBounds_toArray, List.set_cons_zero, List.set_cons_succ]
          refine' wpAnyH_take (i := 24) (v := _) ?hi24 (by kernel_rfl) (by kernel_rfl) (by kernel_rfl) ?hQ24 ?hy24 (by assumption) ?_
          case hi24 => (simp only [List.getElem?_toArray, List.getElem?_cons_succ, List.getElem?_cons_zero]; rfl)
          case hy24 => refine Or.inl ⟨by rfl, ?_⟩; intro w hSw; (try dsimp only at hSw); go_simp <;> with_reducible rfl
          case hQ24 => exact fun _ _ _ h => h
          try simp only [Act.put, List.setIfInBounds_toArray, List.set_cons_zero, List.set_cons_succ]
          refine wpAnyH_done (by kernel_rfl) ?_ _
          go_wp2
          go_ret2
          exact ⟨none, 0, 0, by rw [HNO.out]; rfl, by rw [HNO.out]; exact OwnI.nil _ _ _, E.trans hxk14⟩
        exact AllReadyH.nil
      exact AllReadyH.nil
    exact AllReadyH.nil
  have H4 := Lib.hid h4
  obtain ⟨wd, hw⟩ : ∃ wd, (if a = 1 ∨ a = 2 then b else 1) = wd := ⟨_, rfl⟩
  have HW := Lib.hid hw
  by_cases hne : (n : Int) = wd
  case neg =>
    have hog : opG p q g x a b c d f l = false := by unfold opG; rw [hw, HL.out, decide_eq_false hne, Bool.false_and, Bool.and_false, Bool.and_false]
    have hz : ((n : Int) != wd) = true := by simp [hne]
    have HNO : Hid (opR p q g x a b c d f l = none) := by show _ = _; unfold opR; rw [hog, Bool.false_and]; rfl
    clear hog
    go_enter Tryz.func10, Tryz.ntmps10
    go_wp2_with fail
    generalize (((w.alloc (.cells #[.int .i64 p, .int .i64 q, .int .i64 g] 36)).alloc (.cells #[.int .i64 a, .int .i64 b, .int .i64 c, .int .i64 d, .int .i64 f] 38)).alloc (.cells #[.int .i64 v, .slice A n k0, .slice B m e, .slice C1 k1 f1, .slice C2 k2 f2, .slice C3 k3 f3] 44)) = Wb at *
    have hS : ∀ V, Ext Wb V → V.cell? ⟨w.heap.size, 0, none⟩ = some (.int .i64 p) ∧ V.cell? ⟨w.heap.size, 1, none⟩ = some (.int .i64 q) ∧ V.cell? ⟨w.heap.size, 2, none⟩ = some (.int .i64 g) ∧ V.cell? ⟨w.heap.size + 1, 0, none⟩ = some (.int .i64 a) ∧ V.cell? ⟨w.heap.size + 1, 1, none⟩ = some (.int .i64 b) ∧ V.cell? ⟨w.heap.size + 1, 2, none⟩ = some (.int .i64 c) ∧ V.cell? ⟨w.heap.size + 1, 3, none⟩ = some (.int .i64 d) ∧ V.cell? ⟨w.heap.size + 1, 4, none⟩ = some (.int .i64 f) ∧ V.cell? ⟨w.heap.size + 1 + 1, 1, none⟩ = some (.slice A n k0) := fun V hV => by
      have a0 := (B0.ext hV).cells
      have a1 := (B1.ext hV).cells
      have a2 := (B2.ext hV).cells
      exact ⟨a0 0, a0 1, a0 2, a1 0, a1 1, a1 2, a1 3, a1 4, a2 1⟩
    refine wp_region_held_drew (S := fun V => V.cell? ⟨w.heap.size, 0, none⟩ = some (.int .i64 p) ∧ V.cell? ⟨w.heap.size, 1, none⟩ = some (.int .i64 q) ∧ V.cell? ⟨w.heap.size, 2, none⟩ = some (.int .i64 g) ∧ V.cell? ⟨w.heap.size + 1, 0, none⟩ = some (.int .i64 a) ∧ V.cell? ⟨w.heap.size + 1, 1, none⟩ = some (.int .i64 b) ∧ V.cell? ⟨w.heap.size + 1, 2, none⟩ = some (.int .i64 c) ∧ V.cell? ⟨w.heap.size + 1, 3, none⟩ = some (.int .i64 d) ∧ V.cell? ⟨w.heap.size + 1, 4, none⟩ = some (.int .i64 f) ∧ V.cell? ⟨w.heap.size + 1 + 1, 1, none⟩ = some (.slice A n k0)) (by kernel_rfl) ?_ (fun hHeld => ?_)
    · exact hS _ (by repeat (first | with_reducible assumption | with_reducible exact Ext.refl _ | with_reducible apply Ext.alloc | with_reducible apply Ext.drew | with_reducible apply Ext.drewN))
    refine' wpAnyH_take (i := 0) (v := _) ?hi0 (by kernel_rfl) (by kernel_rfl) (by kernel_rfl) ?hQ0 ?hy0 (by assumption) ?_
    case hi0 => (simp only [List.getElem?_toArray, List.getElem?_cons_zero]; rfl)
    case hy0 => refine Or.inl ⟨by rfl, ?_⟩; intro w hSw; (try dsimp only at hSw); go_simp <;> with_reducible rfl
    case hQ0 => exact fun _ _ _ h => h
    try simp only [Act.put, List.setIfInBounds_toArray, List.set_cons_zero, List.set_cons_succ]
    refine' wpAnyH_take (i := 1) (v := _) ?hi1 (by kernel_rfl) (by kernel_rfl) (by kernel_rfl) ?hQ1 ?hy1 (by assumption) ?_
    case hi1 => (simp only [List.getElem?_toArray, List.getElem?_cons_succ, List.getElem?_cons_zero]; rfl)
    case hy1 => refine Or.inl ⟨by rfl, ?_⟩; intro w hSw; (try dsimp only at hSw); go_simp <;> with_reducible rfl
    case hQ1 => exact fun _ _ _ h => h
    try simp only [Act.put, List.setIfInBounds_toArray, List.set_cons_zero, List.set_cons_succ]
    refine wpAnyH_ready (rs := [2]) (by kernel_rfl) (by simp) ?_
    refine AllReadyH.cons rfl (fun KK hKK => ?_) ?_
    · go_simp
      go_at_call 37
      refine (iSea_any p q g a b c d f _).mono ?_
      rintro ek wk2 ⟨hek, hbk2⟩
      rw [H1.out] at hek; subst hek
      have hxk2 := Ext.trans (w := Wb) (by repeat (first | with_reducible assumption | with_reducible exact Ext.refl _ | with_reducible apply Ext.alloc | with_reducible apply Ext.drew | with_reducible apply Ext.drewN)) hbk2
      refine hKK.out _ _ ?_ (fun hHeld => ?_)
      · exact hS _ (by repeat (first | with_reducible assumption | with_reducible exact Ext.refl _ | with_reducible apply Ext.alloc | with_reducible apply Ext.drew | with_reducible apply Ext.drewN))
      clear hKK KK
      try simp only [Act.put, List.setIfInBounds_toArray, List.set_cons_zero, List.set_cons_succ]
      refine' wpAnyH_take (i := 3) (v := _) ?hi3 (by kernel_rfl) (by kernel_rfl) (by kernel_rfl) ?hQ3 ?hy3 (by assumption) ?_
      case hi3 => (simp only [List.getElem?_toArray, List.getElem?_cons_succ, List.getElem?_cons_zero]; rfl)
      case hy3 => refine Or.inl ⟨by rfl, ?_⟩; intro w hSw; (try dsimp only at hSw); go_simp <;> with_reducible rfl
      case hQ3 => exact fun _ _ _ h => h
      try simp only [Act.put, List.setIfInBounds_toArray, List.set_cons_zero, List.set_cons_succ]
      refine' wpAnyH_take (i := 4) (v := _) ?hi4 (by kernel_rfl) (by kernel_rfl) (by kernel_rfl) ?hQ4 ?hy4 (by assumption) ?_
      case hi4 => (simp only [List.getElem?_toArray, List.getElem?_cons_succ, List.getElem?_cons_zero]; rfl)
      case hy4 => refine Or.inl ⟨by rfl, ?_⟩; intro w hSw; (try dsimp only at hSw); go_simp <;> with_reducible rfl
      case hQ4 => exact fun _ _ _ h => h
      try simp only [Act.put, List.setIfInBounds_toArray, List.set_cons_zero, List.set_cons_succ]
      refine' wpAnyH_take (i := 5) (v := _) ?hi5 (by kernel_rfl) (by kernel_rfl) (by kernel_rfl) ?hQ5 ?hy5 (by assumption) ?_
      case hi5 => (simp only [List.getElem?_toArray, List.getElem?_cons_succ, List.getElem?_cons_zero]; rfl)
      case hy5 => refine Or.inl ⟨by rfl, ?_⟩; intro w hSw; (try dsimp only at hSw); go_simp <;> with_reducible rfl
      case hQ5 => exact fun _ _ _ h => h
      try simp only [Act.put, List.setIfInBounds_toArray, List.set_cons_zero, List.set_cons_succ]
      refine' wpAnyH_take (i := 6) (v := _) ?hi6 (by kernel_rfl) (by kernel_rfl) (by kernel_rfl) ?hQ6 ?hy6 (by assumption) ?_
      case hi6 => (simp only [List.getElem?_toArray, List.getElem?_cons_succ, List.getElem?_cons_zero]; rfl)
      case hy6 => refine Or.inl ⟨by rfl, ?_⟩; intro w hSw; (try dsimp only at hSw); go_simp <;> with_reducible rfl
      case hQ6 => exact fun _ _ _ h => h
      try simp only [Act.put, List.setIfInBounds_toArray, List.set_cons_zero, List.set_cons_succ]
      refine wpAnyH_ready (rs := [7]) (by kernel_rfl) (by simp) ?_
      refine AllReadyH.cons rfl (fun KK hKK => ?_) ?_
      · go_simp
        go_at_call 38
        refine (isExp_any p q g x _ HGB.out).mono ?_
        rintro ek wk7 ⟨hek, hbk7⟩
        rw [H2.out] at hek; subst hek
        have hxk7 := Ext.trans (w := Wb) (by repeat (first | with_reducible assumption | with_reducible exact Ext.refl _ | with_reducible apply Ext.alloc | with_reducible apply Ext.drew | with_reducible apply Ext.drewN)) hbk7
        refine hKK.out _ _ ?_ (fun hHeld => ?_)
        · exact hS _ (by repeat (first | with_reducible assumption | with_reducible exact Ext.refl _ | with_reducible apply Ext.alloc | with_reducible apply Ext.drew | with_reducible apply Ext.drewN))
        clear hKK KK
        try simp only [Act.put, List.setIfInBounds_toArray, List.set_cons_zero, List.set_cons_succ]
        refine' wpAnyH_take (i := 8) (v := _) ?hi8 (by kernel_rfl) (by kernel_rfl) (by kernel_rfl) ?hQ8 ?hy8 (by assumption) ?_
        case hi8 => (simp only [List.getElem?_toArray, List.getElem?_cons_succ, List.getElem?_cons_zero]; rfl)
        case hy8 => refine Or.inl ⟨by rfl, ?_⟩; intro w hSw; (try dsimp only at hSw); go_simp <;> with_reducible rfl
        case hQ8 => exact fun _ _ _ h => h
        try simp only [Act.put, List.setIfInBounds_toArray, List.set_cons_zero, List.set_cons_succ]
        refine' wpAnyH_take (i := 9) (v := _) ?hi9 (by kernel_rfl) (by kernel_rfl) (by kernel_rfl) ?hQ9 ?hy9 (by assumption) ?_
        case hi9 => (simp only [List.getElem?_toArray, List.getElem?_cons_succ, List.getElem?_cons_zero]; rfl)
        case hy9 => refine Or.inl ⟨by rfl, ?_⟩; intro w hSw; (try dsimp only at hSw); go_simp <;> with_reducible rfl
        case hQ9 => exact fun _ _ _ h => h
        try simp only [Act.put, List.setIfInBounds_toArray, List.set_cons_zero, List.set_cons_succ]
        refine' wpAnyH_take (i := 10) (v := _) ?hi10 (by kernel_rfl) (by kernel_rfl) (by kernel_rfl) ?hQ10 ?hy10 (by assumption) ?_
        case hi10 => (simp only [List.getElem?_toArray, List.getElem?_cons_succ, List.getElem?_cons_zero]; rfl)
        case hy10 => refine Or.inl ⟨by rfl, ?_⟩; intro w hSw; (try dsimp only at hSw); go_simp <;> with_reducible rfl
        case hQ10 => exact fun _ _ _ h => h
        try simp only [Act.put, List.setIfInBounds_toArray, List.set_cons_zero, List.set_cons_succ]
        refine' wpAnyH_take (i := 11) (v := _) ?hi11 (by kernel_rfl) (by kernel_rfl) (by kernel_rfl) ?hQ11 ?hy11 (by assumption) ?_
        case hi11 => (simp only [List.getElem?_toArray, List.getElem?_cons_succ, List.getElem?_cons_zero]; rfl)
        case hy11 => refine Or.inl ⟨by rfl, ?_⟩; intro w hSw; (try dsimp only at hSw); go_simp <;> with_reducible rfl
        case hQ11 => exact fun _ _ _ h => h
        try simp only [Act.put, List.setIfInBounds_toArray, List.set_cons_zero, List.set_cons_succ]
        refine' wpAnyH_take (i := 12) (v := _) ?hi12 (by kernel_rfl) (by kernel_rfl) (by kernel_rfl) ?hQ12 ?hy12 (by assumption) ?_
        case hi12 => (simp only [List.getElem?_toArray, List.getElem?_cons_succ, List.getElem?_cons_zero]; rfl)
        case hy12 => refine Or.inl ⟨by rfl, ?_⟩; intro w hSw; (try dsimp only at hSw); go_simp <;> with_reducible rfl
        case hQ12 => exact fun _ _ _ h => h
        try simp only [Act.put, List.setIfInBounds_toArray, List.set_cons_zero, List.set_cons_succ]
        refine' wpAnyH_take (i := 13) (v := _) ?hi13 (by kernel_rfl) (by kernel_rfl) (by kernel_rfl) ?hQ13 ?hy13 (by assumption) ?_
        case hi13 => (simp only [List.getElem?_toArray, List.getElem?_cons_succ, List.getElem?_cons_zero]; rfl)
        case hy13 => refine Or.inl ⟨by rfl, ?_⟩; intro w hSw; (try dsimp only at hSw); go_simp <;> with_reducible rfl
        case hQ13 => exact fun _ _ _ h => h
        try simp only [Act.put, List.setIfInBounds_toArray, List.set_cons_zero, List.set_cons_succ]
        refine wpAnyH_ready (rs := [14]) (by kernel_rfl) (by simp) ?_
        refine AllReadyH.cons rfl (fun KK hKK => ?_) ?_
        · go_simp
          go_at_call 39
          refine (hasCiphers_any p q g A n k0 l _ HGB.out (ha.ext (E.trans (by repeat (first | with_reducible assumption | with_reducible exact Ext.refl _ | with_reducible apply Ext.alloc | with_reducible apply Ext.drew | with_reducible apply Ext.drewN)))) HL.out hn).mono ?_
          rintro ek wk14 ⟨hek, hbk14⟩
          rw [H4.out] at hek; subst hek
          have hxk14 := Ext.trans (w := Wb) (by repeat (first | with_reducible assumption | with_reducible exact Ext.refl _ | with_reducible apply Ext.alloc | with_reducible apply Ext.drew | with_reducible apply Ext.drewN)) hbk14
          refine hKK.out _ _ ?_ (fun hHeld => ?_)
          · exact hS _ (by repeat (first | with_reducible assumption | with_reducible exact Ext.refl _ | with_reducible apply Ext.alloc | with_reducible apply Ext.drew | with_reducible apply Ext.drewN))
          clear hKK KK
          try simp only [Act.put, List.setIfInBounds_toArray, List.set_cons_zero, List.set_cons_succ]
          refine' wpAnyH_take (i := 15) (v := _) ?hi15 (by kernel_rfl) (by kernel_rfl) (by kernel_rfl) ?hQ15 ?hy15 (by assumption) ?_
          case hi15 => (simp only [List.getElem?_toArray, List.getElem?_cons_succ, List.getElem?_cons_zero]; rfl)
          case hy15 => refine Or.inl ⟨by rfl, ?_⟩; intro w hSw; (try dsimp only at hSw); go_simp <;> with_reducible rfl
          case hQ15 => exact fun _ _ _ h => h
          try simp only [Act.put, List.setIfInBounds_toArray, List.set_cons_zero, List.set_cons_succ]
          refine' wpAnyH_take (i := 16) (v := _) ?hi16 (by kernel_rfl) (by kernel_rfl) (by kernel_rfl) ?hQ16 ?hy16 (by assumption) ?_
          case hi16 => (simp only [List.getElem?_toArray, List.getElem?_cons_succ, List.getElem?_cons_zero]; rfl)
          case hy16 => refine Or.inl ⟨by rfl, ?_⟩; intro w hSw; (try dsimp only at hSw); go_simp <;> with_reducible rfl
          case hQ16 => exact fun _ _ _ h => h
          try simp only [Act.put, List.setIfInBounds_toArray, List.set_cons_zero, List.set_cons_succ]
          refine' wpAnyH_take (i := 17) (v := _) ?hi17 (by kernel_rfl) (by kernel_rfl) (by kernel_rfl) ?hQ17 ?hy17 (by assumption) ?_
          case hi17 => (simp only [List.getElem?_toArray, List.getElem?_cons_succ, List.getElem?_cons_zero]; rfl)
          case hy17 => refine Or.inl ⟨by rfl, ?_⟩; intro w hSw; (try dsimp only at hSw); go_simp <;> with_reducible rfl
          case hQ17 => exact fun _ _ _ h => h
          try simp only [Act.put, List.setIfInBounds_toArray, List.set_cons_zero, List.set_cons_succ]
          refine' wpAnyH_take (i := 18) (v := _) ?hi18 (by kernel_rfl) (by kernel_rfl) (by kernel_rfl) ?hQ18 ?hy18 (by assumption) ?_
          case hi18 => (simp only [List.getElem?_toArray, List.getElem?_cons_succ, List.getElem?_cons_zero]; rfl)
          case hy18 => refine Or.inl ⟨by rfl, ?_⟩; intro w hSw; (try dsimp only at hSw); go_simp <;> with_reducible rfl
          case hQ18 => exact fun _ _ _ h => h
          try simp only [Act.put, List.setIfInBounds_toArray, List.set_cons_zero, List.set_cons_succ]
          refine' wpAnyH_take (i := 19) (v := _) ?hi19 (by kernel_rfl) (by kernel_rfl) (by kernel_rfl) ?hQ19 ?hy19 (by assumption) ?_
          case hi19 => (simp only [List.getElem?_toArray, List.getElem?_cons_succ, List.getElem?_cons_zero]; rfl)
          case hy19 => refine Or.inl ⟨by rfl, ?_⟩; intro w hSw; (try dsimp only at hSw); go_simp <;> with_reducible rfl
          case hQ19 => exact fun _ _ _ h => h
          try simp only [Act.put, List.setIfInBounds_toArray, List.set_cons_zero, List.set_cons_succ]
          refine' wpAnyH_take (i := 20) (v := _) ?hi20 (by kernel_rfl) (by kernel_rfl) (by kernel_rfl) ?hQ20 ?hy20 (by assumption) ?_
          case hi20 => (simp only [List.getElem?_toArray, List.getElem?_cons_succ, List.getElem?_cons_zero]; rfl)
          case hy20 => refine Or.inl ⟨by rfl, ?_⟩; intro w hSw; (try dsimp only at hSw); go_simp <;> with_reducible rfl
          case hQ20 => exact fun _ _ _ h => h
          try simp only [Act.put, List.setIfInBounds_toArray, List.set_cons_zero, List.set_cons_succ]
          refine' wpAnyH_take (i := 21) (v := _) ?hi21 (by kernel_rfl) (by kernel_rfl) (by kernel_rfl) ?hQ21 ?hy21 (by assumption) ?_
          case hi21 => (simp only [List.getElem?_toArray, List.getElem?_cons_succ, List.getElem?_cons_zero]; rfl)
          case hy21 => refine Or.inl ⟨by rfl, ?_⟩; intro w hSw; (try dsimp only at hSw); go_simp <;> with_reducible rfl
          case hQ21 => exact fun _ _ _ h => h
          try simp only [Act.put, List.setIfInBounds_toArray, List.set_cons_zero, List.set_cons_succ]
          refine wpAnyH_ready (rs := [22]) (by kernel_rfl) (by simp) ?_
          refine AllReadyH.cons rfl (fun KK hKK => ?_) ?_
          · go_simp
            go_at_call 40
            refine (width_any a b c d f _).mono ?_
            rintro ek wk22 ⟨hek, hbk22⟩
            rw [HW.out] at hek; subst hek
            have hxk22 := Ext.trans (w := Wb) (by repeat (first | with_reducible assumption | with_reducible exact Ext.refl _ | with_reducible apply Ext.alloc | with_reducible apply Ext.drew | with_reducible apply Ext.drewN)) hbk22
            refine hKK.out _ _ ?_ (fun hHeld => ?_)
            · exact hS _ (by repeat (first | with_reducible assumption | with_reducible exact Ext.refl _ | with_reducible apply Ext.alloc | with_reducible apply Ext.drew | with_reducible apply Ext.drewN))
            clear hKK KK
            try simp only [Act.put, List.setIfInBounds_toArray, List.set_cons_zero, List.set_cons_succ]
            refine' wpAnyH_take (i := 23) (v := _) ?hi23 (by kernel_rfl) (by kernel_rfl) (by kernel_rfl) ?hQ23 ?hy23 (by assumption) ?_
            case hi23 => (simp only [List.getElem?_toArray, List.getElem?_cons_succ, List.getElem?_cons_zero]; rfl)
            case hy23 => refine Or.inl ⟨by rfl, ?_⟩; intro w hSw; (try dsimp only at hSw); go_simp <;> with_reducible rfl
            case hQ23 => exact fun _ _ _ h => h
            try simp only [Act.put, List.setIfInBounds_toArray, List.set_cons_zero, List.set_cons_succ]
            refine' wpAnyH_take (i := 24) (v := _) ?hi24 (by kernel_rfl) (by kernel_rfl) (by kernel_rfl) ?hQ24 ?hy24 (by assumption) ?_
            case hi24 => (simp only [List.getElem?_toArray, List.getElem?_cons_succ, List.getElem?_cons_zero]; rfl)
            case hy24 => refine Or.inl ⟨by rfl, ?_⟩; intro w hSw; (try dsimp only at hSw); go_simp <;> with_reducible rfl
            case hQ24 => exact fun _ _ _ h => h
            try simp only [Act.put, List.setIfInBounds_toArray, List.set_cons_zero, List.set_cons_succ]
            refine wpAnyH_done (by kernel_rfl) ?_ _
            go_wp2
            go_ret2
            exact ⟨none, 0, 0, by rw [HNO.out]; rfl, by rw [HNO.out]; exact OwnI.nil _ _ _, E.trans hxk22⟩
          exact AllReadyH.nil
        exact AllReadyH.nil
      exact AllReadyH.nil
    exact AllReadyH.nil
  have hz : ((n : Int) != wd) = false := by simp [hne]
  have hog : opG p q g x a b c d f l = true := by unfold opG; rw [h1, h2, HL.out, hw, decide_eq_true hne, show (fun c : Int × Int => elB p q c.1 && elB p q c.2) = ciB p q from rfl, h4]; rfl
  have HOG : Hid (opR p q g x a b c d f l = if lgsB p q g x l && opnOK a b c d f (lgsE p q g x l) then some (opnV a b f (lgsE p q g x l)) else none) := by show _ = _; unfold opR; rw [hog, Bool.true_and]
  have hi := grpB_in hgg
  have hG9 : 0 ≤ g ∧ g ≤ 2000000000 := by have h9 := hi; unfold grpB at hgg; simp only [Bool.and_eq_true] at hgg; have := inR_iff.1 hgg.2.2.2.1; have := hi.p9; omega
  have hgq : powM g q p = 1 := by unfold grpB at hgg; simp only [Bool.and_eq_true, decide_eq_true_eq] at hgg; exact hgg.2.2.2.2.1
  have h24 : n ≤ 24 := by simp only [Bool.and_eq_true, decide_eq_true_eq] at h4; exact h4.1
  have HRG : Hid (∀ y ∈ l, (0 ≤ y.1 ∧ y.1 ≤ 3000000000) ∧ 0 ≤ y.2 ∧ y.2 ≤ 3000000000) := by
    intro y hy
    simp only [Bool.and_eq_true] at h4
    have h5 := List.all_eq_true.1 h4.2 y hy
    unfold ciB at h5
    rw [Bool.and_eq_true] at h5
    have a1 := (elB_iff.1 h5.1).1
    have a2 := (elB_iff.1 h5.2).1
    have := hi.p9
    exact ⟨⟨by omega, by omega⟩, by omega, by omega⟩
  have hp3 := hi.p3
  have hp9 := hi.p9
  have hq2 := hi.q2
  have hqp := hi.qp
  have hxr := inR_iff.1 h2
  have hk9 := valid_kind hvv
  have hw1 : a = 1 → (n : Int) = b := fun e => by rw [hne, ← hw, if_pos (.inl e)]
  have hw2 : a = 2 → (n : Int) = b := fun e => by rw [hne, ← hw, if_pos (.inr e)]
  have hw3 : a = 3 ∨ a = 4 → n = 1 := fun e => by
    have : wd = 1 := by rw [← hw, if_neg (by omega)]
    omega
  have HVV := Lib.hid hvv
  have HWa := Lib.hid hw1
  have HWb := Lib.hid hw2
  have HWc := Lib.hid hw3
  clear hw1 hw2 hw3
  obtain ⟨P, rfl⟩ := Int.eq_ofNat_of_zero_le (show 0 ≤ p by omega)
  obtain ⟨G, rfl⟩ := Int.eq_ofNat_of_zero_le hG9.1
  clear h1 h2 h4 hne hw hog hgg hvv hi
  go_enter Tryz.func10, Tryz.ntmps10
  go_wp2_with fail
  generalize (((w.alloc (.cells #[.int .i64 (P : Int), .int .i64 q, .int .i64 (G : Int)] 36)).alloc (.cells #[.int .i64 a, .int .i64 b, .int .i64 c, .int .i64 d, .int .i64 f] 38)).alloc (.cells #[.int .i64 v, .slice A n k0, .slice B m e, .slice C1 k1 f1, .slice C2 k2 f2, .slice C3 k3 f3] 44)) = Wb at *
  have hS : ∀ V, Ext Wb V → V.cell? ⟨w.heap.size, 0, none⟩ = some (.int .i64 (P : Int)) ∧ V.cell? ⟨w.heap.size, 1, none⟩ = some (.int .i64 q) ∧ V.cell? ⟨w.heap.size, 2, none⟩ = some (.int .i64 (G : Int)) ∧ V.cell? ⟨w.heap.size + 1, 0, none⟩ = some (.int .i64 a) ∧ V.cell? ⟨w.heap.size + 1, 1, none⟩ = some (.int .i64 b) ∧ V.cell? ⟨w.heap.size + 1, 2, none⟩ = some (.int .i64 c) ∧ V.cell? ⟨w.heap.size + 1, 3, none⟩ = some (.int .i64 d) ∧ V.cell? ⟨w.heap.size + 1, 4, none⟩ = some (.int .i64 f) ∧ V.cell? ⟨w.heap.size + 1 + 1, 1, none⟩ = some (.slice A n k0) := fun V hV => by
    have a0 := (B0.ext hV).cells
    have a1 := (B1.ext hV).cells
    have a2 := (B2.ext hV).cells
    exact ⟨a0 0, a0 1, a0 2, a1 0, a1 1, a1 2, a1 3, a1 4, a2 1⟩
  refine wp_region_held_drew (S := fun V => V.cell? ⟨w.heap.size, 0, none⟩ = some (.int .i64 (P : Int)) ∧ V.cell? ⟨w.heap.size, 1, none⟩ = some (.int .i64 q) ∧ V.cell? ⟨w.heap.size, 2, none⟩ = some (.int .i64 (G : Int)) ∧ V.cell? ⟨w.heap.size + 1, 0, none⟩ = some (.int .i64 a) ∧ V.cell? ⟨w.heap.size + 1, 1, none⟩ = some (.int .i64 b) ∧ V.cell? ⟨w.heap.size + 1, 2, none⟩ = some (.int .i64 c) ∧ V.cell? ⟨w.heap.size + 1, 3, none⟩ = some (.int .i64 d) ∧ V.cell? ⟨w.heap.size + 1, 4, none⟩ = some (.int .i64 f) ∧ V.cell? ⟨w.heap.size + 1 + 1, 1, none⟩ = some (.slice A n k0)) (by kernel_rfl) ?_ (fun hHeld => ?_)
  · exact hS _ (by repeat (first | with_reducible assumption | with_reducible exact Ext.refl _ | with_reducible apply Ext.alloc | with_reducible apply Ext.drew | with_reducible apply Ext.drewN))
  refine' wpAnyH_take (i := 0) (v := _) ?hi0 (by kernel_rfl) (by kernel_rfl) (by kernel_rfl) ?hQ0 ?hy0 (by assumption) ?_
  case hi0 => (simp only [List.getElem?_toArray, List.getElem?_cons_zero]; rfl)
  case hy0 => refine Or.inl ⟨by rfl, ?_⟩; intro w hSw; (try dsimp only at hSw); go_simp <;> with_reducible rfl
  case hQ0 => exact fun _ _ _ h => h
  try simp only [Act.put, List.setIfInBounds_toArray, List.set_cons_zero, List.set_cons_succ]
  refine' wpAnyH_take (i := 1) (v := _) ?hi1 (by kernel_rfl) (by kernel_rfl) (by kernel_rfl) ?hQ1 ?hy1 (by assumption) ?_
  case hi1 => (simp only [List.getElem?_toArray, List.getElem?_cons_succ, List.getElem?_cons_zero]; rfl)
  case hy1 => refine Or.inl ⟨by rfl, ?_⟩; intro w hSw; (try dsimp only at hSw); go_simp <;> with_reducible rfl
  case hQ1 => exact fun _ _ _ h => h
  try simp only [Act.put, List.setIfInBounds_toArray, List.set_cons_zero, List.set_cons_succ]
  refine wpAnyH_ready (rs := [2]) (by kernel_rfl) (by simp) ?_
  refine AllReadyH.cons rfl (fun KK hKK => ?_) ?_
  · go_simp
    go_at_call 37
    refine (iSea_any (P : Int) q (G : Int) a b c d f _).mono ?_
    rintro ek wk2 ⟨hek, hbk2⟩
    rw [H1.out] at hek; subst hek
    have hxk2 := Ext.trans (w := Wb) (by repeat (first | with_reducible assumption | with_reducible exact Ext.refl _ | with_reducible apply Ext.alloc | with_reducible apply Ext.drew | with_reducible apply Ext.drewN)) hbk2
    refine hKK.out _ _ ?_ (fun hHeld => ?_)
    · exact hS _ (by repeat (first | with_reducible assumption | with_reducible exact Ext.refl _ | with_reducible apply Ext.alloc | with_reducible apply Ext.drew | with_reducible apply Ext.drewN))
    clear hKK KK
    try simp only [Act.put, List.setIfInBounds_toArray, List.set_cons_zero, List.set_cons_succ]
    refine' wpAnyH_take (i := 3) (v := _) ?hi3 (by kernel_rfl) (by kernel_rfl) (by kernel_rfl) ?hQ3 ?hy3 (by assumption) ?_
    case hi3 => (simp only [List.getElem?_toArray, List.getElem?_cons_succ, List.getElem?_cons_zero]; rfl)
    case hy3 => refine Or.inl ⟨by rfl, ?_⟩; intro w hSw; (try dsimp only at hSw); go_simp <;> with_reducible rfl
    case hQ3 => exact fun _ _ _ h => h
    try simp only [Act.put, List.setIfInBounds_toArray, List.set_cons_zero, List.set_cons_succ]
    refine' wpAnyH_take (i := 4) (v := _) ?hi4 (by kernel_rfl) (by kernel_rfl) (by kernel_rfl) ?hQ4 ?hy4 (by assumption) ?_
    case hi4 => (simp only [List.getElem?_toArray, List.getElem?_cons_succ, List.getElem?_cons_zero]; rfl)
    case hy4 => refine Or.inl ⟨by rfl, ?_⟩; intro w hSw; (try dsimp only at hSw); go_simp <;> with_reducible rfl
    case hQ4 => exact fun _ _ _ h => h
    try simp only [Act.put, List.setIfInBounds_toArray, List.set_cons_zero, List.set_cons_succ]
    refine' wpAnyH_take (i := 5) (v := _) ?hi5 (by kernel_rfl) (by kernel_rfl) (by kernel_rfl) ?hQ5 ?hy5 (by assumption) ?_
    case hi5 => (simp only [List.getElem?_toArray, List.getElem?_cons_succ, List.getElem?_cons_zero]; rfl)
    case hy5 => refine Or.inl ⟨by rfl, ?_⟩; intro w hSw; (try dsimp only at hSw); go_simp <;> with_reducible rfl
    case hQ5 => exact fun _ _ _ h => h
    try simp only [Act.put, List.setIfInBounds_toArray, List.set_cons_zero, List.set_cons_succ]
    refine' wpAnyH_take (i := 6) (v := _) ?hi6 (by kernel_rfl) (by kernel_rfl) (by kernel_rfl) ?hQ6 ?hy6 (by assumption) ?_
    case hi6 => (simp only [List.getElem?_toArray, List.getElem?_cons_succ, List.getElem?_cons_zero]; rfl)
    case hy6 => refine Or.inl ⟨by rfl, ?_⟩; intro w hSw; (try dsimp only at hSw); go_simp <;> with_reducible rfl
    case hQ6 => exact fun _ _ _ h => h
    try simp only [Act.put, List.setIfInBounds_toArray, List.set_cons_zero, List.set_cons_succ]
    refine wpAnyH_ready (rs := [7]) (by kernel_rfl) (by simp) ?_
    refine AllReadyH.cons rfl (fun KK hKK => ?_) ?_
    · go_simp
      go_at_call 38
      refine (isExp_any (P : Int) q (G : Int) x _ HGB.out).mono ?_
      rintro ek wk7 ⟨hek, hbk7⟩
      rw [H2.out] at hek; subst hek
      have hxk7 := Ext.trans (w := Wb) (by repeat (first | with_reducible assumption | with_reducible exact Ext.refl _ | with_reducible apply Ext.alloc | with_reducible apply Ext.drew | with_reducible apply Ext.drewN)) hbk7
      refine hKK.out _ _ ?_ (fun hHeld => ?_)
      · exact hS _ (by repeat (first | with_reducible assumption | with_reducible exact Ext.refl _ | with_reducible apply Ext.alloc | with_reducible apply Ext.drew | with_reducible apply Ext.drewN))
      clear hKK KK
      try simp only [Act.put, List.setIfInBounds_toArray, List.set_cons_zero, List.set_cons_succ]
      refine' wpAnyH_take (i := 8) (v := _) ?hi8 (by kernel_rfl) (by kernel_rfl) (by kernel_rfl) ?hQ8 ?hy8 (by assumption) ?_
      case hi8 => (simp only [List.getElem?_toArray, List.getElem?_cons_succ, List.getElem?_cons_zero]; rfl)
      case hy8 => refine Or.inl ⟨by rfl, ?_⟩; intro w hSw; (try dsimp only at hSw); go_simp <;> with_reducible rfl
      case hQ8 => exact fun _ _ _ h => h
      try simp only [Act.put, List.setIfInBounds_toArray, List.set_cons_zero, List.set_cons_succ]
      refine' wpAnyH_take (i := 9) (v := _) ?hi9 (by kernel_rfl) (by kernel_rfl) (by kernel_rfl) ?hQ9 ?hy9 (by assumption) ?_
      case hi9 => (simp only [List.getElem?_toArray, List.getElem?_cons_succ, List.getElem?_cons_zero]; rfl)
      case hy9 => refine Or.inl ⟨by rfl, ?_⟩; intro w hSw; (try dsimp only at hSw); go_simp <;> with_reducible rfl
      case hQ9 => exact fun _ _ _ h => h
      try simp only [Act.put, List.setIfInBounds_toArray, List.set_cons_zero, List.set_cons_succ]
      refine' wpAnyH_take (i := 10) (v := _) ?hi10 (by kernel_rfl) (by kernel_rfl) (by kernel_rfl) ?hQ10 ?hy10 (by assumption) ?_
      case hi10 => (simp only [List.getElem?_toArray, List.getElem?_cons_succ, List.getElem?_cons_zero]; rfl)
      case hy10 => refine Or.inl ⟨by rfl, ?_⟩; intro w hSw; (try dsimp only at hSw); go_simp <;> with_reducible rfl
      case hQ10 => exact fun _ _ _ h => h
      try simp only [Act.put, List.setIfInBounds_toArray, List.set_cons_zero, List.set_cons_succ]
      refine' wpAnyH_take (i := 11) (v := _) ?hi11 (by kernel_rfl) (by kernel_rfl) (by kernel_rfl) ?hQ11 ?hy11 (by assumption) ?_
      case hi11 => (simp only [List.getElem?_toArray, List.getElem?_cons_succ, List.getElem?_cons_zero]; rfl)
      case hy11 => refine Or.inl ⟨by rfl, ?_⟩; intro w hSw; (try dsimp only at hSw); go_simp <;> with_reducible rfl
      case hQ11 => exact fun _ _ _ h => h
      try simp only [Act.put, List.setIfInBounds_toArray, List.set_cons_zero, List.set_cons_succ]
      refine' wpAnyH_take (i := 12) (v := _) ?hi12 (by kernel_rfl) (by kernel_rfl) (by kernel_rfl) ?hQ12 ?hy12 (by assumption) ?_
      case hi12 => (simp only [List.getElem?_toArray, List.getElem?_cons_succ, List.getElem?_cons_zero]; rfl)
      case hy12 => refine Or.inl ⟨by rfl, ?_⟩; intro w hSw; (try dsimp only at hSw); go_simp <;> with_reducible rfl
      case hQ12 => exact fun _ _ _ h => h
      try simp only [Act.put, List.setIfInBounds_toArray, List.set_cons_zero, List.set_cons_succ]
      refine' wpAnyH_take (i := 13) (v := _) ?hi13 (by kernel_rfl) (by kernel_rfl) (by kernel_rfl) ?hQ13 ?hy13 (by assumption) ?_
      case hi13 => (simp only [List.getElem?_toArray, List.getElem?_cons_succ, List.getElem?_cons_zero]; rfl)
      case hy13 => refine Or.inl ⟨by rfl, ?_⟩; intro w hSw; (try dsimp only at hSw); go_simp <;> with_reducible rfl
      case hQ13 => exact fun _ _ _ h => h
      try simp only [Act.put, List.setIfInBounds_toArray, List.set_cons_zero, List.set_cons_succ]
      refine wpAnyH_ready (rs := [14]) (by kernel_rfl) (by simp) ?_
      refine AllReadyH.cons rfl (fun KK hKK => ?_) ?_
      · go_simp
        go_at_call 39
        refine (hasCiphers_any (P : Int) q (G : Int) A n k0 l _ HGB.out (ha.ext (E.trans (by repeat (first | with_reducible assumption | with_reducible exact Ext.refl _ | with_reducible apply Ext.alloc | with_reducible apply Ext.drew | with_reducible apply Ext.drewN)))) HL.out hn).mono ?_
        rintro ek wk14 ⟨hek, hbk14⟩
        rw [H4.out] at hek; subst hek
        have hxk14 := Ext.trans (w := Wb) (by repeat (first | with_reducible assumption | with_reducible exact Ext.refl _ | with_reducible apply Ext.alloc | with_reducible apply Ext.drew | with_reducible apply Ext.drewN)) hbk14
        refine hKK.out _ _ ?_ (fun hHeld => ?_)
        · exact hS _ (by repeat (first | with_reducible assumption | with_reducible exact Ext.refl _ | with_reducible apply Ext.alloc | with_reducible apply Ext.drew | with_reducible apply Ext.drewN))
        clear hKK KK
        try simp only [Act.put, List.setIfInBounds_toArray, List.set_cons_zero, List.set_cons_succ]
        refine' wpAnyH_take (i := 15) (v := _) ?hi15 (by kernel_rfl) (by kernel_rfl) (by kernel_rfl) ?hQ15 ?hy15 (by assumption) ?_
        case hi15 => (simp only [List.getElem?_toArray, List.getElem?_cons_succ, List.getElem?_cons_zero]; rfl)
        case hy15 => refine Or.inl ⟨by rfl, ?_⟩; intro w hSw; (try dsimp only at hSw); go_simp <;> with_reducible rfl
        case hQ15 => exact fun _ _ _ h => h
        try simp only [Act.put, List.setIfInBounds_toArray, List.set_cons_zero, List.set_cons_succ]
        refine' wpAnyH_take (i := 16) (v := _) ?hi16 (by kernel_rfl) (by kernel_rfl) (by kernel_rfl) ?hQ16 ?hy16 (by assumption) ?_
        case hi16 => (simp only [List.getElem?_toArray, List.getElem?_cons_succ, List.getElem?_cons_zero]; rfl)
        case hy16 => refine Or.inl ⟨by rfl, ?_⟩; intro w hSw; (try dsimp only at hSw); go_simp <;> with_reducible rfl
        case hQ16 => exact fun _ _ _ h => h
        try simp only [Act.put, List.setIfInBounds_toArray, List.set_cons_zero, List.set_cons_succ]
        refine' wpAnyH_take (i := 17) (v := _) ?hi17 (by kernel_rfl) (by kernel_rfl) (by kernel_rfl) ?hQ17 ?hy17 (by assumption) ?_
        case hi17 => (simp only [List.getElem?_toArray, List.getElem?_cons_succ, List.getElem?_cons_zero]; rfl)
        case hy17 => refine Or.inl ⟨by rfl, ?_⟩; intro w hSw; (try dsimp only at hSw); go_simp <;> with_reducible rfl
        case hQ17 => exact fun _ _ _ h => h
        try simp only [Act.put, List.setIfInBounds_toArray, List.set_cons_zero, List.set_cons_succ]
        refine' wpAnyH_take (i := 18) (v := _) ?hi18 (by kernel_rfl) (by kernel_rfl) (by kernel_rfl) ?hQ18 ?hy18 (by assumption) ?_
        case hi18 => (simp only [List.getElem?_toArray, List.getElem?_cons_succ, List.getElem?_cons_zero]; rfl)
        case hy18 => refine Or.inl ⟨by rfl, ?_⟩; intro w hSw; (try dsimp only at hSw); go_simp <;> with_reducible rfl
        case hQ18 => exact fun _ _ _ h => h
        try simp only [Act.put, List.setIfInBounds_toArray, List.set_cons_zero, List.set_cons_succ]
        refine' wpAnyH_take (i := 19) (v := _) ?hi19 (by kernel_rfl) (by kernel_rfl) (by kernel_rfl) ?hQ19 ?hy19 (by assumption) ?_
        case hi19 => (simp only [List.getElem?_toArray, List.getElem?_cons_succ, List.getElem?_cons_zero]; rfl)
        case hy19 => refine Or.inl ⟨by rfl, ?_⟩; intro w hSw; (try dsimp only at hSw); go_simp <;> with_reducible rfl
        case hQ19 => exact fun _ _ _ h => h
        try simp only [Act.put, List.setIfInBounds_toArray, List.set_cons_zero, List.set_cons_succ]
        refine' wpAnyH_take (i := 20) (v := _) ?hi20 (by kernel_rfl) (by kernel_rfl) (by kernel_rfl) ?hQ20 ?hy20 (by assumption) ?_
        case hi20 => (simp only [List.getElem?_toArray, List.getElem?_cons_succ, List.getElem?_cons_zero]; rfl)
        case hy20 => refine Or.inl ⟨by rfl, ?_⟩; intro w hSw; (try dsimp only at hSw); go_simp <;> with_reducible rfl
        case hQ20 => exact fun _ _ _ h => h
        try simp only [Act.put, List.setIfInBounds_toArray, List.set_cons_zero, List.set_cons_succ]
        refine' wpAnyH_take (i := 21) (v := _) ?hi21 (by kernel_rfl) (by kernel_rfl) (by kernel_rfl) ?hQ21 ?hy21 (by assumption) ?_
        case hi21 => (simp only [List.getElem?_toArray, List.getElem?_cons_succ, List.getElem?_cons_zero]; rfl)
        case hy21 => refine Or.inl ⟨by rfl, ?_⟩; intro w hSw; (try dsimp only at hSw); go_simp <;> with_reducible rfl
        case hQ21 => exact fun _ _ _ h => h
        try simp only [Act.put, List.setIfInBounds_toArray, List.set_cons_zero, List.set_cons_succ]
        refine wpAnyH_ready (rs := [22]) (by kernel_rfl) (by simp) ?_
        refine AllReadyH.cons rfl (fun KK hKK => ?_) ?_
        · go_simp
          go_at_call 40
          refine (width_any a b c d f _).mono ?_
          rintro ek wk22 ⟨hek, hbk22⟩
          rw [HW.out] at hek; subst hek
          have hxk22 := Ext.trans (w := Wb) (by repeat (first | with_reducible assumption | with_reducible exact Ext.refl _ | with_reducible apply Ext.alloc | with_reducible apply Ext.drew | with_reducible apply Ext.drewN)) hbk22
          refine hKK.out _ _ ?_ (fun hHeld => ?_)
          · exact hS _ (by repeat (first | with_reducible assumption | with_reducible exact Ext.refl _ | with_reducible apply Ext.alloc | with_reducible apply Ext.drew | with_reducible apply Ext.drewN))
          clear hKK KK
          try simp only [Act.put, List.setIfInBounds_toArray, List.set_cons_zero, List.set_cons_succ]
          refine' wpAnyH_take (i := 23) (v := _) ?hi23 (by kernel_rfl) (by kernel_rfl) (by kernel_rfl) ?hQ23 ?hy23 (by assumption) ?_
          case hi23 => (simp only [List.getElem?_toArray, List.getElem?_cons_succ, List.getElem?_cons_zero]; rfl)
          case hy23 => refine Or.inl ⟨by rfl, ?_⟩; intro w hSw; (try dsimp only at hSw); go_simp <;> with_reducible rfl
          case hQ23 => exact fun _ _ _ h => h
          try simp only [Act.put, List.setIfInBounds_toArray, List.set_cons_zero, List.set_cons_succ]
          refine' wpAnyH_take (i := 24) (v := _) ?hi24 (by kernel_rfl) (by kernel_rfl) (by kernel_rfl) ?hQ24 ?hy24 (by assumption) ?_
          case hi24 => (simp only [List.getElem?_toArray, List.getElem?_cons_succ, List.getElem?_cons_zero]; rfl)
          case hy24 => refine Or.inl ⟨by rfl, ?_⟩; intro w hSw; (try dsimp only at hSw); go_simp <;> with_reducible rfl
          case hQ24 => exact fun _ _ _ h => h
          try simp only [Act.put, List.setIfInBounds_toArray, List.set_cons_zero, List.set_cons_succ]
          refine wpAnyH_done (by kernel_rfl) ?_ _
          replace E := E.trans hxk22
          replace B0 := B0.ext hxk22
          replace B1 := B1.ext hxk22
          replace B2 := B2.ext hxk22
          generalize wk22 = w1 at *
          clear hS
          have hsz1 := E.size
          have hzb := B2.lt
          obtain ⟨M, hM⟩ := Int.eq_ofNat_of_zero_le (show 0 ≤ q - 1 by omega)
          have hwm : IntKind.i64.wrap (q - 1) = (M : Int) := by rw [IntKind.wrap_i64]; omega
          have hGM : G ^ (M + 1) % P = 1 := by
            have h9 := hgq
            unfold powM at h9
            rw [Int.toNat_natCast, Int.toNat_natCast, show q.toNat = M + 1 by omega] at h9
            exact Int.ofNat_inj.1 (h9.trans rfl)
          have hM9 : M ≤ 2000000000 := by omega
          clear hM
          obtain ⟨N, hN, hN9, hLN⟩ : ∃ N : Nat, (if (M : Int) < 100000 then (M : Int) else 100000) = (N : Int) ∧ N ≤ 100000 ∧ (∀ X, lgO P G X N = lgO P G X 100000) := by
            by_cases hm : (M : Int) < 100000
            · exact ⟨M, by rw [if_pos hm], by omega, fun X => by
                have h9 := lgO_min (M := 100000) (X := X) (Q := M + 1) (by omega) (by omega) hGM
                rw [show min 100000 (M + 1 - 1) = M by omega] at h9
                exact h9⟩
            · exact ⟨100000, by rw [if_neg hm]; omega, by omega, fun _ => rfl⟩
          have HNI := Lib.hid hN
          have HLM := Lib.hid hLN
          clear hN hLN
          clear hGM hgq
          have CQ2 := B2.cells
          have CQ3 := (B2.alloc (.cells #[] 3)).cells
          go_wp2
          clear CQ2 CQ3
          go_loopw [10, 45] (fun xs i wr => ∃ (j : Nat) (U : Option Addr) (uc : Nat), j ≤ n ∧ i = .int .i64 j ∧ xs = .slice U j uc ∧ OwnI wr w1.heap.size 3 U j uc (lgsE (P : Int) q (G : Int) x (l.take j)) ∧ Hid (lgsB (P : Int) q (G : Int) x (l.take j) = true) ∧ Blk wr w.heap.size 36 #[.int .i64 (P : Int), .int .i64 q, .int .i64 (G : Int)] ∧ Blk wr (w.heap.size + 1) 38 #[.int .i64 a, .int .i64 b, .int .i64 c, .int .i64 d, .int .i64 f] ∧ Ext w1 wr) (fun _ i _ => n - (intOf i).toNat)
          case atStart => exact ⟨0, _, 0, Nat.zero_le _, rfl, rfl, ownI_lit (n := 0) (w := w1) [] rfl rfl (Nat.le_refl _) (Nat.zero_le _), rfl, B0.alloc _, B1.alloc _, (Ext.refl _).alloc _⟩
          case round =>
            clear B0 B1 B2
            obtain ⟨j, U, uc, hj, rfl, rfl, hU, HB, B0, B1, E2⟩ := hrel
            by_cases hlt : j < n
            · have hlt' : j < l.length := by rw [HL.out]; exact hlt
              obtain ⟨ad, rfl, hc, hd⟩ := (ha.ext (E.trans E2)).at_ hlt'
              have hx2 := HRG.out _ (List.getElem_mem hlt')
              have htk := fun k (hk : lgI (P : Int) (G : Int) (gdec (P : Int) q x l[j].1 l[j].2) = some k) => lgsE_take hlt' hk
              have hbk := fun k (hk : lgI (P : Int) (G : Int) (gdec (P : Int) q x l[j].1 l[j].2) = some k) => lgsB_take hlt' HB.out hk
              have hno := fun (hk : lgI (P : Int) (G : Int) (gdec (P : Int) q x l[j].1 l[j].2) = none) => lgsB_no hlt' hk
              generalize l[j] = y at *
              obtain ⟨x1, x2⟩ := y
              simp only at hc hd hx2 htk hbk hno
              have hD : 0 ≤ gdec (P : Int) q x x1 x2 := by unfold gdec; exact (gmul2_rg HGB.out hx2.2.1 (gpw_rg (P : Int) q _ (-1) HGB.out).1).1
              obtain ⟨X, hX⟩ := Int.eq_ofNat_of_zero_le hD
              have HX := Lib.hid hX
              have hlg : lgI (P : Int) (G : Int) (gdec (P : Int) q x x1 x2) = lgO P G X 100000 := by rw [hX]; rfl
              rw [hlg] at htk hbk hno
              have HTK := Lib.hid htk
              have HBK := Lib.hid hbk
              have HNL := Lib.hid hno
              have hW := (Ext.refl wr).alloc (.cells #[.int .i64 x1, .int .i64 x2] 70)
              have B6 := Blk.new wr 70 #[.int .i64 x1, .int .i64 x2]
              have hS7 : ∀ V, Ext (wr.alloc (.cells #[.int .i64 x1, .int .i64 x2] 70)) V → V.cell? ⟨w.heap.size, 0, none⟩ = some (.int .i64 (P : Int)) ∧ V.cell? ⟨w.heap.size, 1, none⟩ = some (.int .i64 q) ∧ V.cell? ⟨w.heap.size, 2, none⟩ = some (.int .i64 (G : Int)) ∧ V.cell? ⟨wr.heap.size, 0, none⟩ = some (.int .i64 x1) ∧ V.cell? ⟨wr.heap.size, 1, none⟩ = some (.int .i64 x2) := fun V hV => by
                have a0 := (B0.ext (hW.trans hV)).cells
                have a6 := (B6.ext hV).cells
                exact ⟨a0 0, a0 1, a0 2, a6 0, a6 1⟩
              have CC0 := B0.cells
              clear htk hbk hno hlg hX hD
              cases hlo : lgO P G X 100000 with
              | none =>
                have HLO := Lib.hid hlo
                have HNO : Hid (opR (P : Int) q (G : Int) x a b c d f l = none) := by show _ = _; rw [HOG.out, HNL.out hlo, Bool.false_and]; rfl
                clear hlo
                go_wp2
                refine wp_region_held_drew (S := fun V => V.cell? ⟨w.heap.size, 0, none⟩ = some (.int .i64 (P : Int)) ∧ V.cell? ⟨w.heap.size, 1, none⟩ = some (.int .i64 q) ∧ V.cell? ⟨w.heap.size, 2, none⟩ = some (.int .i64 (G : Int)) ∧ V.cell? ⟨wr.heap.size, 0, none⟩ = some (.int .i64 x1) ∧ V.cell? ⟨wr.heap.size, 1, none⟩ = some (.int .i64 x2)) (by kernel_rfl) ?_ (fun hHeld => ?_)
                · exact hS7 _ (by repeat (first | with_reducible assumption | with_reducible exact Ext.refl _ | with_reducible apply Ext.alloc | with_reducible apply Ext.drew | with_reducible apply Ext.drewN))
                refine' wpAnyH_take (i := 0) (v := _) ?hi0 (by kernel_rfl) (by kernel_rfl) (by kernel_rfl) ?hQ0 ?hy0 (by assumption) ?_
                case hi0 => (simp only [List.getElem?_toArray, List.getElem?_cons_zero]; rfl)
                case hy0 => refine Or.inl ⟨by rfl, ?_⟩; intro w hSw; (try dsimp only at hSw); go_simp <;> with_reducible rfl
                case hQ0 => exact fun _ _ _ h => h
                try simp only [Act.put, List.setIfInBounds_toArray, List.set_cons_zero, List.set_cons_succ]
                refine' wpAnyH_take (i := 1) (v := _) ?hi1 (by kernel_rfl) (by kernel_rfl) (by kernel_rfl) ?hQ1 ?hy1 (by assumption) ?_
                case hi1 => (simp only [List.getElem?_toArray, List.getElem?_cons_succ, List.getElem?_cons_zero]; rfl)
                case hy1 => refine Or.inl ⟨by rfl, ?_⟩; intro w hSw; (try dsimp only at hSw); go_simp <;> with_reducible rfl
                case hQ1 => exact fun _ _ _ h => h
                try simp only [Act.put, List.setIfInBounds_toArray, List.set_cons_zero, List.set_cons_succ]
                refine' wpAnyH_take (i := 2) (v := _) ?hi2 (by kernel_rfl) (by kernel_rfl) (by kernel_rfl) ?hQ2 ?hy2 (by assumption) ?_
                case hi2 => (simp only [List.getElem?_toArray, List.getElem?_cons_succ, List.getElem?_cons_zero]; rfl)
                case hy2 => refine Or.inl ⟨by rfl, ?_⟩; intro w hSw; (try dsimp only at hSw); go_simp <;> with_reducible rfl
                case hQ2 => exact fun _ _ _ h => h
                try simp only [Act.put, List.setIfInBounds_toArray, List.set_cons_zero, List.set_cons_succ]
                refine' wpAnyH_take (i := 3) (v := _) ?hi3 (by kernel_rfl) (by kernel_rfl) (by kernel_rfl) ?hQ3 ?hy3 (by assumption) ?_
                case hi3 => (simp only [List.getElem?_toArray, List.getElem?_cons_succ, List.getElem?_cons_zero]; rfl)
                case hy3 => refine Or.inl ⟨by rfl, ?_⟩; intro w hSw; (try dsimp only at hSw); go_simp <;> with_reducible rfl
                case hQ3 => exact fun _ _ _ h => h
                try simp only [Act.put, List.setIfInBounds_toArray, List.set_cons_zero, List.set_cons_succ]
                refine' wpAnyH_take (i := 4) (v := _) ?hi4 (by kernel_rfl) (by kernel_rfl) (by kernel_rfl) ?hQ4 ?hy4 (by assumption) ?_
                case hi4 => (simp only [List.getElem?_toArray, List.getElem?_cons_succ, List.getElem?_cons_zero]; rfl)
                case hy4 => refine Or.inl ⟨by rfl, ?_⟩; intro w hSw; (try dsimp only at hSw); go_simp <;> with_reducible rfl
                case hQ4 => exact fun _ _ _ h => h
                try simp only [Act.put, List.setIfInBounds_toArray, List.set_cons_zero, List.set_cons_succ]
                refine' wpAnyH_take (i := 5) (v := _) ?hi5 (by kernel_rfl) (by kernel_rfl) (by kernel_rfl) ?hQ5 ?hy5 (by assumption) ?_
                case hi5 => (simp only [List.getElem?_toArray, List.getElem?_cons_succ, List.getElem?_cons_zero]; rfl)
                case hy5 => refine Or.inl ⟨by rfl, ?_⟩; intro w hSw; (try dsimp only at hSw); go_simp <;> with_reducible rfl
                case hQ5 => exact fun _ _ _ h => h
                try simp only [Act.put, List.setIfInBounds_toArray, List.set_cons_zero, List.set_cons_succ]
                refine' wpAnyH_take (i := 7) (v := _) ?hi7 (by kernel_rfl) (by kernel_rfl) (by kernel_rfl) ?hQ7 ?hy7 (by assumption) ?_
                case hi7 => (simp only [List.getElem?_toArray, List.getElem?_cons_succ, List.getElem?_cons_zero]; rfl)
                case hy7 => refine Or.inl ⟨by rfl, ?_⟩; intro w hSw; (try dsimp only at hSw); go_simp <;> with_reducible rfl
                case hQ7 => exact fun _ _ _ h => h
                try simp only [Act.put, List.setIfInBounds_toArray, List.set_cons_zero, List.set_cons_succ]
                refine' wpAnyH_take (i := 8) (v := _) ?hi8 (by kernel_rfl) (by kernel_rfl) (by kernel_rfl) ?hQ8 ?hy8 (by assumption) ?_
                case hi8 => (simp only [List.getElem?_toArray, List.getElem?_cons_succ, List.getElem?_cons_zero]; rfl)
                case hy8 => refine Or.inl ⟨by rfl, ?_⟩; intro w hSw; (try dsimp only at hSw); go_simp <;> with_reducible rfl
                case hQ8 => exact fun _ _ _ h => h
                try simp only [Act.put, List.setIfInBounds_toArray, List.set_cons_zero, List.set_cons_succ]
                refine' wpAnyH_take (i := 9) (v := _) ?hi9 (by kernel_rfl) (by kernel_rfl) (by kernel_rfl) ?hQ9 ?hy9 (by assumption) ?_
                case hi9 => (simp only [List.getElem?_toArray, List.getElem?_cons_succ, List.getElem?_cons_zero]; rfl)
                case hy9 => refine Or.inl ⟨by rfl, ?_⟩; intro w hSw; (try dsimp only at hSw); go_simp <;> with_reducible rfl
                case hQ9 => exact fun _ _ _ h => h
                try simp only [Act.put, List.setIfInBounds_toArray, List.set_cons_zero, List.set_cons_succ]
                refine' wpAnyH_take (i := 10) (v := _) ?hi10 (by kernel_rfl) (by kernel_rfl) (by kernel_rfl) ?hQ10 ?hy10 (by assumption) ?_
                case hi10 => (simp only [List.getElem?_toArray, List.getElem?_cons_succ, List.getElem?_cons_zero]; rfl)
                case hy10 => refine Or.inl ⟨by rfl, ?_⟩; intro w hSw; (try dsimp only at hSw); go_simp <;> with_reducible rfl
                case hQ10 => exact fun _ _ _ h => h
                try simp only [Act.put, List.setIfInBounds_toArray, List.set_cons_zero, List.set_cons_succ]
                refine wpAnyH_ready (rs := [6]) (by kernel_rfl) (by simp) ?_
                refine AllReadyH.cons rfl (fun KK hKK => ?_) ?_
                · go_simp
                  go_at_call 42
                  refine (decrypt_any (P : Int) q (G : Int) x x1 x2 _ HGB.out hx2.1 hx2.2 (by omega)).mono ?_
                  rintro ek wk6 ⟨hek, hbk6⟩
                  rw [HX.out] at hek; subst hek
                  have hxk6 := Ext.trans (w := (wr.alloc (.cells #[.int .i64 x1, .int .i64 x2] 70))) (by repeat (first | with_reducible assumption | with_reducible exact Ext.refl _ | with_reducible apply Ext.alloc | with_reducible apply Ext.drew | with_reducible apply Ext.drewN)) hbk6
                  refine hKK.out _ _ ?_ (fun hHeld => ?_)
                  · exact hS7 _ (by repeat (first | with_reducible assumption | with_reducible exact Ext.refl _ | with_reducible apply Ext.alloc | with_reducible apply Ext.drew | with_reducible apply Ext.drewN))
                  clear hKK KK
                  try simp only [Act.put, List.setIfInBounds_toArray, List.set_cons_zero, List.set_cons_succ]
                  refine wpAnyH_ready (rs := [11]) (by kernel_rfl) (by simp) ?_
                  refine AllReadyH.cons rfl (fun KK hKK => ?_) ?_
                  · go_simp
                    go_at_call 41
                    rw [HNI.out]
                    refine (log_any q (G : Int) P G X N _ HGB.out (by omega) (by omega) (by omega)).mono ?_
                    rintro ek wk11 ⟨hek, hbk11⟩
                    rw [HLM.out, HLO.out] at hek
                    simp only [lgOut] at hek
                    subst hek
                    have hxk11 := Ext.trans (w := (wr.alloc (.cells #[.int .i64 x1, .int .i64 x2] 70))) (by repeat (first | with_reducible assumption | with_reducible exact Ext.refl _ | with_reducible apply Ext.alloc | with_reducible apply Ext.drew | with_reducible apply Ext.drewN)) hbk11
                    refine hKK.out _ _ ?_ (fun hHeld => ?_)
                    · exact hS7 _ (by repeat (first | with_reducible assumption | with_reducible exact Ext.refl _ | with_reducible apply Ext.alloc | with_reducible apply Ext.drew | with_reducible apply Ext.drewN))
                    clear hKK KK
                    try simp only [Act.put, List.setIfInBounds_toArray, List.set_cons_zero, List.set_cons_succ]
                    refine' wpAnyH_take (i := 12) (v := _) ?hi12 (by kernel_rfl) (by kernel_rfl) (by kernel_rfl) ?hQ12 ?hy12 (by assumption) ?_
                    case hi12 => (simp only [List.getElem?_toArray, List.getElem?_cons_succ, List.getElem?_cons_zero]; rfl)
                    case hy12 => refine Or.inl ⟨by rfl, ?_⟩; intro w hSw; (try dsimp only at hSw); go_simp <;> with_reducible rfl
                    case hQ12 => exact fun _ _ _ h => h
                    try simp only [Act.put, List.setIfInBounds_toArray, List.set_cons_zero, List.set_cons_succ]
                    refine wpAnyH_done (by kernel_rfl) ?_ _
                    go_wp2
                    go_ret2
                    exact ⟨none, 0, 0, by rw [HNO.out]; rfl, by rw [HNO.out]; exact OwnI.nil _ _ _, E.trans (E2.trans (hW.trans hxk11))⟩
                  exact AllReadyH.nil
                exact AllReadyH.nil
              | some k =>
                have HLO := Lib.hid hlo
                clear hlo
                go_wp2
                refine wp_region_held_drew (S := fun V => V.cell? ⟨w.heap.size, 0, none⟩ = some (.int .i64 (P : Int)) ∧ V.cell? ⟨w.heap.size, 1, none⟩ = some (.int .i64 q) ∧ V.cell? ⟨w.heap.size, 2, none⟩ = some (.int .i64 (G : Int)) ∧ V.cell? ⟨wr.heap.size, 0, none⟩ = some (.int .i64 x1) ∧ V.cell? ⟨wr.heap.size, 1, none⟩ = some (.int .i64 x2)) (by kernel_rfl) ?_ (fun hHeld => ?_)
                · exact hS7 _ (by repeat (first | with_reducible assumption | with_reducible exact Ext.refl _ | with_reducible apply Ext.alloc | with_reducible apply Ext.drew | with_reducible apply Ext.drewN))
                refine' wpAnyH_take (i := 0) (v := _) ?hi0 (by kernel_rfl) (by kernel_rfl) (by kernel_rfl) ?hQ0 ?hy0 (by assumption) ?_
                case hi0 => (simp only [List.getElem?_toArray, List.getElem?_cons_zero]; rfl)
                case hy0 => refine Or.inl ⟨by rfl, ?_⟩; intro w hSw; (try dsimp only at hSw); go_simp <;> with_reducible rfl
                case hQ0 => exact fun _ _ _ h => h
                try simp only [Act.put, List.setIfInBounds_toArray, List.set_cons_zero, List.set_cons_succ]
                refine' wpAnyH_take (i := 1) (v := _) ?hi1 (by kernel_rfl) (by kernel_rfl) (by kernel_rfl) ?hQ1 ?hy1 (by assumption) ?_
                case hi1 => (simp only [List.getElem?_toArray, List.getElem?_cons_succ, List.getElem?_cons_zero]; rfl)
                case hy1 => refine Or.inl ⟨by rfl, ?_⟩; intro w hSw; (try dsimp only at hSw); go_simp <;> with_reducible rfl
                case hQ1 => exact fun _ _ _ h => h
                try simp only [Act.put, List.setIfInBounds_toArray, List.set_cons_zero, List.set_cons_succ]
                refine' wpAnyH_take (i := 2) (v := _) ?hi2 (by kernel_rfl) (by kernel_rfl) (by kernel_rfl) ?hQ2 ?hy2 (by assumption) ?_
                case hi2 => (simp only [List.getElem?_toArray, List.getElem?_cons_succ, List.getElem?_cons_zero]; rfl)
                case hy2 => refine Or.inl ⟨by rfl, ?_⟩; intro w hSw; (try dsimp only at hSw); go_simp <;> with_reducible rfl
                case hQ2 => exact fun _ _ _ h => h
                try simp only [Act.put, List.setIfInBounds_toArray, List.set_cons_zero, List.set_cons_succ]
                refine' wpAnyH_take (i := 3) (v := _) ?hi3 (by kernel_rfl) (by kernel_rfl) (by kernel_rfl) ?hQ3 ?hy3 (by assumption) ?_
                case hi3 => (simp only [List.getElem?_toArray, List.getElem?_cons_succ, List.getElem?_cons_zero]; rfl)
                case hy3 => refine Or.inl ⟨by rfl, ?_⟩; intro w hSw; (try dsimp only at hSw); go_simp <;> with_reducible rfl
                case hQ3 => exact fun _ _ _ h => h
                try simp only [Act.put, List.setIfInBounds_toArray, List.set_cons_zero, List.set_cons_succ]
                refine' wpAnyH_take (i := 4) (v := _) ?hi4 (by kernel_rfl) (by kernel_rfl) (by kernel_rfl) ?hQ4 ?hy4 (by assumption) ?_
                case hi4 => (simp only [List.getElem?_toArray, List.getElem?_cons_succ, List.getElem?_cons_zero]; rfl)
                case hy4 => refine Or.inl ⟨by rfl, ?_⟩; intro w hSw; (try dsimp only at hSw); go_simp <;> with_reducible rfl
                case hQ4 => exact fun _ _ _ h => h
                try simp only [Act.put, List.setIfInBounds_toArray, List.set_cons_zero, List.set_cons_succ]
                refine' wpAnyH_take (i := 5) (v := _) ?hi5 (by kernel_rfl) (by kernel_rfl) (by kernel_rfl) ?hQ5 ?hy5 (by assumption) ?_
                case hi5 => (simp only [List.getElem?_toArray, List.getElem?_cons_succ, List.getElem?_cons_zero]; rfl)
                case hy5 => refine Or.inl ⟨by rfl, ?_⟩; intro w hSw; (try dsimp only at hSw); go_simp <;> with_reducible rfl
                case hQ5 => exact fun _ _ _ h => h
                try simp only [Act.put, List.setIfInBounds_toArray, List.set_cons_zero, List.set_cons_succ]
                refine' wpAnyH_take (i := 7) (v := _) ?hi7 (by kernel_rfl) (by kernel_rfl) (by kernel_rfl) ?hQ7 ?hy7 (by assumption) ?_
                case hi7 => (simp only [List.getElem?_toArray, List.getElem?_cons_succ, List.getElem?_cons_zero]; rfl)
                case hy7 => refine Or.inl ⟨by rfl, ?_⟩; intro w hSw; (try dsimp only at hSw); go_simp <;> with_reducible rfl
                case hQ7 => exact fun _ _ _ h => h
                try simp only [Act.put, List.setIfInBounds_toArray, List.set_cons_zero, List.set_cons_succ]
                refine' wpAnyH_take (i := 8) (v := _) ?hi8 (by kernel_rfl) (by kernel_rfl) (by kernel_rfl) ?hQ8 ?hy8 (by assumption) ?_
                case hi8 => (simp only [List.getElem?_toArray, List.getElem?_cons_succ, List.getElem?_cons_zero]; rfl)
                case hy8 => refine Or.inl ⟨by rfl, ?_⟩; intro w hSw; (try dsimp only at hSw); go_simp <;> with_reducible rfl
                case hQ8 => exact fun _ _ _ h => h
                try simp only [Act.put, List.setIfInBounds_toArray, List.set_cons_zero, List.set_cons_succ]
                refine' wpAnyH_take (i := 9) (v := _) ?hi9 (by kernel_rfl) (by kernel_rfl) (by kernel_rfl) ?hQ9 ?hy9 (by assumption) ?_
                case hi9 => (simp only [List.getElem?_toArray, List.getElem?_cons_succ, List.getElem?_cons_zero]; rfl)
                case hy9 => refine Or.inl ⟨by rfl, ?_⟩; intro w hSw; (try dsimp only at hSw); go_simp <;> with_reducible rfl
                case hQ9 => exact fun _ _ _ h => h
                try simp only [Act.put, List.setIfInBounds_toArray, List.set_cons_zero, List.set_cons_succ]
                refine' wpAnyH_take (i := 10) (v := _) ?hi10 (by kernel_rfl) (by kernel_rfl) (by kernel_rfl) ?hQ10 ?hy10 (by assumption) ?_
                case hi10 => (simp only [List.getElem?_toArray, List.getElem?_cons_succ, List.getElem?_cons_zero]; rfl)
                case hy10 => refine Or.inl ⟨by rfl, ?_⟩; intro w hSw; (try dsimp only at hSw); go_simp <;> with_reducible rfl
                case hQ10 => exact fun _ _ _ h => h
                try simp only [Act.put, List.setIfInBounds_toArray, List.set_cons_zero, List.set_cons_succ]
                refine wpAnyH_ready (rs := [6]) (by kernel_rfl) (by simp) ?_
                refine AllReadyH.cons rfl (fun KK hKK => ?_) ?_
                · go_simp
                  go_at_call 42
                  refine (decrypt_any (P : Int) q (G : Int) x x1 x2 _ HGB.out hx2.1 hx2.2 (by omega)).mono ?_
                  rintro ek wk6 ⟨hek, hbk6⟩
                  rw [HX.out] at hek; subst hek
                  have hxk6 := Ext.trans (w := (wr.alloc (.cells #[.int .i64 x1, .int .i64 x2] 70))) (by repeat (first | with_reducible assumption | with_reducible exact Ext.refl _ | with_reducible apply Ext.alloc | with_reducible apply Ext.drew | with_reducible apply Ext.drewN)) hbk6
                  refine hKK.out _ _ ?_ (fun hHeld => ?_)
                  · exact hS7 _ (by repeat (first | with_reducible assumption | with_reducible exact Ext.refl _ | with_reducible apply Ext.alloc | with_reducible apply Ext.drew | with_reducible apply Ext.drewN))
                  clear hKK KK
                  try simp only [Act.put, List.setIfInBounds_toArray, List.set_cons_zero, List.set_cons_succ]
                  refine wpAnyH_ready (rs := [11]) (by kernel_rfl) (by simp) ?_
                  refine AllReadyH.cons rfl (fun KK hKK => ?_) ?_
                  · go_simp
                    go_at_call 41
                    rw [HNI.out]
                    refine (log_any q (G : Int) P G X N _ HGB.out (by omega) (by omega) (by omega)).mono ?_
                    rintro ek wk11 ⟨hek, hbk11⟩
                    rw [HLM.out, HLO.out] at hek
                    simp only [lgOut] at hek
                    subst hek
                    have hxk11 := Ext.trans (w := (wr.alloc (.cells #[.int .i64 x1, .int .i64 x2] 70))) (by repeat (first | with_reducible assumption | with_reducible exact Ext.refl _ | with_reducible apply Ext.alloc | with_reducible apply Ext.drew | with_reducible apply Ext.drewN)) hbk11
                    refine hKK.out _ _ ?_ (fun hHeld => ?_)
                    · exact hS7 _ (by repeat (first | with_reducible assumption | with_reducible exact Ext.refl _ | with_reducible apply Ext.alloc | with_reducible apply Ext.drew | with_reducible apply Ext.drewN))
                    clear hKK KK
                    try simp only [Act.put, List.setIfInBounds_toArray, List.set_cons_zero, List.set_cons_succ]
                    refine' wpAnyH_take (i := 12) (v := _) ?hi12 (by kernel_rfl) (by kernel_rfl) (by kernel_rfl) ?hQ12 ?hy12 (by assumption) ?_
                    case hi12 => (simp only [List.getElem?_toArray, List.getElem?_cons_succ, List.getElem?_cons_zero]; rfl)
                    case hy12 => refine Or.inl ⟨by rfl, ?_⟩; intro w hSw; (try dsimp only at hSw); go_simp <;> with_reducible rfl
                    case hQ12 => exact fun _ _ _ h => h
                    try simp only [Act.put, List.setIfInBounds_toArray, List.set_cons_zero, List.set_cons_succ]
                    refine wpAnyH_done (by kernel_rfl) ?_ _
                    have E3 := E2.trans (hW.trans hxk11)
                    have hU3 := hU.ext (hW.trans hxk11)
                    have hsz3 := E3.size
                    have hk0 : ¬ ((k : Int) < 0) := by omega
                    go_wp2_with (at_builtin; refine wpList_app1 intSl rfl _ _ rfl hU3 rfl rfl (by omega) hsz3 ?_; intro A2 c2 w6 hO2 hb2)
                    go_roundw
                    case rel => exact ⟨j + 1, A2, c2, by omega, by go_num, rfl, by rw [HTK.out _ HLO.out]; exact hO2, HBK.out _ HLO.out, (B0.ext (hW.trans hxk11)).below hb2 (by omega), (B1.ext (hW.trans hxk11)).below hb2 (by omega), E3.then hb2 (Nat.le_refl _)⟩
                    case measure => first | (simp [intOf]; done) | (simp [intOf]; omega)
                  exact AllReadyH.nil
                exact AllReadyH.nil
            · obtain rfl : j = n := by omega
              rw [show l.take j = l from List.take_of_length_le (by rw [HL.out]; exact Nat.le_refl _)] at hU
              have hb9 := HB.out
              rw [show l.take j = l from List.take_of_length_le (by rw [HL.out]; exact Nat.le_refl _)] at hb9
              have HB9 := Lib.hid hb9
              have hrg := lgsE_rg (p := (P : Int)) (q := q) (g := (G : Int)) (x := x) l
              clear hb9 HB
              have E3 := E2.alloc (.cells #[] 3)
              have B2 := B1.alloc (.cells #[] 3)
              have hU2 := hU.ext ((Ext.refl wr).alloc (.cells #[] 3))
              have CQ := B2.cells
              rcases (valid_kind HVV.out).1 with rfl | rfl | rfl | rfl
              · go_wp2_with fail
                clear CQ
                generalize wr.alloc (.cells #[] 3) = w2 at *
                clear hU E2 B0 B1
                have hU := hU2
                have E2 := E3
                clear hU2 E3
                have C1 := B2.cells
                refine (isForm_any 1 b c d f _).mono ?_
                rintro en w3 ⟨hen, hb3⟩
                rw [show decide ((1 : Int) = 1 ∨ (1 : Int) = 2) = true from by decide] at hen; subst hen
                clear C1
                replace E2 := E2.trans hb3
                replace B2 := B2.ext hb3
                replace hU := hU.ext hb3
                have C1 := B2.cells
                go_wp2_with fail
                refine (voteOf_1 b c d f U j uc (lgsE (P : Int) q (G : Int) x l) _ hU.rd hU.len (by omega) (fun y hy => by have := hrg y hy; omega)).mono ?_
                rintro en w4 ⟨A4, m4, c4, rfl, O4, hm4, hb4⟩
                replace O4 : OwnI w4 w3.heap.size 3 A4 m4 c4 (posL 0 (lgsE (P : Int) q (G : Int) x l)) := O4
                have hz3 : w.heap.size ≤ w3.heap.size := (E.trans E2).size
                obtain ⟨vb, hvb⟩ : ∃ vb, voteB 1 b c d f (posL 0 (lgsE (P : Int) q (G : Int) x l)) = vb := ⟨_, rfl⟩
                have HVB := Lib.hid hvb
                have hop : opnOK 1 b c d f (lgsE (P : Int) q (G : Int) x l) = (allR (lgsE (P : Int) q (G : Int) x l) 0 1 && vb) := by show (allR (lgsE (P : Int) q (G : Int) x l) 0 1 && voteB 1 b c d f (posL 0 (lgsE (P : Int) q (G : Int) x l))) = _; rw [hvb]
                cases vb
                · have HNO : Hid (opR (P : Int) q (G : Int) x 1 b c d f l = none) := by show _ = _; rw [HOG.out, HB9.out, hop, Bool.and_false, Bool.and_false]; rfl
                  clear hop hvb
                  clear C1
                  replace E2 := E2.trans hb4
                  replace B2 := B2.ext hb4
                  replace hU := hU.ext hb4
                  have C1 := B2.cells
                  go_wp2_with fail
                  refine (isVote_any 1 b c d f A4 m4 c4 (posL 0 (lgsE (P : Int) q (G : Int) x l)) _ HVV.out O4.rd O4.len (by omega) O4.cap).mono ?_
                  rintro en w5 ⟨hen, hb5⟩
                  rw [HVB.out] at hen; subst hen
                  go_wp2
                  go_ret2
                  exact ⟨none, 0, 0, by rw [HNO.out]; rfl, by rw [HNO.out]; exact OwnI.nil _ _ _, E.trans (E2.trans hb5)⟩
                · obtain ⟨ab, hab⟩ : ∃ ab, allR (lgsE (P : Int) q (G : Int) x l) 0 1 = ab := ⟨_, rfl⟩
                  have HEQ : Hid (decide (expsV 1 b f (posL 0 (lgsE (P : Int) q (G : Int) x l)) = (lgsE (P : Int) q (G : Int) x l)) = ab) := by show _ = _; rw [exps_pos (by rw [hU.len]; exact HWa.out (by simp)), hab]
                  have HOR : Hid (opR (P : Int) q (G : Int) x 1 b c d f l = if ab then some (posL 0 (lgsE (P : Int) q (G : Int) x l)) else none) := by show _ = _; rw [HOG.out, HB9.out, hop, hab, Bool.and_true, Bool.true_and]; rfl
                  clear hop hvb hab
                  clear C1
                  replace E2 := E2.trans hb4
                  replace B2 := B2.ext hb4
                  replace hU := hU.ext hb4
                  have C1 := B2.cells
                  go_wp2_with fail
                  refine (isVote_any 1 b c d f A4 m4 c4 (posL 0 (lgsE (P : Int) q (G : Int) x l)) _ HVV.out O4.rd O4.len (by omega) O4.cap).mono ?_
                  rintro en w5 ⟨hen, hb5⟩
                  rw [HVB.out] at hen; subst hen
                  clear C1
                  replace E2 := E2.trans hb5
                  replace B2 := B2.ext hb5
                  replace hU := hU.ext hb5
                  replace O4 := O4.ext hb5
                  have C1 := B2.cells
                  obtain ⟨bn, hbn⟩ := Int.eq_ofNat_of_zero_le (show 0 ≤ b from (valid_kind HVV.out).2.1)
                  subst hbn
                  go_wp2_with fail
                  refine (exponents_any 1 bn c d f A4 m4 c4 (posL 0 (lgsE (P : Int) q (G : Int) x l)) _ HVV.out HVB.out O4.rd O4.len).mono ?_
                  rintro en w6 ⟨A7, m7, c7, rfl, O7, hb6⟩
                  have h7 := O7.le
                  go_wp2_with fail
                  refine (Equal_any A7 U m7 j c7 uc (expsV 1 bn f (posL 0 (lgsE (P : Int) q (G : Int) x l))) (lgsE (P : Int) q (G : Int) x l) _ O7.rd (hU.ext hb6).rd O7.len hU.len O7.le hU.le).mono ?_
                  rintro en w7 ⟨hen, hb7⟩
                  rw [HEQ.out] at hen; subst hen
                  have E9 := E.trans (E2.trans (hb6.trans hb7))
                  have O9 := O4.ext (hb6.trans hb7)
                  cases ab
                  · have HNO := HOR
                    go_wp2
                    go_ret2
                    exact ⟨none, 0, 0, by rw [HNO.out]; rfl, by rw [HNO.out]; exact OwnI.nil _ _ _, E9⟩
                  · go_wp2
                    go_ret2
                    exact ⟨A4, m4, c4, by rw [HOR.out]; rfl, by rw [HOR.out]; exact O9.more (by first | exact hz3 | exact Nat.le_trans hz3 (Ext.size (w := w3) (by repeat (first | with_reducible assumption | with_reducible exact Ext.refl _ | with_reducible apply Ext.alloc | with_reducible apply Ext.drew | with_reducible apply Ext.drewN)))), E9⟩
              · go_wp2_with fail
                clear CQ
                generalize wr.alloc (.cells #[] 3) = w2 at *
                clear hU E2 B0 B1
                have hU := hU2
                have E2 := E3
                clear hU2 E3
                have C1 := B2.cells
                refine (isForm_any 2 b c d f _).mono ?_
                rintro en w3 ⟨hen, hb3⟩
                rw [show decide ((2 : Int) = 1 ∨ (2 : Int) = 2) = true from by decide] at hen; subst hen
                clear C1
                replace E2 := E2.trans hb3
                replace B2 := B2.ext hb3
                replace hU := hU.ext hb3
                have C1 := B2.cells
                go_wp2_with fail
                refine (voteOf_2 b c d f U j uc (lgsE (P : Int) q (G : Int) x l) _ hU.rd hU.len (by omega) (fun y hy => by have := hrg y hy; omega)).mono ?_
                rintro en w4 ⟨A4, m4, c4, rfl, O4, hm4, hb4⟩
                replace O4 : OwnI w4 w3.heap.size 3 A4 m4 c4 (lgsE (P : Int) q (G : Int) x l) := O4
                have hz3 : w.heap.size ≤ w3.heap.size := (E.trans E2).size
                obtain ⟨vb, hvb⟩ : ∃ vb, voteB 2 b c d f (lgsE (P : Int) q (G : Int) x l) = vb := ⟨_, rfl⟩
                have HVB := Lib.hid hvb
                have hop : opnOK 2 b c d f (lgsE (P : Int) q (G : Int) x l) = vb := hvb
                cases vb
                · have HNO : Hid (opR (P : Int) q (G : Int) x 2 b c d f l = none) := by show _ = _; rw [HOG.out, HB9.out, hop, Bool.and_false]; rfl
                  clear hop hvb
                  clear C1
                  replace E2 := E2.trans hb4
                  replace B2 := B2.ext hb4
                  replace hU := hU.ext hb4
                  have C1 := B2.cells
                  go_wp2_with fail
                  refine (isVote_any 2 b c d f A4 m4 c4 (lgsE (P : Int) q (G : Int) x l) _ HVV.out O4.rd O4.len (by omega) O4.cap).mono ?_
                  rintro en w5 ⟨hen, hb5⟩
                  rw [HVB.out] at hen; subst hen
                  go_wp2
                  go_ret2
                  exact ⟨none, 0, 0, by rw [HNO.out]; rfl, by rw [HNO.out]; exact OwnI.nil _ _ _, E.trans (E2.trans hb5)⟩
                · have HEQ : Hid (decide (expsV 2 b f (lgsE (P : Int) q (G : Int) x l) = (lgsE (P : Int) q (G : Int) x l)) = true) := decide_eq_true rfl
                  have HOR : Hid (opR (P : Int) q (G : Int) x 2 b c d f l = some (lgsE (P : Int) q (G : Int) x l)) := by show _ = _; rw [HOG.out, HB9.out, hop]; rfl
                  clear hop hvb
                  clear C1
                  replace E2 := E2.trans hb4
                  replace B2 := B2.ext hb4
                  replace hU := hU.ext hb4
                  have C1 := B2.cells
                  go_wp2_with fail
                  refine (isVote_any 2 b c d f A4 m4 c4 (lgsE (P : Int) q (G : Int) x l) _ HVV.out O4.rd O4.len (by omega) O4.cap).mono ?_
                  rintro en w5 ⟨hen, hb5⟩
                  rw [HVB.out] at hen; subst hen
                  clear C1
                  replace E2 := E2.trans hb5
                  replace B2 := B2.ext hb5
                  replace hU := hU.ext hb5
                  replace O4 := O4.ext hb5
                  have C1 := B2.cells
                  obtain ⟨bn, hbn⟩ := Int.eq_ofNat_of_zero_le (show 0 ≤ b from (valid_kind HVV.out).2.1)
                  subst hbn
                  go_wp2_with fail
                  refine (exponents_any 2 bn c d f A4 m4 c4 (lgsE (P : Int) q (G : Int) x l) _ HVV.out HVB.out O4.rd O4.len).mono ?_
                  rintro en w6 ⟨A7, m7, c7, rfl, O7, hb6⟩
                  have h7 := O7.le
                  go_wp2_with fail
                  refine (Equal_any A7 U m7 j c7 uc (expsV 2 bn f (lgsE (P : Int) q (G : Int) x l)) (lgsE (P : Int) q (G : Int) x l) _ O7.rd (hU.ext hb6).rd O7.len hU.len O7.le hU.le).mono ?_
                  rintro en w7 ⟨hen, hb7⟩
                  rw [HEQ.out] at hen; subst hen
                  have E9 := E.trans (E2.trans (hb6.trans hb7))
                  have O9 := O4.ext (hb6.trans hb7)
                  go_wp2
                  go_ret2
                  exact ⟨A4, m4, c4, by rw [HOR.out]; rfl, by rw [HOR.out]; exact O9.more (by first | exact hz3 | exact Nat.le_trans hz3 (Ext.size (w := w3) (by repeat (first | with_reducible assumption | with_reducible exact Ext.refl _ | with_reducible apply Ext.alloc | with_reducible apply Ext.drew | with_reducible apply Ext.drewN)))), E9⟩
              · go_wp2_with fail
                clear CQ
                generalize wr.alloc (.cells #[] 3) = w2 at *
                clear hU E2 B0 B1
                have hU := hU2
                have E2 := E3
                clear hU2 E3
                have C1 := B2.cells
                refine (isForm_any 3 b c d f _).mono ?_
                rintro en w3 ⟨hen, hb3⟩
                rw [show decide ((3 : Int) = 1 ∨ (3 : Int) = 2) = false from by decide] at hen; subst hen
                clear C1
                replace E2 := E2.trans hb3
                replace B2 := B2.ext hb3
                replace hU := hU.ext hb3
                have C1 := B2.cells
                have hn1 : j = 1 := HWc.out (by simp)
                obtain ⟨x0, hx0⟩ : ∃ x0, (lgsE (P : Int) q (G : Int) x l) = [x0] := by
                  have h9 := hU.len
                  rw [hn1] at h9
                  match (lgsE (P : Int) q (G : Int) x l), h9 with
                  | [y], _ => exact ⟨y, rfl⟩
                rw [hx0] at hU hrg
                have HOG2 : Hid (opR (P : Int) q (G : Int) x 3 b c d f l = if true && decG 3 b c d f x0 then some (decV 3 b f x0.toNat) else none) := by show _ = _; rw [HOG.out, HB9.out, hx0]; rfl
                have hxr0 := hrg x0 (by simp)
                have hfx : Fits x0 := by unfold Fits; omega
                obtain ⟨ad9, hA9, hc9⟩ := hU.rd.at_ (k := 0) (by simp)
                rw [show ad9.add 0 = ad9 from rfl] at hc9
                simp only [List.getElem_cons_zero] at hc9
                subst hA9
                subst hn1
                have hj0 : (0 : Int) < ((1 : Nat) : Int) := by omega
                have hS15 : ∀ V, Ext w3 V → V.cell? ⟨w.heap.size + 1, 0, none⟩ = some (.int .i64 3) ∧ V.cell? ⟨w.heap.size + 1, 1, none⟩ = some (.int .i64 b) ∧ V.cell? ⟨w.heap.size + 1, 2, none⟩ = some (.int .i64 c) ∧ V.cell? ⟨w.heap.size + 1, 3, none⟩ = some (.int .i64 d) ∧ V.cell? ⟨w.heap.size + 1, 4, none⟩ = some (.int .i64 f) ∧ V.cell? ad9 = some (.int .i64 x0) := fun V hV => by
                  have a1 := (B2.ext hV).cells
                  exact ⟨a1 0, a1 1, a1 2, a1 3, a1 4, hV.cell hc9⟩
                have hz3 : w.heap.size ≤ w3.heap.size := (E.trans E2).size
                cases hdg : decG 3 b c d f x0
                · have HDR := Lib.hid (decI_none hdg)
                  have HNO : Hid (opR (P : Int) q (G : Int) x 3 b c d f l = none) := by show _ = _; rw [HOG2.out, hdg]; rfl
                  clear hdg
                  go_upto_region 15 with (fail)
                  refine wp_region_held_drew (S := fun V => V.cell? ⟨w.heap.size + 1, 0, none⟩ = some (.int .i64 3) ∧ V.cell? ⟨w.heap.size + 1, 1, none⟩ = some (.int .i64 b) ∧ V.cell? ⟨w.heap.size + 1, 2, none⟩ = some (.int .i64 c) ∧ V.cell? ⟨w.heap.size + 1, 3, none⟩ = some (.int .i64 d) ∧ V.cell? ⟨w.heap.size + 1, 4, none⟩ = some (.int .i64 f) ∧ V.cell? ad9 = some (.int .i64 x0)) (by kernel_rfl) ?_ (fun hHeld => ?_)
                  · exact hS15 _ (by repeat (first | with_reducible assumption | with_reducible exact Ext.refl _ | with_reducible apply Ext.alloc | with_reducible apply Ext.drew | with_reducible apply Ext.drewN))
                  refine' wpAnyH_take (i := 0) (v := _) ?hi0 (by kernel_rfl) (by kernel_rfl) (by kernel_rfl) ?hQ0 ?hy0 (by assumption) ?_
                  case hi0 => (simp only [List.getElem?_toArray, List.getElem?_cons_zero]; rfl)
                  case hy0 => refine Or.inl ⟨by rfl, ?_⟩; intro w hSw; (try dsimp only at hSw); go_simp <;> with_reducible rfl
                  case hQ0 => exact fun _ _ _ h => h
                  try simp only [Act.put, List.setIfInBounds_toArray, List.set_cons_zero, List.set_cons_succ]
                  refine' wpAnyH_take (i := 1) (v := _) ?hi1 (by kernel_rfl) (by kernel_rfl) (by kernel_rfl) ?hQ1 ?hy1 (by assumption) ?_
                  case hi1 => (simp only [List.getElem?_toArray, List.getElem?_cons_succ, List.getElem?_cons_zero]; rfl)
                  case hy1 => refine Or.inl ⟨by rfl, ?_⟩; intro w hSw; (try dsimp only at hSw); go_simp <;> with_reducible rfl
                  case hQ1 => exact fun _ _ _ h => h
                  try simp only [Act.put, List.setIfInBounds_toArray, List.set_cons_zero, List.set_cons_succ]
                  refine' wpAnyH_take (i := 2) (v := _) ?hi2 (by kernel_rfl) (by kernel_rfl) (by kernel_rfl) ?hQ2 ?hy2 (by assumption) ?_
                  case hi2 => (simp only [List.getElem?_toArray, List.getElem?_cons_succ, List.getElem?_cons_zero]; rfl)
                  case hy2 => refine Or.inl ⟨by rfl, ?_⟩; intro w hSw; (try dsimp only at hSw); go_simp <;> with_reducible rfl
                  case hQ2 => exact fun _ _ _ h => h
                  try simp only [Act.put, List.setIfInBounds_toArray, List.set_cons_zero, List.set_cons_succ]
                  refine' wpAnyH_take (i := 3) (v := _) ?hi3 (by kernel_rfl) (by kernel_rfl) (by kernel_rfl) ?hQ3 ?hy3 (by assumption) ?_
                  case hi3 => (simp only [List.getElem?_toArray, List.getElem?_cons_succ, List.getElem?_cons_zero]; rfl)
                  case hy3 => refine Or.inl ⟨by rfl, ?_⟩; intro w hSw; (try dsimp only at hSw); go_simp <;> with_reducible rfl
                  case hQ3 => exact fun _ _ _ h => h
                  try simp only [Act.put, List.setIfInBounds_toArray, List.set_cons_zero, List.set_cons_succ]
                  refine wpAnyH_ready (rs := [4]) (by kernel_rfl) (by simp) ?_
                  refine AllReadyH.cons rfl (fun KK hKK => ?_) ?_
                  · go_simp
                    go_at_call 45
                    refine (decode_any 3 b c d f x0 _ hfx HVV.out).mono ?_
                    rintro en w4 ⟨A4, m4, c4, hen, O4, hb4⟩
                    rw [HDR.out] at hen O4
                    subst hen
                    have hxk4 := Ext.trans (w := w3) (by repeat (first | with_reducible assumption | with_reducible exact Ext.refl _ | with_reducible apply Ext.alloc | with_reducible apply Ext.drew | with_reducible apply Ext.drewN)) hb4
                    refine hKK.out _ _ ?_ (fun hHeld => ?_)
                    · exact hS15 _ (by repeat (first | with_reducible assumption | with_reducible exact Ext.refl _ | with_reducible apply Ext.alloc | with_reducible apply Ext.drew | with_reducible apply Ext.drewN))
                    clear hKK KK
                    try simp only [Act.put, List.setIfInBounds_toArray, List.set_cons_zero, List.set_cons_succ]
                    refine' wpAnyH_take (i := 5) (v := _) ?hi5 (by kernel_rfl) (by kernel_rfl) (by kernel_rfl) ?hQ5 ?hy5 (by assumption) ?_
                    case hi5 => (simp only [List.getElem?_toArray, List.getElem?_cons_succ, List.getElem?_cons_zero]; rfl)
                    case hy5 => refine Or.inl ⟨by rfl, ?_⟩; intro w hSw; (try dsimp only at hSw); go_simp <;> with_reducible rfl
                    case hQ5 => exact fun _ _ _ h => h
                    try simp only [Act.put, List.setIfInBounds_toArray, List.set_cons_zero, List.set_cons_succ]
                    refine' wpAnyH_take (i := 6) (v := _) ?hi6 (by kernel_rfl) (by kernel_rfl) (by kernel_rfl) ?hQ6 ?hy6 (by assumption) ?_
                    case hi6 => (simp only [List.getElem?_toArray, List.getElem?_cons_succ, List.getElem?_cons_zero]; rfl)
                    case hy6 => refine Or.inl ⟨by rfl, ?_⟩; intro w hSw; (try dsimp only at hSw); go_simp <;> with_reducible rfl
                    case hQ6 => exact fun _ _ _ h => h
                    try simp only [Act.put, List.setIfInBounds_toArray, List.set_cons_zero, List.set_cons_succ]
                    refine' wpAnyH_take (i := 7) (v := _) ?hi7 (by kernel_rfl) (by kernel_rfl) (by kernel_rfl) ?hQ7 ?hy7 (by assumption) ?_
                    case hi7 => (simp only [List.getElem?_toArray, List.getElem?_cons_succ, List.getElem?_cons_zero]; rfl)
                    case hy7 => refine Or.inl ⟨by rfl, ?_⟩; intro w hSw; (try dsimp only at hSw); go_simp <;> with_reducible rfl
                    case hQ7 => exact fun _ _ _ h => h
                    try simp only [Act.put, List.setIfInBounds_toArray, List.set_cons_zero, List.set_cons_succ]
                    refine' wpAnyH_take (i := 8) (v := _) ?hi8 (by kernel_rfl) (by kernel_rfl) (by kernel_rfl) ?hQ8 ?hy8 (by assumption) ?_
                    case hi8 => (simp only [List.getElem?_toArray, List.getElem?_cons_succ, List.getElem?_cons_zero]; rfl)
                    case hy8 => refine Or.inl ⟨by rfl, ?_⟩; intro w hSw; (try dsimp only at hSw); go_simp <;> with_reducible rfl
                    case hQ8 => exact fun _ _ _ h => h
                    try simp only [Act.put, List.setIfInBounds_toArray, List.set_cons_zero, List.set_cons_succ]
                    refine' wpAnyH_take (i := 9) (v := _) ?hi9 (by kernel_rfl) (by kernel_rfl) (by kernel_rfl) ?hQ9 ?hy9 (by assumption) ?_
                    case hi9 => (simp only [List.getElem?_toArray, List.getElem?_cons_succ, List.getElem?_cons_zero]; rfl)
                    case hy9 => refine Or.inl ⟨by rfl, ?_⟩; intro w hSw; (try dsimp only at hSw); go_simp <;> with_reducible rfl
                    case hQ9 => exact fun _ _ _ h => h
                    try simp only [Act.put, List.setIfInBounds_toArray, List.set_cons_zero, List.set_cons_succ]
                    refine wpAnyH_done (by kernel_rfl) ?_ _
                    go_wp2
                    go_ret2
                    exact ⟨none, 0, 0, by rw [HNO.out]; rfl, by rw [HNO.out]; exact OwnI.nil _ _ _, E.trans (E2.trans hxk4)⟩
                  exact AllReadyH.nil
                · have HDR := Lib.hid (decI_some hdg)
                  have HOR : Hid (opR (P : Int) q (G : Int) x 3 b c d f l = some (decV 3 b f x0.toNat)) := by show _ = _; rw [HOG2.out, hdg]; rfl
                  have hdg2 := hdg
                  unfold decG at hdg2
                  simp only [Bool.and_eq_true, decide_eq_true_eq] at hdg2
                  have HVB := Lib.hid hdg2.2.2.1
                  have HEQ : Hid (decide (expsV 3 b f (decV 3 b f x0.toNat) = [x0]) = true) := decide_eq_true (by
                    show [codeV 3 b f (decV 3 b f x0.toNat)] = [x0]
                    rw [hdg2.2.2.2])
                  clear hdg hdg2
                  go_upto_region 15 with (fail)
                  refine wp_region_held_drew (S := fun V => V.cell? ⟨w.heap.size + 1, 0, none⟩ = some (.int .i64 3) ∧ V.cell? ⟨w.heap.size + 1, 1, none⟩ = some (.int .i64 b) ∧ V.cell? ⟨w.heap.size + 1, 2, none⟩ = some (.int .i64 c) ∧ V.cell? ⟨w.heap.size + 1, 3, none⟩ = some (.int .i64 d) ∧ V.cell? ⟨w.heap.size + 1, 4, none⟩ = some (.int .i64 f) ∧ V.cell? ad9 = some (.int .i64 x0)) (by kernel_rfl) ?_ (fun hHeld => ?_)
                  · exact hS15 _ (by repeat (first | with_reducible assumption | with_reducible exact Ext.refl _ | with_reducible apply Ext.alloc | with_reducible apply Ext.drew | with_reducible apply Ext.drewN))
                  refine' wpAnyH_take (i := 0) (v := _) ?hi0 (by kernel_rfl) (by kernel_rfl) (by kernel_rfl) ?hQ0 ?hy0 (by assumption) ?_
                  case hi0 => (simp only [List.getElem?_toArray, List.getElem?_cons_zero]; rfl)
                  case hy0 => refine Or.inl ⟨by rfl, ?_⟩; intro w hSw; (try dsimp only at hSw); go_simp <;> with_reducible rfl
                  case hQ0 => exact fun _ _ _ h => h
                  try simp only [Act.put, List.setIfInBounds_toArray, List.set_cons_zero, List.set_cons_succ]
                  refine' wpAnyH_take (i := 1) (v := _) ?hi1 (by kernel_rfl) (by kernel_rfl) (by kernel_rfl) ?hQ1 ?hy1 (by assumption) ?_
                  case hi1 => (simp only [List.getElem?_toArray, List.getElem?_cons_succ, List.getElem?_cons_zero]; rfl)
                  case hy1 => refine Or.inl ⟨by rfl, ?_⟩; intro w hSw; (try dsimp only at hSw); go_simp <;> with_reducible rfl
                  case hQ1 => exact fun _ _ _ h => h
                  try simp only [Act.put, List.setIfInBounds_toArray, List.set_cons_zero, List.set_cons_succ]
                  refine' wpAnyH_take (i := 2) (v := _) ?hi2 (by kernel_rfl) (by kernel_rfl) (by kernel_rfl) ?hQ2 ?hy2 (by assumption) ?_
                  case hi2 => (simp only [List.getElem?_toArray, List.getElem?_cons_succ, List.getElem?_cons_zero]; rfl)
                  case hy2 => refine Or.inl ⟨by rfl, ?_⟩; intro w hSw; (try dsimp only at hSw); go_simp <;> with_reducible rfl
                  case hQ2 => exact fun _ _ _ h => h
                  try simp only [Act.put, List.setIfInBounds_toArray, List.set_cons_zero, List.set_cons_succ]
                  refine' wpAnyH_take (i := 3) (v := _) ?hi3 (by kernel_rfl) (by kernel_rfl) (by kernel_rfl) ?hQ3 ?hy3 (by assumption) ?_
                  case hi3 => (simp only [List.getElem?_toArray, List.getElem?_cons_succ, List.getElem?_cons_zero]; rfl)
                  case hy3 => refine Or.inl ⟨by rfl, ?_⟩; intro w hSw; (try dsimp only at hSw); go_simp <;> with_reducible rfl
                  case hQ3 => exact fun _ _ _ h => h
                  try simp only [Act.put, List.setIfInBounds_toArray, List.set_cons_zero, List.set_cons_succ]
                  refine wpAnyH_ready (rs := [4]) (by kernel_rfl) (by simp) ?_
                  refine AllReadyH.cons rfl (fun KK hKK => ?_) ?_
                  · go_simp
                    go_at_call 45
                    refine (decode_any 3 b c d f x0 _ hfx HVV.out).mono ?_
                    rintro en w4 ⟨A4, m4, c4, hen, O4, hb4⟩
                    rw [HDR.out] at hen O4
                    subst hen
                    have hxk4 := Ext.trans (w := w3) (by repeat (first | with_reducible assumption | with_reducible exact Ext.refl _ | with_reducible apply Ext.alloc | with_reducible apply Ext.drew | with_reducible apply Ext.drewN)) hb4
                    refine hKK.out _ _ ?_ (fun hHeld => ?_)
                    · exact hS15 _ (by repeat (first | with_reducible assumption | with_reducible exact Ext.refl _ | with_reducible apply Ext.alloc | with_reducible apply Ext.drew | with_reducible apply Ext.drewN))
                    clear hKK KK
                    try simp only [Act.put, List.setIfInBounds_toArray, List.set_cons_zero, List.set_cons_succ]
                    refine' wpAnyH_take (i := 5) (v := _) ?hi5 (by kernel_rfl) (by kernel_rfl) (by kernel_rfl) ?hQ5 ?hy5 (by assumption) ?_
                    case hi5 => (simp only [List.getElem?_toArray, List.getElem?_cons_succ, List.getElem?_cons_zero]; rfl)
                    case hy5 => refine Or.inl ⟨by rfl, ?_⟩; intro w hSw; (try dsimp only at hSw); go_simp <;> with_reducible rfl
                    case hQ5 => exact fun _ _ _ h => h
                    try simp only [Act.put, List.setIfInBounds_toArray, List.set_cons_zero, List.set_cons_succ]
                    refine' wpAnyH_take (i := 6) (v := _) ?hi6 (by kernel_rfl) (by kernel_rfl) (by kernel_rfl) ?hQ6 ?hy6 (by assumption) ?_
                    case hi6 => (simp only [List.getElem?_toArray, List.getElem?_cons_succ, List.getElem?_cons_zero]; rfl)
                    case hy6 => refine Or.inl ⟨by rfl, ?_⟩; intro w hSw; (try dsimp only at hSw); go_simp <;> with_reducible rfl
                    case hQ6 => exact fun _ _ _ h => h
                    try simp only [Act.put, List.setIfInBounds_toArray, List.set_cons_zero, List.set_cons_succ]
                    refine' wpAnyH_take (i := 7) (v := _) ?hi7 (by kernel_rfl) (by kernel_rfl) (by kernel_rfl) ?hQ7 ?hy7 (by assumption) ?_
                    case hi7 => (simp only [List.getElem?_toArray, List.getElem?_cons_succ, List.getElem?_cons_zero]; rfl)
                    case hy7 => refine Or.inl ⟨by rfl, ?_⟩; intro w hSw; (try dsimp only at hSw); go_simp <;> with_reducible rfl
                    case hQ7 => exact fun _ _ _ h => h
                    try simp only [Act.put, List.setIfInBounds_toArray, List.set_cons_zero, List.set_cons_succ]
                    refine' wpAnyH_take (i := 8) (v := _) ?hi8 (by kernel_rfl) (by kernel_rfl) (by kernel_rfl) ?hQ8 ?hy8 (by assumption) ?_
                    case hi8 => (simp only [List.getElem?_toArray, List.getElem?_cons_succ, List.getElem?_cons_zero]; rfl)
                    case hy8 => refine Or.inl ⟨by rfl, ?_⟩; intro w hSw; (try dsimp only at hSw); go_simp <;> with_reducible rfl
                    case hQ8 => exact fun _ _ _ h => h
                    try simp only [Act.put, List.setIfInBounds_toArray, List.set_cons_zero, List.set_cons_succ]
                    refine' wpAnyH_take (i := 9) (v := _) ?hi9 (by kernel_rfl) (by kernel_rfl) (by kernel_rfl) ?hQ9 ?hy9 (by assumption) ?_
                    case hi9 => (simp only [List.getElem?_toArray, List.getElem?_cons_succ, List.getElem?_cons_zero]; rfl)
                    case hy9 => refine Or.inl ⟨by rfl, ?_⟩; intro w hSw; (try dsimp only at hSw); go_simp <;> with_reducible rfl
                    case hQ9 => exact fun _ _ _ h => h
                    try simp only [Act.put, List.setIfInBounds_toArray, List.set_cons_zero, List.set_cons_succ]
                    refine wpAnyH_done (by kernel_rfl) ?_ _
                    replace hb4 := hxk4
                    replace E2 := E2.trans hb4
                    replace B2 := B2.ext hb4
                    replace hU := hU.ext hb4
                    have C1 := B2.cells
                    go_wp2_with fail
                    refine (isVote_any 3 b c d f A4 m4 c4 (decV 3 b f x0.toNat) _ HVV.out O4.rd O4.len (by have a1 := (vote_parts HVV.out HVB.out).2.2.2.2; have a2 : (decV 3 b f x0.toNat).length = m4 := O4.len; omega) O4.cap).mono ?_
                    rintro en w5 ⟨hen, hb5⟩
                    rw [HVB.out] at hen; subst hen
                    clear C1
                    replace E2 := E2.trans hb5
                    replace B2 := B2.ext hb5
                    replace hU := hU.ext hb5
                    replace O4 := O4.ext hb5
                    have C1 := B2.cells
                    obtain ⟨bn, hbn⟩ := Int.eq_ofNat_of_zero_le (show 0 ≤ b from (valid_kind HVV.out).2.1)
                    subst hbn
                    go_wp2_with fail
                    refine (exponents_any 3 bn c d f A4 m4 c4 (decV 3 bn f x0.toNat) _ HVV.out HVB.out O4.rd O4.len).mono ?_
                    rintro en w6 ⟨A7, m7, c7, rfl, O7, hb6⟩
                    have h7 := O7.le
                    go_wp2_with fail
                    refine (Equal_any A7 (some ad9) m7 1 c7 uc (expsV 3 bn f (decV 3 bn f x0.toNat)) [x0] _ O7.rd (hU.ext hb6).rd O7.len hU.len O7.le hU.le).mono ?_
                    rintro en w7 ⟨hen, hb7⟩
                    rw [HEQ.out] at hen; subst hen
                    have E9 := E.trans (E2.trans (hb6.trans hb7))
                    have O9 := O4.ext (hb6.trans hb7)
                    go_wp2
                    go_ret2
                    exact ⟨A4, m4, c4, by rw [HOR.out]; rfl, by rw [HOR.out]; exact O9.more (by first | exact hz3 | exact Nat.le_trans hz3 (Ext.size (w := w3) (by repeat (first | with_reducible assumption | with_reducible exact Ext.refl _ | with_reducible apply Ext.alloc | with_reducible apply Ext.drew | with_reducible apply Ext.drewN)))), E9⟩
                  exact AllReadyH.nil
              · go_wp2_with fail
                clear CQ
                generalize wr.alloc (.cells #[] 3) = w2 at *
                clear hU E2 B0 B1
                have hU := hU2
                have E2 := E3
                clear hU2 E3
                have C1 := B2.cells
                refine (isForm_any 4 b c d f _).mono ?_
                rintro en w3 ⟨hen, hb3⟩
                rw [show decide ((4 : Int) = 1 ∨ (4 : Int) = 2) = false from by decide] at hen; subst hen
                clear C1
                replace E2 := E2.trans hb3
                replace B2 := B2.ext hb3
                replace hU := hU.ext hb3
                have C1 := B2.cells
                have hn1 : j = 1 := HWc.out (by simp)
                obtain ⟨x0, hx0⟩ : ∃ x0, (lgsE (P : Int) q (G : Int) x l) = [x0] := by
                  have h9 := hU.len
                  rw [hn1] at h9
                  match (lgsE (P : Int) q (G : Int) x l), h9 with
                  | [y], _ => exact ⟨y, rfl⟩
                rw [hx0] at hU hrg
                have HOG2 : Hid (opR (P : Int) q (G : Int) x 4 b c d f l = if true && decG 4 b c d f x0 then some (decV 4 b f x0.toNat) else none) := by show _ = _; rw [HOG.out, HB9.out, hx0]; rfl
                have hxr0 := hrg x0 (by simp)
                have hfx : Fits x0 := by unfold Fits; omega
                obtain ⟨ad9, hA9, hc9⟩ := hU.rd.at_ (k := 0) (by simp)
                rw [show ad9.add 0 = ad9 from rfl] at hc9
                simp only [List.getElem_cons_zero] at hc9
                subst hA9
                subst hn1
                have hj0 : (0 : Int) < ((1 : Nat) : Int) := by omega
                have hS15 : ∀ V, Ext w3 V → V.cell? ⟨w.heap.size + 1, 0, none⟩ = some (.int .i64 4) ∧ V.cell? ⟨w.heap.size + 1, 1, none⟩ = some (.int .i64 b) ∧ V.cell? ⟨w.heap.size + 1, 2, none⟩ = some (.int .i64 c) ∧ V.cell? ⟨w.heap.size + 1, 3, none⟩ = some (.int .i64 d) ∧ V.cell? ⟨w.heap.size + 1, 4, none⟩ = some (.int .i64 f) ∧ V.cell? ad9 = some (.int .i64 x0) := fun V hV => by
                  have a1 := (B2.ext hV).cells
                  exact ⟨a1 0, a1 1, a1 2, a1 3, a1 4, hV.cell hc9⟩
                have hz3 : w.heap.size ≤ w3.heap.size := (E.trans E2).size
                cases hdg : decG 4 b c d f x0
                · have HDR := Lib.hid (decI_none hdg)
                  have HNO : Hid (opR (P : Int) q (G : Int) x 4 b c d f l = none) := by show _ = _; rw [HOG2.out, hdg]; rfl
                  clear hdg
                  go_upto_region 15 with (fail)
                  refine wp_region_held_drew (S := fun V => V.cell? ⟨w.heap.size + 1, 0, none⟩ = some (.int .i64 4) ∧ V.cell? ⟨w.heap.size + 1, 1, none⟩ = some (.int .i64 b) ∧ V.cell? ⟨w.heap.size + 1, 2, none⟩ = some (.int .i64 c) ∧ V.cell? ⟨w.heap.size + 1, 3, none⟩ = some (.int .i64 d) ∧ V.cell? ⟨w.heap.size + 1, 4, none⟩ = some (.int .i64 f) ∧ V.cell? ad9 = some (.int .i64 x0)) (by kernel_rfl) ?_ (fun hHeld => ?_)
                  · exact hS15 _ (by repeat (first | with_reducible assumption | with_reducible exact Ext.refl _ | with_reducible apply Ext.alloc | with_reducible apply Ext.drew | with_reducible apply Ext.drewN))
                  refine' wpAnyH_take (i := 0) (v := _) ?hi0 (by kernel_rfl) (by kernel_rfl) (by kernel_rfl) ?hQ0 ?hy0 (by assumption) ?_
                  case hi0 => (simp only [List.getElem?_toArray, List.getElem?_cons_zero]; rfl)
                  case hy0 => refine Or.inl ⟨by rfl, ?_⟩; intro w hSw; (try dsimp only at hSw); go_simp <;> with_reducible rfl
                  case hQ0 => exact fun _ _ _ h => h
                  try simp only [Act.put, List.setIfInBounds_toArray, List.set_cons_zero, List.set_cons_succ]
                  refine' wpAnyH_take (i := 1) (v := _) ?hi1 (by kernel_rfl) (by kernel_rfl) (by kernel_rfl) ?hQ1 ?hy1 (by assumption) ?_
                  case hi1 => (simp only [List.getElem?_toArray, List.getElem?_cons_succ, List.getElem?_cons_zero]; rfl)
                  case hy1 => refine Or.inl ⟨by rfl, ?_⟩; intro w hSw; (try dsimp only at hSw); go_simp <;> with_reducible rfl
                  case hQ1 => exact fun _ _ _ h => h
                  try simp only [Act.put, List.setIfInBounds_toArray, List.set_cons_zero, List.set_cons_succ]
                  refine' wpAnyH_take (i := 2) (v := _) ?hi2 (by kernel_rfl) (by kernel_rfl) (by kernel_rfl) ?hQ2 ?hy2 (by assumption) ?_
                  case hi2 => (simp only [List.getElem?_toArray, List.getElem?_cons_succ, List.getElem?_cons_zero]; rfl)
                  case hy2 => refine Or.inl ⟨by rfl, ?_⟩; intro w hSw; (try dsimp only at hSw); go_simp <;> with_reducible rfl
                  case hQ2 => exact fun _ _ _ h => h
                  try simp only [Act.put, List.setIfInBounds_toArray, List.set_cons_zero, List.set_cons_succ]
                  refine' wpAnyH_take (i := 3) (v := _) ?hi3 (by kernel_rfl) (by kernel_rfl) (by kernel_rfl) ?hQ3 ?hy3 (by assumption) ?_
                  case hi3 => (simp only [List.getElem?_toArray, List.getElem?_cons_succ, List.getElem?_cons_zero]; rfl)
                  case hy3 => refine Or.inl ⟨by rfl, ?_⟩; intro w hSw; (try dsimp only at hSw); go_simp <;> with_reducible rfl
                  case hQ3 => exact fun _ _ _ h => h
                  try simp only [Act.put, List.setIfInBounds_toArray, List.set_cons_zero, List.set_cons_succ]
                  refine wpAnyH_ready (rs := [4]) (by kernel_rfl) (by simp) ?_
                  refine AllReadyH.cons rfl (fun KK hKK => ?_) ?_
                  · go_simp
                    go_at_call 45
                    refine (decode_any 4 b c d f x0 _ hfx HVV.out).mono ?_
                    rintro en w4 ⟨A4, m4, c4, hen, O4, hb4⟩
                    rw [HDR.out] at hen O4
                    subst hen
                    have hxk4 := Ext.trans (w := w3) (by repeat (first | with_reducible assumption | with_reducible exact Ext.refl _ | with_reducible apply Ext.alloc | with_reducible apply Ext.drew | with_reducible apply Ext.drewN)) hb4
                    refine hKK.out _ _ ?_ (fun hHeld => ?_)
                    · exact hS15 _ (by repeat (first | with_reducible assumption | with_reducible exact Ext.refl _ | with_reducible apply Ext.alloc | with_reducible apply Ext.drew | with_reducible apply Ext.drewN))
                    clear hKK KK
                    try simp only [Act.put, List.setIfInBounds_toArray, List.set_cons_zero, List.set_cons_succ]
                    refine' wpAnyH_take (i := 5) (v := _) ?hi5 (by kernel_rfl) (by kernel_rfl) (by kernel_rfl) ?hQ5 ?hy5 (by assumption) ?_
                    case hi5 => (simp only [List.getElem?_toArray, List.getElem?_cons_succ, List.getElem?_cons_zero]; rfl)
                    case hy5 => refine Or.inl ⟨by rfl, ?_⟩; intro w hSw; (try dsimp only at hSw); go_simp <;> with_reducible rfl
                    case hQ5 => exact fun _ _ _ h => h
                    try simp only [Act.put, List.setIfInBounds_toArray, List.set_cons_zero, List.set_cons_succ]
                    refine' wpAnyH_take (i := 6) (v := _) ?hi6 (by kernel_rfl) (by kernel_rfl) (by kernel_rfl) ?hQ6 ?hy6 (by assumption) ?_
                    case hi6 => (simp only [List.getElem?_toArray, List.getElem?_cons_succ, List.getElem?_cons_zero]; rfl)
                    case hy6 => refine Or.inl ⟨by rfl, ?_⟩; intro w hSw; (try dsimp only at hSw); go_simp <;> with_reducible rfl
                    case hQ6 => exact fun _ _ _ h => h
                    try simp only [Act.put, List.setIfInBounds_toArray, List.set_cons_zero, List.set_cons_succ]
                    refine' wpAnyH_take (i := 7) (v := _) ?hi7 (by kernel_rfl) (by kernel_rfl) (by kernel_rfl) ?hQ7 ?hy7 (by assumption) ?_
                    case hi7 => (simp only [List.getElem?_toArray, List.getElem?_cons_succ, List.getElem?_cons_zero]; rfl)
                    case hy7 => refine Or.inl ⟨by rfl, ?_⟩; intro w hSw; (try dsimp only at hSw); go_simp <;> with_reducible rfl
                    case hQ7 => exact fun _ _ _ h => h
                    try simp only [Act.put, List.setIfInBounds_toArray, List.set_cons_zero, List.set_cons_succ]
                    refine' wpAnyH_take (i := 8) (v := _) ?hi8 (by kernel_rfl) (by kernel_rfl) (by kernel_rfl) ?hQ8 ?hy8 (by assumption) ?_
                    case hi8 => (simp only [List.getElem?_toArray, List.getElem?_cons_succ, List.getElem?_cons_zero]; rfl)
                    case hy8 => refine Or.inl ⟨by rfl, ?_⟩; intro w hSw; (try dsimp only at hSw); go_simp <;> with_reducible rfl
                    case hQ8 => exact fun _ _ _ h => h
                    try simp only [Act.put, List.setIfInBounds_toArray, List.set_cons_zero, List.set_cons_succ]
                    refine' wpAnyH_take (i := 9) (v := _) ?hi9 (by kernel_rfl) (by kernel_rfl) (by kernel_rfl) ?hQ9 ?hy9 (by assumption) ?_
                    case hi9 => (simp only [List.getElem?_toArray, List.getElem?_cons_succ, List.getElem?_cons_zero]; rfl)
                    case hy9 => refine Or.inl ⟨by rfl, ?_⟩; intro w hSw; (try dsimp only at hSw); go_simp <;> with_reducible rfl
                    case hQ9 => exact fun _ _ _ h => h
                    try simp only [Act.put, List.setIfInBounds_toArray, List.set_cons_zero, List.set_cons_succ]
                    refine wpAnyH_done (by kernel_rfl) ?_ _
                    go_wp2
                    go_ret2
                    exact ⟨none, 0, 0, by rw [HNO.out]; rfl, by rw [HNO.out]; exact OwnI.nil _ _ _, E.trans (E2.trans hxk4)⟩
                  exact AllReadyH.nil
                · have HDR := Lib.hid (decI_some hdg)
                  have HOR : Hid (opR (P : Int) q (G : Int) x 4 b c d f l = some (decV 4 b f x0.toNat)) := by show _ = _; rw [HOG2.out, hdg]; rfl
                  have hdg2 := hdg
                  unfold decG at hdg2
                  simp only [Bool.and_eq_true, decide_eq_true_eq] at hdg2
                  have HVB := Lib.hid hdg2.2.2.1
                  have HEQ : Hid (decide (expsV 4 b f (decV 4 b f x0.toNat) = [x0]) = true) := decide_eq_true (by
                    show [codeV 4 b f (decV 4 b f x0.toNat)] = [x0]
                    rw [hdg2.2.2.2])
                  clear hdg hdg2
                  go_upto_region 15 with (fail)
                  refine wp_region_held_drew (S := fun V => V.cell? ⟨w.heap.size + 1, 0, none⟩ = some (.int .i64 4) ∧ V.cell? ⟨w.heap.size + 1, 1, none⟩ = some (.int .i64 b) ∧ V.cell? ⟨w.heap.size + 1, 2, none⟩ = some (.int .i64 c) ∧ V.cell? ⟨w.heap.size + 1, 3, none⟩ = some (.int .i64 d) ∧ V.cell? ⟨w.heap.size + 1, 4, none⟩ = some (.int .i64 f) ∧ V.cell? ad9 = some (.int .i64 x0)) (by kernel_rfl) ?_ (fun hHeld => ?_)
                  · exact hS15 _ (by repeat (first | with_reducible assumption | with_reducible exact Ext.refl _ | with_reducible apply Ext.alloc | with_reducible apply Ext.drew | with_reducible apply Ext.drewN))
                  refine' wpAnyH_take (i := 0) (v := _) ?hi0 (by kernel_rfl) (by kernel_rfl) (by kernel_rfl) ?hQ0 ?hy0 (by assumption) ?_
                  case hi0 => (simp only [List.getElem?_toArray, List.getElem?_cons_zero]; rfl)
                  case hy0 => refine Or.inl ⟨by rfl, ?_⟩; intro w hSw; (try dsimp only at hSw); go_simp <;> with_reducible rfl
                  case hQ0 => exact fun _ _ _ h => h
                  try simp only [Act.put, List.setIfInBounds_toArray, List.set_cons_zero, List.set_cons_succ]
                  refine' wpAnyH_take (i := 1) (v := _) ?hi1 (by kernel_rfl) (by kernel_rfl) (by kernel_rfl) ?hQ1 ?hy1 (by assumption) ?_
                  case hi1 => (simp only [List.getElem?_toArray, List.getElem?_cons_succ, List.getElem?_cons_zero]; rfl)
                  case hy1 => refine Or.inl ⟨by rfl, ?_⟩; intro w hSw; (try dsimp only at hSw); go_simp <;> with_reducible rfl
                  case hQ1 => exact fun _ _ _ h => h
                  try simp only [Act.put, List.setIfInBounds_toArray, List.set_cons_zero, List.set_cons_succ]
                  refine' wpAnyH_take (i := 2) (v := _) ?hi2 (by kernel_rfl) (by kernel_rfl) (by kernel_rfl) ?hQ2 ?hy2 (by assumption) ?_
                  case hi2 => (simp only [List.getElem?_toArray, List.getElem?_cons_succ, List.getElem?_cons_zero]; rfl)
                  case hy2 => refine Or.inl ⟨by rfl, ?_⟩; intro w hSw; (try dsimp only at hSw); go_simp <;> with_reducible rfl
                  case hQ2 => exact fun _ _ _ h => h
                  try simp only [Act.put, List.setIfInBounds_toArray, List.set_cons_zero, List.set_cons_succ]
                  refine' wpAnyH_take (i := 3) (v := _) ?hi3 (by kernel_rfl) (by kernel_rfl) (by kernel_rfl) ?hQ3 ?hy3 (by assumption) ?_
                  case hi3 => (simp only [List.getElem?_toArray, List.getElem?_cons_succ, List.getElem?_cons_zero]; rfl)
                  case hy3 => refine Or.inl ⟨by rfl, ?_⟩; intro w hSw; (try dsimp only at hSw); go_simp <;> with_reducible rfl
                  case hQ3 => exact fun _ _ _ h => h
                  try simp only [Act.put, List.setIfInBounds_toArray, List.set_cons_zero, List.set_cons_succ]
                  refine wpAnyH_ready (rs := [4]) (by kernel_rfl) (by simp) ?_
                  refine AllReadyH.cons rfl (fun KK hKK => ?_) ?_
                  · go_simp
                    go_at_call 45
                    refine (decode_any 4 b c d f x0 _ hfx HVV.out).mono ?_
                    rintro en w4 ⟨A4, m4, c4, hen, O4, hb4⟩
                    rw [HDR.out] at hen O4
                    subst hen
                    have hxk4 := Ext.trans (w := w3) (by repeat (first | with_reducible assumption | with_reducible exact Ext.refl _ | with_reducible apply Ext.alloc | with_reducible apply Ext.drew | with_reducible apply Ext.drewN)) hb4
                    refine hKK.out _ _ ?_ (fun hHeld => ?_)
                    · exact hS15 _ (by repeat (first | with_reducible assumption | with_reducible exact Ext.refl _ | with_reducible apply Ext.alloc | with_reducible apply Ext.drew | with_reducible apply Ext.drewN))
                    clear hKK KK
                    try simp only [Act.put, List.setIfInBounds_toArray, List.set_cons_zero, List.set_cons_succ]
                    refine' wpAnyH_take (i := 5) (v := _) ?hi5 (by kernel_rfl) (by kernel_rfl) (by kernel_rfl) ?hQ5 ?hy5 (by assumption) ?_
                    case hi5 => (simp only [List.getElem?_toArray, List.getElem?_cons_succ, List.getElem?_cons_zero]; rfl)
                    case hy5 => refine Or.inl ⟨by rfl, ?_⟩; intro w hSw; (try dsimp only at hSw); go_simp <;> with_reducible rfl
                    case hQ5 => exact fun _ _ _ h => h
                    try simp only [Act.put, List.setIfInBounds_toArray, List.set_cons_zero, List.set_cons_succ]
                    refine' wpAnyH_take (i := 6) (v := _) ?hi6 (by kernel_rfl) (by kernel_rfl) (by kernel_rfl) ?hQ6 ?hy6 (by assumption) ?_
                    case hi6 => (simp only [List.getElem?_toArray, List.getElem?_cons_succ, List.getElem?_cons_zero]; rfl)
                    case hy6 => refine Or.inl ⟨by rfl, ?_⟩; intro w hSw; (try dsimp only at hSw); go_simp <;> with_reducible rfl
                    case hQ6 => exact fun _ _ _ h => h
                    try simp only [Act.put, List.setIfInBounds_toArray, List.set_cons_zero, List.set_cons_succ]
                    refine' wpAnyH_take (i := 7) (v := _) ?hi7 (by kernel_rfl) (by kernel_rfl) (by kernel_rfl) ?hQ7 ?hy7 (by assumption) ?_
                    case hi7 => (simp only [List.getElem?_toArray, List.getElem?_cons_succ, List.getElem?_cons_zero]; rfl)
                    case hy7 => refine Or.inl ⟨by rfl, ?_⟩; intro w hSw; (try dsimp only at hSw); go_simp <;> with_reducible rfl
                    case hQ7 => exact fun _ _ _ h => h
                    try simp only [Act.put, List.setIfInBounds_toArray, List.set_cons_zero, List.set_cons_succ]
                    refine' wpAnyH_take (i := 8) (v := _) ?hi8 (by kernel_rfl) (by kernel_rfl) (by kernel_rfl) ?hQ8 ?hy8 (by assumption) ?_
                    case hi8 => (simp only [List.getElem?_toArray, List.getElem?_cons_succ, List.getElem?_cons_zero]; rfl)
                    case hy8 => refine Or.inl ⟨by rfl, ?_⟩; intro w hSw; (try dsimp only at hSw); go_simp <;> with_reducible rfl
                    case hQ8 => exact fun _ _ _ h => h
                    try simp only [Act.put, List.setIfInBounds_toArray, List.set_cons_zero, List.set_cons_succ]
                    refine' wpAnyH_take (i := 9) (v := _) ?hi9 (by kernel_rfl) (by kernel_rfl) (by kernel_rfl) ?hQ9 ?hy9 (by assumption) ?_
                    case hi9 => (simp only [List.getElem?_toArray, List.getElem?_cons_succ, List.getElem?_cons_zero]; rfl)
                    case hy9 => refine Or.inl ⟨by rfl, ?_⟩; intro w hSw; (try dsimp only at hSw); go_simp <;> with_reducible rfl
                    case hQ9 => exact fun _ _ _ h => h
                    try simp only [Act.put, List.setIfInBounds_toArray, List.set_cons_zero, List.set_cons_succ]
                    refine wpAnyH_done (by kernel_rfl) ?_ _
                    replace hb4 := hxk4
                    replace E2 := E2.trans hb4
                    replace B2 := B2.ext hb4
                    replace hU := hU.ext hb4
                    have C1 := B2.cells
                    go_wp2_with fail
                    refine (isVote_any 4 b c d f A4 m4 c4 (decV 4 b f x0.toNat) _ HVV.out O4.rd O4.len (by have a1 := (vote_parts HVV.out HVB.out).2.2.2.2; have a2 : (decV 4 b f x0.toNat).length = m4 := O4.len; omega) O4.cap).mono ?_
                    rintro en w5 ⟨hen, hb5⟩
                    rw [HVB.out] at hen; subst hen
                    clear C1
                    replace E2 := E2.trans hb5
                    replace B2 := B2.ext hb5
                    replace hU := hU.ext hb5
                    replace O4 := O4.ext hb5
                    have C1 := B2.cells
                    obtain ⟨bn, hbn⟩ := Int.eq_ofNat_of_zero_le (show 0 ≤ b from (valid_kind HVV.out).2.1)
                    subst hbn
                    go_wp2_with fail
                    refine (exponents_any 4 bn c d f A4 m4 c4 (decV 4 bn f x0.toNat) _ HVV.out HVB.out O4.rd O4.len).mono ?_
                    rintro en w6 ⟨A7, m7, c7, rfl, O7, hb6⟩
                    have h7 := O7.le
                    go_wp2_with fail
                    refine (Equal_any A7 (some ad9) m7 1 c7 uc (expsV 4 bn f (decV 4 bn f x0.toNat)) [x0] _ O7.rd (hU.ext hb6).rd O7.len hU.len O7.le hU.le).mono ?_
                    rintro en w7 ⟨hen, hb7⟩
                    rw [HEQ.out] at hen; subst hen
                    have E9 := E.trans (E2.trans (hb6.trans hb7))
                    have O9 := O4.ext (hb6.trans hb7)
                    go_wp2
                    go_ret2
                    exact ⟨A4, m4, c4, by rw [HOR.out]; rfl, by rw [HOR.out]; exact O9.more (by first | exact hz3 | exact Nat.le_trans hz3 (Ext.size (w := w3) (by repeat (first | with_reducible assumption | with_reducible exact Ext.refl _ | with_reducible apply Ext.alloc | with_reducible apply Ext.drew | with_reducible apply Ext.drewN)))), E9⟩
                  exact AllReadyH.nil
        exact AllReadyH.nil
      exact AllReadyH.nil
    exact AllReadyH.nil
  exact AllReadyH.nil
end Go.Proofs.YtpfccboighdcbaaGreat

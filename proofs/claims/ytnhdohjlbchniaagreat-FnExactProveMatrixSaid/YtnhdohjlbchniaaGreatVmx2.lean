/- The sides of lists of ciphertexts, the lists that are hashed, bases, the form of a matrix proof: the program's and the reference's. (Printed by tools/gen_vmx2.py.) -/
import Derived.Test.YtnhdohjlbchniaaGreatProg
import Derived.Test.YtnhdohjlbchniaaGreatVmx
import Derived.Test.YtnhdohjlbchniaaGreatHeldL
namespace Go.Proofs.YtnhdohjlbchniaaGreat
open Go.RowKit
set_option linter.unusedVariables false
set_option linter.unusedSimpArgs false

theorem keep_cellS {w V w4 : World} {fp : List Nat} {k : Nat} {u : Value} (hl : Low fp w.heap.size) (h : Only fp V w4) (h1 : V.cell? ⟨k, 0, none⟩ = some u) (h2 : w.heap.size ≤ k) (h3 : k < V.heap.size) : w4.cell? ⟨k, 0, none⟩ = some u := by
  rw [← h1]
  exact World.cell?_of_block (h.block k h3 fun hk => by have := hl k hk; omega)
set_option maxHeartbeats 4000000 in
theorem sides_any (A : Option Addr) (n c : Nat) (l : List (Int × Int)) (w : World) (ha : RdC w A l) (hl : l.length = n) (hn : n ≤ 1000000) :
    Calls Tryz.prog 67 #[.slice A n c] w fun e w' => ∃ (U : Option Addr) (c1 : Nat) (V : Option Addr) (c2 : Nat), e = .returned (.tuple #[.slice U n c1, .slice V n c2]) ∧ OwnI w' w.heap.size 3 U n c1 (l.map Prod.fst) ∧ OwnI w' w.heap.size 3 V n c2 (l.map Prod.snd) ∧ Apart (fpI U) (fpI V) ∧ Ext w w' := by
  have HL := Lib.hid hl
  clear hl
  have hn9 : n ≤ 9223372036854775807 := by omega
  have E00 := ((Ext.refl w).alloc (.cells #[] 3)).alloc (.cells #[] 3)
  have hU0 : OwnI ((w.alloc (.cells #[] 3)).alloc (.cells #[] 3)) w.heap.size 3 (some ⟨w.heap.size, 0, none⟩) 0 0 [] := (ownI_lit (n := 0) (w := w) [] rfl rfl (Nat.le_refl _) (Nat.zero_le _)).ext ((Ext.refl _).alloc _)
  have hV0 : OwnI ((w.alloc (.cells #[] 3)).alloc (.cells #[] 3)) w.heap.size 3 (some ⟨w.heap.size + 1, 0, none⟩) 0 0 [] := ownI_lit (n := 0) (w := w.alloc (.cells #[] 3)) [] rfl (by simp) (by simp) (Nat.zero_le _)
  have hap0 : Apart (fpI (some ⟨w.heap.size, 0, none⟩)) (fpI (some ⟨w.heap.size + 1, 0, none⟩)) := fun b hb hb' => by simp [fpI] at hb hb'; omega
  go_enter Tryz.func67, Tryz.ntmps67
  go_wp2
  go_loopw [4, 5, 12] (fun x y i wr => ∃ (j : Nat) (U V : Option Addr) (c1 c2 : Nat), j ≤ n ∧ i = .int .i64 j ∧ x = .slice U j c1 ∧ y = .slice V j c2 ∧ OwnI wr w.heap.size 3 U j c1 ((l.take j).map Prod.fst) ∧ OwnI wr w.heap.size 3 V j c2 ((l.take j).map Prod.snd) ∧ Apart (fpI U) (fpI V) ∧ Ext w wr) (fun _ _ i _ => n - (intOf i).toNat)
  case atStart => exact ⟨0, _, _, 0, 0, Nat.zero_le _, rfl, rfl, rfl, hU0, hV0, hap0, E00⟩
  case round =>
    obtain ⟨j, U, V, c1, c2, hj, rfl, rfl, rfl, hU, hV, hap, E⟩ := hrel
    by_cases hlt : j < n
    · have hlt' : j < l.length := by rw [HL.out]; exact hlt
      obtain ⟨ad, rfl, hc, hd⟩ := (ha.ext E).at_ hlt'
      have htk := side_take hlt'
      generalize l[j] = y at *
      obtain ⟨y1, y2⟩ := y
      simp only at hc hd htk
      have HT1 := Lib.hid htk.1
      have HT2 := Lib.hid htk.2
      clear htk hU0 hV0 hap0 E00
      have hX := (Ext.refl wr).alloc (.cells #[.int .i64 y1, .int .i64 y2] 54)
      have BX := Blk.new wr 54 #[.int .i64 y1, .int .i64 y2]
      have hU1 := hU.ext hX
      have hV1 := hV.ext hX
      have CX := BX.cells
      have hszb := (E.trans hX).size
      have hUhigh0 := hU.high
      have hUlow0 := hU.low
      have hVlow0 := hV.low
      have EW := E.trans hX
      go_upto_region 5 with (fail)
      generalize hWb : wr.alloc (.cells #[.int .i64 y1, .int .i64 y2] 54) = Wb at *
      have hUlow : Low (fpI U) Wb.heap.size := hU1.low
      have hUhigh : High w.heap.size (fpI U) := hU1.high
      have hS : ∀ V, Ext Wb V → V.cell? ⟨wr.heap.size, 0, none⟩ = some (.int .i64 y1) ∧ V.cell? ⟨wr.heap.size, 1, none⟩ = some (.int .i64 y2) := fun V hV => by
        have a0 := (BX.ext hV).cells
        exact ⟨a0 0, a0 1⟩
      refine wp_region_held_drew (S := fun V => V.cell? ⟨wr.heap.size, 0, none⟩ = some (.int .i64 y1) ∧ V.cell? ⟨wr.heap.size, 1, none⟩ = some (.int .i64 y2)) (by kernel_rfl) ?_ (fun hHeld => ?_)
      · first | (refine hS _ ?_; (repeat (first | with_reducible assumption | with_reducible exact Ext.refl _ | with_reducible apply Ext.alloc | with_reducible apply Ext.drew | with_reducible apply Ext.drewN)); done) | (refine hS4 _ ?_; (repeat (first | with_reducible assumption | with_reducible exact Ext.refl _ | with_reducible apply Ext.alloc | with_reducible apply Ext.drew | with_reducible apply Ext.drewN)); done) | (refine hS5 _ ?_; (repeat (first | with_reducible assumption | with_reducible exact Ext.refl _ | with_reducible apply Ext.alloc | with_reducible apply Ext.drew | with_reducible apply Ext.drewN)); done)
      refine' wpAnyH_take (i := 0) (v := _) ?hi0 (by kernel_rfl) (by kernel_rfl) (by kernel_rfl) ?hQ0 ?hy0 (by assumption) ?_
      case hi0 => (simp only [List.getElem?_toArray, List.getElem?_cons_zero]; rfl)
      case hy0 => refine Or.inl ⟨by rfl, ?_⟩; intro w hSw; (try dsimp only at hSw); go_simp <;> with_reducible rfl
      case hQ0 => exact fun _ _ _ h => h
      try simp only [Act.put, List.setIfInBounds_toArray, List.set_cons_zero, List.set_cons_succ]
      refine' wpAnyH_take (i := 1) (v := _) ?hi1 (by kernel_rfl) (by kernel_rfl) (by kernel_rfl) ?hQ1 ?hy1 (by assumption) ?_
      case hi1 => (simp only [List.getElem?_toArray, List.getElem?_cons_succ, List.getElem?_cons_zero]; rfl)
      case hy1 => refine Or.inl ⟨by rfl, ?_⟩; intro w hSw; (try dsimp only at hSw); go_simp <;> with_reducible rfl
      case hQ1 => exact fun _ _ _ h => h
      try simp only [Act.put, List.setIfInBounds_toArray, List.set_cons_zero, List.set_cons_succ]
      refine' wpAnyH_take (i := 2) (v := _) ?hi2 (by kernel_rfl) (by kernel_rfl) (by kernel_rfl) ?hQ2 ?hy2 (by assumption) ?_
      case hi2 => (simp only [List.getElem?_toArray, List.getElem?_cons_succ, List.getElem?_cons_zero]; rfl)
      case hy2 => refine Or.inl ⟨by rfl, ?_⟩; intro w hSw; (try dsimp only at hSw); go_simp <;> with_reducible rfl
      case hQ2 => exact fun _ _ _ h => h
      try simp only [Act.put, List.setIfInBounds_toArray, List.set_cons_zero, List.set_cons_succ]
      refine' wpAnyH_take (i := 5) (v := _) ?hi5 (by kernel_rfl) (by kernel_rfl) (by kernel_rfl) ?hQ5 ?hy5 (by assumption) ?_
      case hi5 => (simp only [List.getElem?_toArray, List.getElem?_cons_succ, List.getElem?_cons_zero]; rfl)
      case hy5 => refine Or.inl ⟨by rfl, ?_⟩; intro w hSw; (try dsimp only at hSw); go_simp <;> with_reducible rfl
      case hQ5 => exact fun _ _ _ h => h
      try simp only [Act.put, List.setIfInBounds_toArray, List.set_cons_zero, List.set_cons_succ]
      refine' wpAnyH_take (i := 6) (v := _) ?hi6 (by kernel_rfl) (by kernel_rfl) (by kernel_rfl) ?hQ6 ?hy6 (by assumption) ?_
      case hi6 => (simp only [List.getElem?_toArray, List.getElem?_cons_succ, List.getElem?_cons_zero]; rfl)
      case hy6 => refine Or.inl ⟨by rfl, ?_⟩; intro w hSw; (try dsimp only at hSw); go_simp <;> with_reducible rfl
      case hQ6 => exact fun _ _ _ h => h
      try simp only [Act.put, List.setIfInBounds_toArray, List.set_cons_zero, List.set_cons_succ]
      refine' wpAnyH_take (i := 7) (v := _) ?hi7 (by kernel_rfl) (by kernel_rfl) (by kernel_rfl) ?hQ7 ?hy7 (by assumption) ?_
      case hi7 => (simp only [List.getElem?_toArray, List.getElem?_cons_succ, List.getElem?_cons_zero]; rfl)
      case hy7 => refine Or.inl ⟨by rfl, ?_⟩; intro w hSw; (try dsimp only at hSw); go_simp <;> with_reducible rfl
      case hQ7 => exact fun _ _ _ h => h
      try simp only [Act.put, List.setIfInBounds_toArray, List.set_cons_zero, List.set_cons_succ]
      refine wpAnyH_ready (rs := [3, 8]) (by kernel_rfl) (by simp) ?_
      refine AllReadyH.cons rfl (fun KK hKK => ?_) ?_
      · go_simp
        refine hKK.out _ _ ?_ (fun hHeld => ?_)
        · first | (refine hS _ ?_; (repeat (first | with_reducible assumption | with_reducible exact Ext.refl _ | with_reducible apply Ext.alloc | with_reducible apply Ext.drew | with_reducible apply Ext.drewN)); done) | (refine hS4 _ ?_; (repeat (first | with_reducible assumption | with_reducible exact Ext.refl _ | with_reducible apply Ext.alloc | with_reducible apply Ext.drew | with_reducible apply Ext.drewN)); done) | (refine hS5 _ ?_; (repeat (first | with_reducible assumption | with_reducible exact Ext.refl _ | with_reducible apply Ext.alloc | with_reducible apply Ext.drew | with_reducible apply Ext.drewN)); done)
        clear hKK KK
        try simp only [Act.put, List.setIfInBounds_toArray, List.set_cons_zero, List.set_cons_succ]
        refine wpAnyH_ready (rs := [4, 8]) (by kernel_rfl) (by simp) ?_
        refine AllReadyH.cons rfl (fun KK hKK => ?_) ?_
        · refine step_app1L intSl (by rfl) _ _ (by rfl) (hU1.ext (by repeat (first | with_reducible assumption | with_reducible exact Ext.refl _ | with_reducible apply Ext.alloc | with_reducible apply Ext.drew | with_reducible apply Ext.drewN))) (by rfl) _ (by rfl) (cell_new (w := Wb) rfl (by repeat (first | with_reducible assumption | with_reducible exact Ext.refl _ | with_reducible apply Ext.alloc | with_reducible apply Ext.drew | with_reducible apply Ext.drewN))) (by omega) (Ext.size (w := w) (Ext.trans EW (by repeat (first | with_reducible assumption | with_reducible exact Ext.refl _ | with_reducible apply Ext.alloc | with_reducible apply Ext.drew | with_reducible apply Ext.drewN)))) ?_
          intro U2 d1 w4 hU2 hon hli
          have hV2 := OwnI.only (hV1.ext (by repeat (first | with_reducible assumption | with_reducible exact Ext.refl _ | with_reducible apply Ext.alloc | with_reducible apply Ext.drew | with_reducible apply Ext.drewN))) hon hap.symm
          have hap2 : Apart (fpI U2) (fpI V) := hap.app (hV1.ext (by repeat (first | with_reducible assumption | with_reducible exact Ext.refl _ | with_reducible apply Ext.alloc | with_reducible apply Ext.drew | with_reducible apply Ext.drewN))).low hli
          have E4 := Ext.only (Ext.trans (w := w) EW (by repeat (first | with_reducible assumption | with_reducible exact Ext.refl _ | with_reducible apply Ext.alloc | with_reducible apply Ext.drew | with_reducible apply Ext.drewN))) hon hUhigh
          have BX4 := (BX.ext (Ext.trans (w := Wb) (Ext.refl Wb) (by repeat (first | with_reducible assumption | with_reducible exact Ext.refl _ | with_reducible apply Ext.alloc | with_reducible apply Ext.drew | with_reducible apply Ext.drewN)))).only hon (fun hh => by have := hUlow0 _ hh; omega)
          have hS4 : ∀ V, Ext w4 V → V.cell? ⟨wr.heap.size, 0, none⟩ = some (.int .i64 y1) ∧ V.cell? ⟨wr.heap.size, 1, none⟩ = some (.int .i64 y2) := fun V hV => by
            have a0 := (BX4.ext hV).cells
            exact ⟨a0 0, a0 1⟩
          refine hKK.out _ _ ?_ (fun hHeld => ?_)
          · first | (refine hS _ ?_; (repeat (first | with_reducible assumption | with_reducible exact Ext.refl _ | with_reducible apply Ext.alloc | with_reducible apply Ext.drew | with_reducible apply Ext.drewN)); done) | (refine hS4 _ ?_; (repeat (first | with_reducible assumption | with_reducible exact Ext.refl _ | with_reducible apply Ext.alloc | with_reducible apply Ext.drew | with_reducible apply Ext.drewN)); done) | (refine hS5 _ ?_; (repeat (first | with_reducible assumption | with_reducible exact Ext.refl _ | with_reducible apply Ext.alloc | with_reducible apply Ext.drew | with_reducible apply Ext.drewN)); done)
          clear hKK KK
          try simp only [Act.put, List.setIfInBounds_toArray, List.set_cons_zero, List.set_cons_succ]
          refine wpAnyH_ready (rs := [8]) (by kernel_rfl) (by simp) ?_
          refine AllReadyH.cons rfl (fun KK hKK => ?_) ?_
          · go_simp
            refine hKK.out _ _ ?_ (fun hHeld => ?_)
            · first | (refine hS _ ?_; (repeat (first | with_reducible assumption | with_reducible exact Ext.refl _ | with_reducible apply Ext.alloc | with_reducible apply Ext.drew | with_reducible apply Ext.drewN)); done) | (refine hS4 _ ?_; (repeat (first | with_reducible assumption | with_reducible exact Ext.refl _ | with_reducible apply Ext.alloc | with_reducible apply Ext.drew | with_reducible apply Ext.drewN)); done) | (refine hS5 _ ?_; (repeat (first | with_reducible assumption | with_reducible exact Ext.refl _ | with_reducible apply Ext.alloc | with_reducible apply Ext.drew | with_reducible apply Ext.drewN)); done)
            clear hKK KK
            try simp only [Act.put, List.setIfInBounds_toArray, List.set_cons_zero, List.set_cons_succ]
            refine wpAnyH_ready (rs := [9]) (by kernel_rfl) (by simp) ?_
            refine AllReadyH.cons rfl (fun KK hKK => ?_) ?_
            · refine step_app1L intSl (by rfl) _ _ (by rfl) (hV2.ext (by repeat (first | with_reducible assumption | with_reducible exact Ext.refl _ | with_reducible apply Ext.alloc | with_reducible apply Ext.drew | with_reducible apply Ext.drewN))) (by rfl) _ (by rfl) (cell_new (w := w4) (by first | rfl | (simp; done)) (by repeat (first | with_reducible assumption | with_reducible exact Ext.refl _ | with_reducible apply Ext.alloc | with_reducible apply Ext.drew | with_reducible apply Ext.drewN))) (by omega) (Ext.size (w := w) (Ext.trans E4 (by repeat (first | with_reducible assumption | with_reducible exact Ext.refl _ | with_reducible apply Ext.alloc | with_reducible apply Ext.drew | with_reducible apply Ext.drewN)))) ?_
              intro V2 d2 w5 hV3 hon2 hli2
              have E5 := Ext.only (Ext.trans E4 (by repeat (first | with_reducible assumption | with_reducible exact Ext.refl _ | with_reducible apply Ext.alloc | with_reducible apply Ext.drew | with_reducible apply Ext.drewN))) hon2 hV2.high
              have BX5 := (BX4.ext (by repeat (first | with_reducible assumption | with_reducible exact Ext.refl _ | with_reducible apply Ext.alloc | with_reducible apply Ext.drew | with_reducible apply Ext.drewN))).only hon2 (fun hh => by have := hVlow0 _ hh; omega)
              have hS5 : ∀ V, Ext w5 V → V.cell? ⟨wr.heap.size, 0, none⟩ = some (.int .i64 y1) ∧ V.cell? ⟨wr.heap.size, 1, none⟩ = some (.int .i64 y2) := fun V hV => by
                have a0 := (BX5.ext hV).cells
                exact ⟨a0 0, a0 1⟩
              have hU3 := OwnI.only (hU2.ext (by repeat (first | with_reducible assumption | with_reducible exact Ext.refl _ | with_reducible apply Ext.alloc | with_reducible apply Ext.drew | with_reducible apply Ext.drewN))) hon2 hap2
              have hap3 : Apart (fpI U2) (fpI V2) := (hap2.symm.app (hU2.ext (by repeat (first | with_reducible assumption | with_reducible exact Ext.refl _ | with_reducible apply Ext.alloc | with_reducible apply Ext.drew | with_reducible apply Ext.drewN))).low hli2).symm
              refine hKK.out _ _ ?_ (fun hHeld => ?_)
              · first | (refine hS _ ?_; (repeat (first | with_reducible assumption | with_reducible exact Ext.refl _ | with_reducible apply Ext.alloc | with_reducible apply Ext.drew | with_reducible apply Ext.drewN)); done) | (refine hS4 _ ?_; (repeat (first | with_reducible assumption | with_reducible exact Ext.refl _ | with_reducible apply Ext.alloc | with_reducible apply Ext.drew | with_reducible apply Ext.drewN)); done) | (refine hS5 _ ?_; (repeat (first | with_reducible assumption | with_reducible exact Ext.refl _ | with_reducible apply Ext.alloc | with_reducible apply Ext.drew | with_reducible apply Ext.drewN)); done)
              clear hKK KK
              try simp only [Act.put, List.setIfInBounds_toArray, List.set_cons_zero, List.set_cons_succ]
              refine' wpAnyH_take (i := 10) (v := _) ?hi10 (by kernel_rfl) (by kernel_rfl) (by kernel_rfl) ?hQ10 ?hy10 (by assumption) ?_
              case hi10 => (simp only [List.getElem?_toArray, List.getElem?_cons_succ, List.getElem?_cons_zero]; rfl)
              case hy10 => refine Or.inl ⟨by rfl, ?_⟩; intro w hSw; (try dsimp only at hSw); go_simp <;> with_reducible rfl
              case hQ10 => exact fun _ _ _ h => h
              try simp only [Act.put, List.setIfInBounds_toArray, List.set_cons_zero, List.set_cons_succ]
              refine' wpAnyH_take (i := 11) (v := _) ?hi11 (by kernel_rfl) (by kernel_rfl) (by kernel_rfl) ?hQ11 ?hy11 (by assumption) ?_
              case hi11 => (simp only [List.getElem?_toArray, List.getElem?_cons_succ, List.getElem?_cons_zero]; rfl)
              case hy11 => refine Or.inl ⟨by rfl, ?_⟩; intro w hSw; (try dsimp only at hSw); go_simp <;> with_reducible rfl
              case hQ11 => exact fun _ _ _ h => h
              try simp only [Act.put, List.setIfInBounds_toArray, List.set_cons_zero, List.set_cons_succ]
              refine wpAnyH_done (by kernel_rfl) ?_ _
              have hU4 : OwnI w5 w.heap.size 3 U2 (j + 1) d1 ((l.take (j + 1)).map Prod.fst) := by rw [HT1.out]; exact hU3
              have hV4 : OwnI w5 w.heap.size 3 V2 (j + 1) d2 ((l.take (j + 1)).map Prod.snd) := by rw [HT2.out]; exact hV3
              go_wp2
              go_roundw
              case rel => exact ⟨j + 1, U2, V2, d1, d2, by omega, by go_num, rfl, rfl, hU4, hV4, hap3, E5⟩
              case measure => first | (simp [intOf]; done) | (simp [intOf]; omega)
            exact AllReadyH.nil
          exact AllReadyH.nil
        refine AllReadyH.cons rfl (fun KK hKK => ?_) ?_
        · go_simp
          refine hKK.out _ _ ?_ (fun hHeld => ?_)
          · first | (refine hS _ ?_; (repeat (first | with_reducible assumption | with_reducible exact Ext.refl _ | with_reducible apply Ext.alloc | with_reducible apply Ext.drew | with_reducible apply Ext.drewN)); done) | (refine hS4 _ ?_; (repeat (first | with_reducible assumption | with_reducible exact Ext.refl _ | with_reducible apply Ext.alloc | with_reducible apply Ext.drew | with_reducible apply Ext.drewN)); done) | (refine hS5 _ ?_; (repeat (first | with_reducible assumption | with_reducible exact Ext.refl _ | with_reducible apply Ext.alloc | with_reducible apply Ext.drew | with_reducible apply Ext.drewN)); done)
          clear hKK KK
          try simp only [Act.put, List.setIfInBounds_toArray, List.set_cons_zero, List.set_cons_succ]
          refine wpAnyH_ready (rs := [4]) (by kernel_rfl) (by simp) ?_
          refine AllReadyH.cons rfl (fun KK hKK => ?_) ?_
          · refine step_app1L intSl (by rfl) _ _ (by rfl) (hU1.ext (by repeat (first | with_reducible assumption | with_reducible exact Ext.refl _ | with_reducible apply Ext.alloc | with_reducible apply Ext.drew | with_reducible apply Ext.drewN))) (by rfl) _ (by rfl) (cell_new (w := Wb) rfl (by repeat (first | with_reducible assumption | with_reducible exact Ext.refl _ | with_reducible apply Ext.alloc | with_reducible apply Ext.drew | with_reducible apply Ext.drewN))) (by omega) (Ext.size (w := w) (Ext.trans EW (by repeat (first | with_reducible assumption | with_reducible exact Ext.refl _ | with_reducible apply Ext.alloc | with_reducible apply Ext.drew | with_reducible apply Ext.drewN)))) ?_
            intro U2 d1 w4 hU2 hon hli
            have hV2 := OwnI.only (hV1.ext (by repeat (first | with_reducible assumption | with_reducible exact Ext.refl _ | with_reducible apply Ext.alloc | with_reducible apply Ext.drew | with_reducible apply Ext.drewN))) hon hap.symm
            have hap2 : Apart (fpI U2) (fpI V) := hap.app (hV1.ext (by repeat (first | with_reducible assumption | with_reducible exact Ext.refl _ | with_reducible apply Ext.alloc | with_reducible apply Ext.drew | with_reducible apply Ext.drewN))).low hli
            have E4 := Ext.only (Ext.trans (w := w) EW (by repeat (first | with_reducible assumption | with_reducible exact Ext.refl _ | with_reducible apply Ext.alloc | with_reducible apply Ext.drew | with_reducible apply Ext.drewN))) hon hUhigh
            have BX4 := (BX.ext (Ext.trans (w := Wb) (Ext.refl Wb) (by repeat (first | with_reducible assumption | with_reducible exact Ext.refl _ | with_reducible apply Ext.alloc | with_reducible apply Ext.drew | with_reducible apply Ext.drewN)))).only hon (fun hh => by have := hUlow0 _ hh; omega)
            have hS4 : ∀ V, Ext w4 V → V.cell? ⟨wr.heap.size, 0, none⟩ = some (.int .i64 y1) ∧ V.cell? ⟨wr.heap.size, 1, none⟩ = some (.int .i64 y2) := fun V hV => by
              have a0 := (BX4.ext hV).cells
              exact ⟨a0 0, a0 1⟩
            have hc8 : w4.cell? ⟨((Wb.alloc (.cells #[.int .i64 y1] 3))).heap.size, 0, none⟩ = some (.int .i64 y2) := keep_cellS hUlow hon (cell_new (w := (Wb.alloc (.cells #[.int .i64 y1] 3))) (by first | rfl | (simp; done)) (by repeat (first | with_reducible assumption | with_reducible exact Ext.refl _ | with_reducible apply Ext.alloc | with_reducible apply Ext.drew | with_reducible apply Ext.drewN))) (by first | exact Nat.le_refl _ | (simp; done) | (simp; omega)) (by first | (simp; done) | (simp; omega))
            refine hKK.out _ _ ?_ (fun hHeld => ?_)
            · first | (refine hS _ ?_; (repeat (first | with_reducible assumption | with_reducible exact Ext.refl _ | with_reducible apply Ext.alloc | with_reducible apply Ext.drew | with_reducible apply Ext.drewN)); done) | (refine hS4 _ ?_; (repeat (first | with_reducible assumption | with_reducible exact Ext.refl _ | with_reducible apply Ext.alloc | with_reducible apply Ext.drew | with_reducible apply Ext.drewN)); done) | (refine hS5 _ ?_; (repeat (first | with_reducible assumption | with_reducible exact Ext.refl _ | with_reducible apply Ext.alloc | with_reducible apply Ext.drew | with_reducible apply Ext.drewN)); done)
            clear hKK KK
            try simp only [Act.put, List.setIfInBounds_toArray, List.set_cons_zero, List.set_cons_succ]
            refine wpAnyH_ready (rs := [9]) (by kernel_rfl) (by simp) ?_
            refine AllReadyH.cons rfl (fun KK hKK => ?_) ?_
            · refine step_app1L intSl (by rfl) _ _ (by rfl) (hV2.ext (by repeat (first | with_reducible assumption | with_reducible exact Ext.refl _ | with_reducible apply Ext.alloc | with_reducible apply Ext.drew | with_reducible apply Ext.drewN))) (by rfl) _ (by rfl) (by first | exact hc8 | (simpa using hc8)) (by omega) (Ext.size (w := w) (Ext.trans E4 (by repeat (first | with_reducible assumption | with_reducible exact Ext.refl _ | with_reducible apply Ext.alloc | with_reducible apply Ext.drew | with_reducible apply Ext.drewN)))) ?_
              intro V2 d2 w5 hV3 hon2 hli2
              have E5 := Ext.only (Ext.trans E4 (by repeat (first | with_reducible assumption | with_reducible exact Ext.refl _ | with_reducible apply Ext.alloc | with_reducible apply Ext.drew | with_reducible apply Ext.drewN))) hon2 hV2.high
              have BX5 := (BX4.ext (by repeat (first | with_reducible assumption | with_reducible exact Ext.refl _ | with_reducible apply Ext.alloc | with_reducible apply Ext.drew | with_reducible apply Ext.drewN))).only hon2 (fun hh => by have := hVlow0 _ hh; omega)
              have hS5 : ∀ V, Ext w5 V → V.cell? ⟨wr.heap.size, 0, none⟩ = some (.int .i64 y1) ∧ V.cell? ⟨wr.heap.size, 1, none⟩ = some (.int .i64 y2) := fun V hV => by
                have a0 := (BX5.ext hV).cells
                exact ⟨a0 0, a0 1⟩
              have hU3 := OwnI.only (hU2.ext (by repeat (first | with_reducible assumption | with_reducible exact Ext.refl _ | with_reducible apply Ext.alloc | with_reducible apply Ext.drew | with_reducible apply Ext.drewN))) hon2 hap2
              have hap3 : Apart (fpI U2) (fpI V2) := (hap2.symm.app (hU2.ext (by repeat (first | with_reducible assumption | with_reducible exact Ext.refl _ | with_reducible apply Ext.alloc | with_reducible apply Ext.drew | with_reducible apply Ext.drewN))).low hli2).symm
              refine hKK.out _ _ ?_ (fun hHeld => ?_)
              · first | (refine hS _ ?_; (repeat (first | with_reducible assumption | with_reducible exact Ext.refl _ | with_reducible apply Ext.alloc | with_reducible apply Ext.drew | with_reducible apply Ext.drewN)); done) | (refine hS4 _ ?_; (repeat (first | with_reducible assumption | with_reducible exact Ext.refl _ | with_reducible apply Ext.alloc | with_reducible apply Ext.drew | with_reducible apply Ext.drewN)); done) | (refine hS5 _ ?_; (repeat (first | with_reducible assumption | with_reducible exact Ext.refl _ | with_reducible apply Ext.alloc | with_reducible apply Ext.drew | with_reducible apply Ext.drewN)); done)
              clear hKK KK
              try simp only [Act.put, List.setIfInBounds_toArray, List.set_cons_zero, List.set_cons_succ]
              refine' wpAnyH_take (i := 10) (v := _) ?hi10 (by kernel_rfl) (by kernel_rfl) (by kernel_rfl) ?hQ10 ?hy10 (by assumption) ?_
              case hi10 => (simp only [List.getElem?_toArray, List.getElem?_cons_succ, List.getElem?_cons_zero]; rfl)
              case hy10 => refine Or.inl ⟨by rfl, ?_⟩; intro w hSw; (try dsimp only at hSw); go_simp <;> with_reducible rfl
              case hQ10 => exact fun _ _ _ h => h
              try simp only [Act.put, List.setIfInBounds_toArray, List.set_cons_zero, List.set_cons_succ]
              refine' wpAnyH_take (i := 11) (v := _) ?hi11 (by kernel_rfl) (by kernel_rfl) (by kernel_rfl) ?hQ11 ?hy11 (by assumption) ?_
              case hi11 => (simp only [List.getElem?_toArray, List.getElem?_cons_succ, List.getElem?_cons_zero]; rfl)
              case hy11 => refine Or.inl ⟨by rfl, ?_⟩; intro w hSw; (try dsimp only at hSw); go_simp <;> with_reducible rfl
              case hQ11 => exact fun _ _ _ h => h
              try simp only [Act.put, List.setIfInBounds_toArray, List.set_cons_zero, List.set_cons_succ]
              refine wpAnyH_done (by kernel_rfl) ?_ _
              have hU4 : OwnI w5 w.heap.size 3 U2 (j + 1) d1 ((l.take (j + 1)).map Prod.fst) := by rw [HT1.out]; exact hU3
              have hV4 : OwnI w5 w.heap.size 3 V2 (j + 1) d2 ((l.take (j + 1)).map Prod.snd) := by rw [HT2.out]; exact hV3
              go_wp2
              go_roundw
              case rel => exact ⟨j + 1, U2, V2, d1, d2, by omega, by go_num, rfl, rfl, hU4, hV4, hap3, E5⟩
              case measure => first | (simp [intOf]; done) | (simp [intOf]; omega)
            exact AllReadyH.nil
          exact AllReadyH.nil
        exact AllReadyH.nil
      refine AllReadyH.cons rfl (fun KK hKK => ?_) ?_
      · go_simp
        refine hKK.out _ _ ?_ (fun hHeld => ?_)
        · first | (refine hS _ ?_; (repeat (first | with_reducible assumption | with_reducible exact Ext.refl _ | with_reducible apply Ext.alloc | with_reducible apply Ext.drew | with_reducible apply Ext.drewN)); done) | (refine hS4 _ ?_; (repeat (first | with_reducible assumption | with_reducible exact Ext.refl _ | with_reducible apply Ext.alloc | with_reducible apply Ext.drew | with_reducible apply Ext.drewN)); done) | (refine hS5 _ ?_; (repeat (first | with_reducible assumption | with_reducible exact Ext.refl _ | with_reducible apply Ext.alloc | with_reducible apply Ext.drew | with_reducible apply Ext.drewN)); done)
        clear hKK KK
        try simp only [Act.put, List.setIfInBounds_toArray, List.set_cons_zero, List.set_cons_succ]
        refine wpAnyH_ready (rs := [3]) (by kernel_rfl) (by simp) ?_
        refine AllReadyH.cons rfl (fun KK hKK => ?_) ?_
        · go_simp
          refine hKK.out _ _ ?_ (fun hHeld => ?_)
          · first | (refine hS _ ?_; (repeat (first | with_reducible assumption | with_reducible exact Ext.refl _ | with_reducible apply Ext.alloc | with_reducible apply Ext.drew | with_reducible apply Ext.drewN)); done) | (refine hS4 _ ?_; (repeat (first | with_reducible assumption | with_reducible exact Ext.refl _ | with_reducible apply Ext.alloc | with_reducible apply Ext.drew | with_reducible apply Ext.drewN)); done) | (refine hS5 _ ?_; (repeat (first | with_reducible assumption | with_reducible exact Ext.refl _ | with_reducible apply Ext.alloc | with_reducible apply Ext.drew | with_reducible apply Ext.drewN)); done)
          clear hKK KK
          try simp only [Act.put, List.setIfInBounds_toArray, List.set_cons_zero, List.set_cons_succ]
          refine wpAnyH_ready (rs := [4]) (by kernel_rfl) (by simp) ?_
          refine AllReadyH.cons rfl (fun KK hKK => ?_) ?_
          · refine step_app1L intSl (by rfl) _ _ (by rfl) (hU1.ext (by repeat (first | with_reducible assumption | with_reducible exact Ext.refl _ | with_reducible apply Ext.alloc | with_reducible apply Ext.drew | with_reducible apply Ext.drewN))) (by rfl) _ (by rfl) (cell_new (w := (Wb.alloc (.cells #[.int .i64 y2] 3))) (by first | rfl | (simp; done)) (by repeat (first | with_reducible assumption | with_reducible exact Ext.refl _ | with_reducible apply Ext.alloc | with_reducible apply Ext.drew | with_reducible apply Ext.drewN))) (by omega) (Ext.size (w := w) (Ext.trans EW (by repeat (first | with_reducible assumption | with_reducible exact Ext.refl _ | with_reducible apply Ext.alloc | with_reducible apply Ext.drew | with_reducible apply Ext.drewN)))) ?_
            intro U2 d1 w4 hU2 hon hli
            have hV2 := OwnI.only (hV1.ext (by repeat (first | with_reducible assumption | with_reducible exact Ext.refl _ | with_reducible apply Ext.alloc | with_reducible apply Ext.drew | with_reducible apply Ext.drewN))) hon hap.symm
            have hap2 : Apart (fpI U2) (fpI V) := hap.app (hV1.ext (by repeat (first | with_reducible assumption | with_reducible exact Ext.refl _ | with_reducible apply Ext.alloc | with_reducible apply Ext.drew | with_reducible apply Ext.drewN))).low hli
            have E4 := Ext.only (Ext.trans (w := w) EW (by repeat (first | with_reducible assumption | with_reducible exact Ext.refl _ | with_reducible apply Ext.alloc | with_reducible apply Ext.drew | with_reducible apply Ext.drewN))) hon hUhigh
            have BX4 := (BX.ext (Ext.trans (w := Wb) (Ext.refl Wb) (by repeat (first | with_reducible assumption | with_reducible exact Ext.refl _ | with_reducible apply Ext.alloc | with_reducible apply Ext.drew | with_reducible apply Ext.drewN)))).only hon (fun hh => by have := hUlow0 _ hh; omega)
            have hS4 : ∀ V, Ext w4 V → V.cell? ⟨wr.heap.size, 0, none⟩ = some (.int .i64 y1) ∧ V.cell? ⟨wr.heap.size, 1, none⟩ = some (.int .i64 y2) := fun V hV => by
              have a0 := (BX4.ext hV).cells
              exact ⟨a0 0, a0 1⟩
            have hc8 : w4.cell? ⟨(Wb).heap.size, 0, none⟩ = some (.int .i64 y2) := keep_cellS hUlow hon (cell_new (w := Wb) rfl (by repeat (first | with_reducible assumption | with_reducible exact Ext.refl _ | with_reducible apply Ext.alloc | with_reducible apply Ext.drew | with_reducible apply Ext.drewN))) (by first | exact Nat.le_refl _ | (simp; done) | (simp; omega)) (by first | (simp; done) | (simp; omega))
            refine hKK.out _ _ ?_ (fun hHeld => ?_)
            · first | (refine hS _ ?_; (repeat (first | with_reducible assumption | with_reducible exact Ext.refl _ | with_reducible apply Ext.alloc | with_reducible apply Ext.drew | with_reducible apply Ext.drewN)); done) | (refine hS4 _ ?_; (repeat (first | with_reducible assumption | with_reducible exact Ext.refl _ | with_reducible apply Ext.alloc | with_reducible apply Ext.drew | with_reducible apply Ext.drewN)); done) | (refine hS5 _ ?_; (repeat (first | with_reducible assumption | with_reducible exact Ext.refl _ | with_reducible apply Ext.alloc | with_reducible apply Ext.drew | with_reducible apply Ext.drewN)); done)
            clear hKK KK
            try simp only [Act.put, List.setIfInBounds_toArray, List.set_cons_zero, List.set_cons_succ]
            refine wpAnyH_ready (rs := [9]) (by kernel_rfl) (by simp) ?_
            refine AllReadyH.cons rfl (fun KK hKK => ?_) ?_
            · refine step_app1L intSl (by rfl) _ _ (by rfl) (hV2.ext (by repeat (first | with_reducible assumption | with_reducible exact Ext.refl _ | with_reducible apply Ext.alloc | with_reducible apply Ext.drew | with_reducible apply Ext.drewN))) (by rfl) _ (by rfl) (by first | exact hc8 | (simpa using hc8)) (by omega) (Ext.size (w := w) (Ext.trans E4 (by repeat (first | with_reducible assumption | with_reducible exact Ext.refl _ | with_reducible apply Ext.alloc | with_reducible apply Ext.drew | with_reducible apply Ext.drewN)))) ?_
              intro V2 d2 w5 hV3 hon2 hli2
              have E5 := Ext.only (Ext.trans E4 (by repeat (first | with_reducible assumption | with_reducible exact Ext.refl _ | with_reducible apply Ext.alloc | with_reducible apply Ext.drew | with_reducible apply Ext.drewN))) hon2 hV2.high
              have BX5 := (BX4.ext (by repeat (first | with_reducible assumption | with_reducible exact Ext.refl _ | with_reducible apply Ext.alloc | with_reducible apply Ext.drew | with_reducible apply Ext.drewN))).only hon2 (fun hh => by have := hVlow0 _ hh; omega)
              have hS5 : ∀ V, Ext w5 V → V.cell? ⟨wr.heap.size, 0, none⟩ = some (.int .i64 y1) ∧ V.cell? ⟨wr.heap.size, 1, none⟩ = some (.int .i64 y2) := fun V hV => by
                have a0 := (BX5.ext hV).cells
                exact ⟨a0 0, a0 1⟩
              have hU3 := OwnI.only (hU2.ext (by repeat (first | with_reducible assumption | with_reducible exact Ext.refl _ | with_reducible apply Ext.alloc | with_reducible apply Ext.drew | with_reducible apply Ext.drewN))) hon2 hap2
              have hap3 : Apart (fpI U2) (fpI V2) := (hap2.symm.app (hU2.ext (by repeat (first | with_reducible assumption | with_reducible exact Ext.refl _ | with_reducible apply Ext.alloc | with_reducible apply Ext.drew | with_reducible apply Ext.drewN))).low hli2).symm
              refine hKK.out _ _ ?_ (fun hHeld => ?_)
              · first | (refine hS _ ?_; (repeat (first | with_reducible assumption | with_reducible exact Ext.refl _ | with_reducible apply Ext.alloc | with_reducible apply Ext.drew | with_reducible apply Ext.drewN)); done) | (refine hS4 _ ?_; (repeat (first | with_reducible assumption | with_reducible exact Ext.refl _ | with_reducible apply Ext.alloc | with_reducible apply Ext.drew | with_reducible apply Ext.drewN)); done) | (refine hS5 _ ?_; (repeat (first | with_reducible assumption | with_reducible exact Ext.refl _ | with_reducible apply Ext.alloc | with_reducible apply Ext.drew | with_reducible apply Ext.drewN)); done)
              clear hKK KK
              try simp only [Act.put, List.setIfInBounds_toArray, List.set_cons_zero, List.set_cons_succ]
              refine' wpAnyH_take (i := 10) (v := _) ?hi10 (by kernel_rfl) (by kernel_rfl) (by kernel_rfl) ?hQ10 ?hy10 (by assumption) ?_
              case hi10 => (simp only [List.getElem?_toArray, List.getElem?_cons_succ, List.getElem?_cons_zero]; rfl)
              case hy10 => refine Or.inl ⟨by rfl, ?_⟩; intro w hSw; (try dsimp only at hSw); go_simp <;> with_reducible rfl
              case hQ10 => exact fun _ _ _ h => h
              try simp only [Act.put, List.setIfInBounds_toArray, List.set_cons_zero, List.set_cons_succ]
              refine' wpAnyH_take (i := 11) (v := _) ?hi11 (by kernel_rfl) (by kernel_rfl) (by kernel_rfl) ?hQ11 ?hy11 (by assumption) ?_
              case hi11 => (simp only [List.getElem?_toArray, List.getElem?_cons_succ, List.getElem?_cons_zero]; rfl)
              case hy11 => refine Or.inl ⟨by rfl, ?_⟩; intro w hSw; (try dsimp only at hSw); go_simp <;> with_reducible rfl
              case hQ11 => exact fun _ _ _ h => h
              try simp only [Act.put, List.setIfInBounds_toArray, List.set_cons_zero, List.set_cons_succ]
              refine wpAnyH_done (by kernel_rfl) ?_ _
              have hU4 : OwnI w5 w.heap.size 3 U2 (j + 1) d1 ((l.take (j + 1)).map Prod.fst) := by rw [HT1.out]; exact hU3
              have hV4 : OwnI w5 w.heap.size 3 V2 (j + 1) d2 ((l.take (j + 1)).map Prod.snd) := by rw [HT2.out]; exact hV3
              go_wp2
              go_roundw
              case rel => exact ⟨j + 1, U2, V2, d1, d2, by omega, by go_num, rfl, rfl, hU4, hV4, hap3, E5⟩
              case measure => first | (simp [intOf]; done) | (simp [intOf]; omega)
            exact AllReadyH.nil
          exact AllReadyH.nil
        exact AllReadyH.nil
      exact AllReadyH.nil
    · obtain rfl : j = n := by omega
      rw [List.take_of_length_le (by rw [HL.out]; exact Nat.le_refl _)] at hU hV
      go_wp2
      go_ret2
      exact ⟨U, c1, V, c2, rfl, hU, hV, hap, E⟩
theorem run_app_nilC {P : Program} {w : World} {base e n : Nat} {t ty : TypeId} {i : TypeInfo} {v : Value} {xs : List Value} (ht : P.underlying t = some (.slice e)) (hi : P.info? e = some i)
    (hown : w.ownsRow base e 2 v n xs) (c : Nat) : (Builtin.append_ #[t, t] ty #[v, .slice none 0 c]).run P w = .ok v w := by
  rcases hown.2 with ⟨rfl, rfl⟩ | ⟨g, cap, cur, rfl, _, _, hnc, _⟩ <;> simp [Builtin.append_, run_underlying ht, sizeOf, typeInfo, Builtin.lenOf, Builtin.firstCells, storeCells, *]
theorem cs2_oneCell (l : List (Int × Int)) : ∀ u ∈ cs2 l, u.oneCell' = true := by
  induction l with
  | nil => intro u hu; simp [cs2] at hu
  | cons p l ih =>
    intro u hu
    have e : cs2 (p :: l) = .int .i64 p.1 :: .int .i64 p.2 :: cs2 l := rfl
    rw [e] at hu
    simp only [List.mem_cons] at hu
    rcases hu with rfl | rfl | hu
    · rfl
    · rfl
    · exact ih u hu
/-- 'append(s, xs...)' of pairs onto a slice of the call's own: xs came in, nil or not. -/
theorem wpList_appC {P : Program} {w : World} {ops : Array Oper} {rest : List Oper} {o : Oper} {a : Act} {Q : Exit → Act → World → Prop} {t e : TypeId} (S : PairSl P t e)
    (hg : o.guard = none) (s x : Operand) (ho : o.op = .call { callee := .builtin .append, args := #[s, x], argTypes := #[t, t] })
    {base : Nat} {A : Option Addr} {n c : Nat} {l : List (Int × Int)} (hown : OwnC w base e A n c l) (hs : a.eval s = .slice A n c)
    {B : Option Addr} {m c' : Nat} {ys : List (Int × Int)} (hr : RdC w B ys) (hl : ys.length = m) (hx : a.eval x = .slice B m c') (hn : n + m ≤ 1000000000) (hb : base ≤ w.heap.size)
    (hK : ∀ A' d w', OwnC w' base e A' (n + m) d (l ++ ys) → Below base w w' → wpList P ops Q rest (a.put o.dst (.slice A' (n + m) d)) w') :
    wpList P ops Q (o :: rest) a w := by
  obtain ⟨i, h2, h3, h4, h5⟩ := S.hi
  rcases B with _ | ad
  · have hy : ys = [] := by
      rcases hr with h | ⟨ad, h, _⟩
      · have h9 := cs2_length ys
        rw [h] at h9
        exact List.eq_nil_of_length_eq_zero (by simp at h9; omega)
      · cases h
    subst hy
    simp only [List.length_nil] at hl
    subst hl
    refine wpList_plain hg fun K hK2 => ?_
    unfold Oper.wp execOp
    simp only [ho, resolve, invoke, builtin, Sem.run_bind, Sem.run_pure, Result.andThen_ok, List.map_toArray, List.map_cons, List.map_nil, hs, hx, run_app_nilC S.ht h2 hown c']
    refine hK2 _ _ (hK A c w ?_ (Below.refl base w))
    simpa using hown
  · have hcells : ∀ j u, (cs2 ys)[j]? = some u → w.cell? (ad.add j) = some u := by
      rcases hr with h | ⟨ad', h, hc⟩
      · rw [h]; intro j u hu; simp at hu
      · injection h with h; subst h; exact hc
    refine wpList_append_own (P := P) w hg s x t ho base e i _ 2 16 S.ht h2 h3 h4 h5 rfl (by omega) (.slice A n c) n (cs2 l) hs hown ad m c' (cs2 ys) hx (by rw [cs2_length, hl]) hcells (cs2_oneCell ys) (by unfold maxLen; omega) (by omega) hb ?_
    intro v' w' h6 h7 h8
    rw [← cs2_append] at h6
    have hbl : Below base w w' := (Below.refl base w).grown h7 hb fun k hk => (World.ownsRow.lt hown k hk).1
    have hv : ∃ A' d, v' = .slice A' (n + m) d := by
      rcases h6.2 with ⟨hv, hnm⟩ | ⟨g, cap, cur, hv, _⟩
      · exact ⟨none, 0, by rw [hv, hnm]⟩
      · exact ⟨_, _, hv⟩
    obtain ⟨A', d, rfl⟩ := hv
    exact hK A' d w' h6 hbl
set_option maxHeartbeats 400000 in
theorem CloneC_any (A : Option Addr) (n c : Nat) (l : List (Int × Int)) (w : World) (ha : RdC w A l) (hl : l.length = n) (hn : n ≤ 1000000) :
    Calls Tryz.prog 96 #[.slice A n c] w fun e w' => ∃ A' c', e = .returned (.slice A' n c') ∧ OwnC w' w.heap.size 54 A' n c' l ∧ Ext w w' := by
  have hq : ∀ w, (binOp .eql 35 (.slice A n c) (.slice none 0 0)).run Tryz.prog w = .ok (.bool A.isNone) w := fun w => Lib.run_eql_slice_nil w _ _ A n c 0 0 Tryz.underlying35
  cases A with
  | none =>
    have hl0 : l = [] := by
      rcases ha with h | ⟨ad, h, _⟩
      · have h9 := cs2_length l
        rw [h] at h9
        exact List.eq_nil_of_length_eq_zero (by simp at h9; omega)
      · cases h
    subst hl0
    obtain rfl : n = 0 := hl.symm
    clear hn hl
    go_enter Tryz.func96, Tryz.ntmps96
    go_wp2
    go_ret
    exact ⟨_, _, rfl, OwnC.nil _ _ _, Ext.refl _⟩
  | some ad =>
    have hO0 : OwnC (w.alloc (.cells #[] 54)) w.heap.size 54 (some ⟨w.heap.size, 0, none⟩) 0 0 [] := by
      have h := World.ownsRow_lit (base := w.heap.size) (e := 54) (size := 2) w #[] 0 (Nat.le_refl _) (Nat.zero_le _) (by simp)
      simpa [OwnC, cs2] using h
    have hE := (Ext.refl w).alloc (.cells #[] 54)
    go_enter Tryz.func96, Tryz.ntmps96
    go_wp2_with (at_builtin; refine wpList_appC cipherSl rfl _ _ rfl hO0 rfl (ha.ext hE) hl rfl (by omega) hE.size ?_; intro A2 d2 w2 hO2 hb2)
    go_ret
    rw [List.nil_append, Nat.zero_add] at hO2
    exact ⟨_, _, rfl, hO2, (hE.then hb2 (Nat.le_refl _))⟩
/-- 'append(s, xs...)' onto a slice of the call's own: what turned, and where the slice lies. -/
theorem wpList_appLF {P : Program} {w : World} {ops : Array Oper} {rest : List Oper} {o : Oper} {a : Act} {Q : Exit → Act → World → Prop} {t e : TypeId} (S : IntSl P t e)
    (hg : o.guard = none) (s x : Operand) (ho : o.op = .call { callee := .builtin .append, args := #[s, x], argTypes := #[t, t] })
    {base : Nat} {A : Option Addr} {n c : Nat} {l : List Int} (hown : OwnI w base e A n c l) (hs : a.eval s = .slice A n c)
    (ad : Addr) {m c' : Nat} {ys : List Int} (hr : RdI w (some ad) ys) (hl : ys.length = m) (hx : a.eval x = .slice (some ad) m c') (h0 : 0 < n + m) (hn : n + m ≤ 1000000000) (hb : base ≤ w.heap.size)
    (hK : ∀ A' d w', OwnI w' base e A' (n + m) d (l ++ ys) → Only (fpI A) w w' → (∀ b ∈ fpI A', b ∈ fpI A ∨ w.heap.size ≤ b) → wpList P ops Q rest (a.put o.dst (.slice A' (n + m) d)) w') :
    wpList P ops Q (o :: rest) a w := by
  obtain ⟨i, h2, h3, h4, h5⟩ := S.hi
  have hcells : ∀ j u, (ints ys)[j]? = some u → w.cell? (ad.add j) = some u := by
    rcases hr with h | ⟨ad', h, hc⟩
    · rw [h]; intro j u hu; simp at hu
    · injection h with h; subst h; exact hc
  refine wpList_append_own_at (P := P) w hg s x t ho base e i (.int .i64 0) 1 8 S.ht h2 h3 h4 h5 rfl (by omega) (.slice A n c) n (ints l) hs hown ad m c' (ints ys) hx (by simp [ints, hl]) hcells (ints_oneCell ys) (by unfold maxLen; omega) (by omega) hb ?_
  intro v' w' h6 h7 h8 h9
  rw [← ints_append] at h6
  rcases h6.2 with ⟨_, h0'⟩ | ⟨g, cap, cur, rfl, rest⟩
  · omega
  · refine hK _ _ w' h6 (only_of_grown h7) fun b hb => ?_
    simp only [fpI, List.mem_singleton] at hb
    subst hb
    rcases h9 with h9 | h9
    · left
      cases A with
      | none => simp [Value.ownBlock] at h9
      | some a => simp only [Value.ownBlock, Option.some.injEq] at h9; simp [fpI, h9]
    · right
      simp only [Value.ownBlock, Option.some.injEq] at h9
      omega
theorem fl2_app (a b : List (Int × Int)) : fl2 (a ++ b) = fl2 a ++ fl2 b := fl2_append a b
set_option maxHeartbeats 4000000 in
theorem mixList_any (key : Int) (A : Option Addr) (n c : Nat) (B : Option Addr) (m d : Nat) (R : Option Addr) (s e : Nat) (a b : List (Int × Int)) (r : List Int) (w : World) (ha : RdC w A a) (hla : a.length = n) (hb : RdC w B b) (hlb : b.length = m) (hr : RdI w R r) (hlr : r.length = s) (hn : n ≤ 1000000) (hm : m ≤ 1000000) (hs : s ≤ 1000000) :
    Calls Tryz.prog 62 #[.int .i64 key, .slice A n c, .slice B m d, .slice R s e] w fun en w' => ∃ (U : Option Addr) (k c1 : Nat), en = .returned (.slice U k c1) ∧ OwnI w' w.heap.size 3 U k c1 (mlL key a b r) ∧ Ext w w' := by
  have HA := Lib.hid hla
  have HB := Lib.hid hlb
  have HR := Lib.hid hlr
  clear hla hlb hlr
  have hn9 : n ≤ 9223372036854775807 := by omega
  have hm9 : m ≤ 9223372036854775807 := by omega
  have h0 := ownI_lit (w := w) (e := 3) [key] rfl rfl (Nat.le_refl _) (by simp only [List.length_cons, List.length_nil]; unfold maxLen; omega)
  have e0 := (Ext.refl w).alloc (.cells #[.int .i64 key] 3)
  go_enter Tryz.func62, Tryz.ntmps62
  go_wp2_with fail
  refine (CloneC_any A n c a _ (ha.ext e0) HA.out hn).mono ?_
  rintro en w2 ⟨A', c', rfl, hO, hb2⟩
  have e1 := e0.trans hb2
  have h1 := h0.ext hb2
  have hz2 := hb2.size
  go_wp2_with (at_builtin; refine wpList_appC cipherSl rfl _ _ rfl hO rfl (hb.ext e1) HB.out rfl (by omega) hz2 ?_; intro A2 d2 w3 hO3 hb3)
  have e2 := e1.then hb3 (by simp)
  have h2 := h0.ext (hb2.then hb3 (Nat.le_refl _))
  have HAB : Hid ((a ++ b).length = n + m) := by show _ = _; rw [List.length_append, HA.out, HB.out]
  have hap0 : Apart (fpI (some ⟨w.heap.size, 0, none⟩)) (fpI A2) := fun x hx hx2 => by
    have h8 := hO3.high x hx2
    simp only [fpI, List.mem_singleton, World.size_alloc] at hx h8
    omega
  clear h0 e0 h1 e1 hb2 hb3 hO hz2
  generalize hnm : n + m = N at *
  have hN : N ≤ 2000000 := by omega
  have hN9 : N ≤ 9223372036854775807 := by omega
  have HML : Hid (mlL key a b r = [key] ++ fl2 (a ++ b) ++ r) := by show _ = _; unfold mlL; rw [fl2_append]; simp only [List.append_assoc]
  generalize a ++ b = ab at *
  go_loopw [9, 19] (fun x i wr => ∃ (j : Nat) (U : Option Addr) (c1 : Nat), j ≤ N ∧ i = .int .i64 j ∧ x = .slice U (1 + 2 * j) c1 ∧ OwnI wr w.heap.size 3 U (1 + 2 * j) c1 ([key] ++ fl2 (ab.take j)) ∧ OwnC wr (w.heap.size + 1) 54 A2 N d2 ab ∧ Apart (fpI U) (fpI A2) ∧ Ext w wr) (fun _ i _ => N - (intOf i).toNat)
  case atStart => exact ⟨0, _, _, Nat.zero_le _, rfl, rfl, h2, hO3.more (by simp), hap0, e2⟩
  case round =>
    obtain ⟨j, U, c1, hj, rfl, rfl, hU, hO4, hap, E⟩ := hrel
    by_cases hlt : j < N
    · have hlt' : j < ab.length := by rw [HAB.out]; exact hlt
      obtain ⟨ad, hA2, hc, hd⟩ := hO4.rd.at_ hlt'
      have htk := fl2_take hlt'
      generalize ab[j] = y at *
      obtain ⟨y1, y2⟩ := y
      simp only at hc hd htk
      have HT := Lib.hid htk
      clear htk
      have hX := ((Ext.refl wr).alloc (.cells #[.int .i64 y1, .int .i64 y2] 54)).alloc (.cells #[.int .i64 y1, .int .i64 y2] 3)
      have hlit := ownI_lit (w := wr.alloc (.cells #[.int .i64 y1, .int .i64 y2] 54)) (e := 3) [y1, y2] rfl rfl (Nat.le_refl _) (by simp only [List.length_cons, List.length_nil]; unfold maxLen; omega)
      simp only [World.size_alloc] at hlit
      have E1 := E.trans hX
      have hU1 := hU.ext hX
      have CX := (Blk.new wr 54 #[.int .i64 y1, .int .i64 y2]).cells
      have hsz1 := E1.size
      have hO5 := hO4.ext hX
      have hsq : wr.heap.size ≤ ((wr.alloc (.cells #[.int .i64 y1, .int .i64 y2] 54)).alloc (.cells #[.int .i64 y1, .int .i64 y2] 3)).heap.size := hX.size
      subst hA2
      go_wp2_with (at_builtin; refine wpList_appLF (m := 2) intSl rfl _ _ rfl hU1 rfl _ hlit.rd rfl rfl (by omega) (by omega) hsz1 ?_; intro U2 d1 w4 hU2 hon hli)
      rw [List.append_assoc, ← HT.out] at hU2
      have hO6 := hO5.only hon hap.symm
      have hap2 : Apart (fpI U2) (fpI (some ad)) := hap.app hO5.low hli
      go_roundw
      case rel => exact ⟨j + 1, U2, d1, by omega, by go_num, rfl, hU2, hO6, hap2, E1.only hon hU1.high⟩
      case measure => first | (simp [intOf]; done) | (simp [intOf]; omega)
    · obtain rfl : j = N := by omega
      rw [List.take_of_length_le (by rw [HAB.out]; exact Nat.le_refl _)] at hU
      have hsz3 := E.size
      go_wp2_with (at_builtin; refine wpList_appL (m := s) intSl rfl _ _ rfl hU rfl (hr.ext E) HR.out rfl (by omega) hsz3 ?_; intro U2 d1 w4 hU2 hb2)
      go_ret
      exact ⟨U2, _, d1, rfl, by rw [HML.out]; exact hU2, E.then hb2 (Nat.le_refl _)⟩
end Go.Proofs.YtnhdohjlbchniaaGreat

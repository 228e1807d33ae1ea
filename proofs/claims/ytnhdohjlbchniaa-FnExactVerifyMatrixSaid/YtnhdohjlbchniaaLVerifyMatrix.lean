/- The law FnExactVerifyMatrix returns true for every input. It holds without a condition. (Printed by tools/gen_lvmx.py.) -/
import Derived.Test.YtnhdohjlbchniaaRows
import Derived.Test.YtnhdohjlbchniaaVmx6
import Derived.Test.YtnhdohjlbchniaaSlK
import Derived.Deep.CutRange
import Derived.Test.YtnhdohjlbchniaaFacts
namespace Go.Proofs.Ytnhdohjlbchniaa
open Go.ChangeShapes Go.WideShapes Go.ChangeAt Go.RowKit
set_option linter.unusedVariables false
set_option linter.unusedSimpArgs false
namespace lawVerifyMatrix
theorem toGroup_any (p q g : Int) (w : World) : Calls Try.prog 7 #[.agg #[.int .i64 p, .int .i64 q, .int .i64 g]] w fun e w' => e = .returned (.agg #[.int .i64 p, .int .i64 q, .int .i64 g]) ∧ Ext w w' := by
  go_enter Try.func7, Try.ntmps7
  go_wp2
  refine bodyPost_ret (v := .agg #[.int .i64 p, .int .i64 q, .int .i64 g]) (by simp [results, Try.results7, go_sem]) rfl ⟨rfl, ?_⟩
  (repeat (first | exact Ext.refl _ | assumption | apply Ext.drew | apply Ext.drewN | apply Ext.alloc | refine Ext.setCell ?_ (by simp; try omega) _))
set_option maxRecDepth 100000 in
set_option maxHeartbeats 8000000 in
theorem walk (x0_0 x0_1 x0_2 : Int) (a1 : Int) (A2 : Option Addr) (l2 : List (Int × Int)) (c2 : Nat) (A3 : Option Addr) (l3 : List (Int × Int)) (c3 : Nat) (C4a : Option Addr) (l4a : List Int) (f4a : Nat) (C4b : Option Addr) (l4b : List Int) (f4b : Nat) (C4c : Option Addr) (l4c : List Int) (f4c : Nat) (C4d : Option Addr) (l4d : List Int) (f4d : Nat) (C4e : Option Addr) (l4e : List Int) (f4e : Nat) (w : World) (f0_0 : Fits x0_0) (f0_1 : Fits x0_1) (f0_2 : Fits x0_2) (f1 : Fits a1) (r2 : RdC w A2 l2) (b2 : l2.length ≤ c2) (m2 : c2 ≤ maxLen) (z2 : A2 = none → c2 = 0) (f2 : ∀ n ∈ l2, Fits n.1 ∧ Fits n.2) (r3 : RdC w A3 l3) (b3 : l3.length ≤ c3) (m3 : c3 ≤ maxLen) (z3 : A3 = none → c3 = 0) (f3 : ∀ n ∈ l3, Fits n.1 ∧ Fits n.2) (s4a : SlI w C4a l4a.length f4a l4a) (s4b : SlI w C4b l4b.length f4b l4b) (s4c : SlI w C4c l4c.length f4c l4c) (s4d : SlI w C4d l4d.length f4d l4d) (s4e : SlI w C4e l4e.length f4e l4e) :
    Calls Try.prog 4 #[.agg #[.int .i64 x0_0, .int .i64 x0_1, .int .i64 x0_2], .int .i64 a1, .slice A2 l2.length c2, .slice A3 l3.length c3, .agg #[.slice C4a l4a.length f4a, .slice C4b l4b.length f4b, .slice C4c l4c.length f4c, .slice C4d l4d.length f4d, .slice C4e l4e.length f4e]] w fun e w' => e = .returned (.bool true) ∧ Ext w w' := by
  clear z2 f2
  have Q2 : l2.length ≤ 9223372036854775807 := by unfold maxLen at m2; omega
  generalize hn2 : l2.length = n2 at *
  have Hn2 := Lib.hid hn2
  clear hn2
  clear z3 f3
  have Q3 : l3.length ≤ 9223372036854775807 := by unfold maxLen at m3; omega
  generalize hn3 : l3.length = n3 at *
  have Hn3 := Lib.hid hn3
  clear hn3
  generalize hk4a : l4a.length = k4a at *
  clear hk4a
  generalize hk4b : l4b.length = k4b at *
  clear hk4b
  generalize hk4c : l4c.length = k4c at *
  clear hk4c
  generalize hk4d : l4d.length = k4d at *
  clear hk4d
  generalize hk4e : l4e.length = k4e at *
  clear hk4e
  obtain ⟨z0, hx⟩ : ∃ z0, vfB x0_0 x0_1 x0_2 a1 l2 l3 l4a l4b l4c l4d l4e = z0 := ⟨_, rfl⟩
  obtain ⟨zb, hzb⟩ : ∃ zb, vfK x0_0 x0_1 x0_2 a1 l2 l3 = zb := ⟨_, rfl⟩
  have HX := Lib.hid hx
  have HZ := Lib.hid hzb
  clear hx hzb
  have B0 := Blk.new (w) 23 #[.int .i64 x0_0, .int .i64 x0_1, .int .i64 x0_2]
  have B4 := Blk.new ((w.alloc (.cells #[.int .i64 x0_0, .int .i64 x0_1, .int .i64 x0_2] 23))) 47 #[.slice C4a k4a f4a, .slice C4b k4b f4b, .slice C4c k4c f4c, .slice C4d k4d f4d, .slice C4e k4e f4e]
  replace B0 := B0.alloc (.cells #[.slice C4a k4a f4a, .slice C4b k4b f4b, .slice C4c k4c f4c, .slice C4d k4d f4d, .slice C4e k4e f4e] 47)
  simp only [World.size_alloc] at B4
  have E := (((Ext.refl w).alloc (.cells #[.int .i64 x0_0, .int .i64 x0_1, .int .i64 x0_2] 23)).alloc (.cells #[.slice C4a k4a f4a, .slice C4b k4b f4b, .slice C4c k4c f4c, .slice C4d k4d f4d, .slice C4e k4e f4e] 47))
  go_enter Try.func4, Try.ntmps4
  have CC0 := B0.cells
  have CC4 := B4.cells
  go_wp2_with fail
  clear CC0 CC4
  generalize ((w.alloc (.cells #[.int .i64 x0_0, .int .i64 x0_1, .int .i64 x0_2] 23)).alloc (.cells #[.slice C4a k4a f4a, .slice C4b k4b f4b, .slice C4c k4c f4c, .slice C4d k4d f4d, .slice C4e k4e f4e] 47)) = w0 at *
  rcases Nat.lt_or_ge (1048576) (n2) with S2 | S2
  · refine (szCipherS_no (by omega)).mono ?_
    rintro e w' ⟨rfl, rfl⟩
    go_wp2
    go_ret
    exact ⟨rfl, E⟩
  refine (szCipherS_yes (by omega)).mono ?_
  rintro e w' ⟨rfl, rfl⟩
  have CC0 := B0.cells
  have CC4 := B4.cells
  go_wp2_with fail
  rcases Nat.lt_or_ge (1048576 - (n2)) (n3) with S3 | S3
  · refine (szCipherS_no (by omega)).mono ?_
    rintro e w' ⟨rfl, rfl⟩
    go_wp2
    go_ret
    exact ⟨rfl, E⟩
  refine (szCipherS_yes (by omega)).mono ?_
  rintro e w' ⟨rfl, rfl⟩
  clear CC0 CC4
  have CC0 := B0.cells
  have CC4 := B4.cells
  go_wp2_with fail
  rcases Nat.lt_or_ge (1048576 - (n2) - (n3)) (k4a + k4b + (k4c + k4d + k4e)) with S4 | S4
  · refine (szMatrixProof_any (z := _) (SlI.ext s4a E) (SlI.ext s4b E) (SlI.ext s4c E) (SlI.ext s4d E) (SlI.ext s4e E) (by omega) (by omega)).mono ?_
    rw [if_neg (by omega)]
    rintro e w' ⟨rfl, hb⟩
    go_wp2
    go_ret
    exact ⟨rfl, E.trans hb⟩
  refine (szMatrixProof_any (z := _) (SlI.ext s4a E) (SlI.ext s4b E) (SlI.ext s4c E) (SlI.ext s4d E) (SlI.ext s4e E) (by omega) (by omega)).mono ?_
  rw [if_pos (by omega)]
  rintro e w1 ⟨rfl, hb⟩
  clear CC0 CC4
  replace E := E.trans hb
  replace B0 := B0.ext hb
  replace B4 := B4.ext hb
  clear hb
  go_wp2_with fail
  have hS : ∀ V, Ext w1 V → V.cell? ⟨w.heap.size, 0, none⟩ = some (.int .i64 x0_0) ∧ V.cell? ⟨w.heap.size, 1, none⟩ = some (.int .i64 x0_1) ∧ V.cell? ⟨w.heap.size, 2, none⟩ = some (.int .i64 x0_2) ∧ V.cell? ⟨w.heap.size + 1, 0, none⟩ = some (.slice C4a k4a f4a) ∧ V.cell? ⟨w.heap.size + 1, 1, none⟩ = some (.slice C4b k4b f4b) ∧ V.cell? ⟨w.heap.size + 1, 2, none⟩ = some (.slice C4c k4c f4c) ∧ V.cell? ⟨w.heap.size + 1, 3, none⟩ = some (.slice C4d k4d f4d) ∧ V.cell? ⟨w.heap.size + 1, 4, none⟩ = some (.slice C4e k4e f4e) := fun V hV => by
    have a0 := (B0.ext hV).cells
    have a4 := (B4.ext hV).cells
    exact ⟨a0 0, a0 1, a0 2, a4 0, a4 1, a4 2, a4 3, a4 4⟩
  go_cut [12, 13] from 34 to 46 (fun c0 c1 wx => c0 = .bool z0 ∧ c1 = .bool zb ∧ Ext w1 wx)
  case first =>
    refine wp_region_held_drew (S := fun V => V.cell? ⟨w.heap.size, 0, none⟩ = some (.int .i64 x0_0) ∧ V.cell? ⟨w.heap.size, 1, none⟩ = some (.int .i64 x0_1) ∧ V.cell? ⟨w.heap.size, 2, none⟩ = some (.int .i64 x0_2) ∧ V.cell? ⟨w.heap.size + 1, 0, none⟩ = some (.slice C4a k4a f4a) ∧ V.cell? ⟨w.heap.size + 1, 1, none⟩ = some (.slice C4b k4b f4b) ∧ V.cell? ⟨w.heap.size + 1, 2, none⟩ = some (.slice C4c k4c f4c) ∧ V.cell? ⟨w.heap.size + 1, 3, none⟩ = some (.slice C4d k4d f4d) ∧ V.cell? ⟨w.heap.size + 1, 4, none⟩ = some (.slice C4e k4e f4e)) (by kernel_rfl) ?_ (fun hHeld => ?_)
    · exact hS _ (by repeat (first | with_reducible assumption | with_reducible exact Ext.refl _ | with_reducible apply Ext.alloc | with_reducible apply Ext.drew | with_reducible apply Ext.drewN))
    refine' wpAnyH_take (i := 0) (v := _) ?hi0 (by kernel_rfl) (by kernel_rfl) (by kernel_rfl) ?hQ0 ?hy0 (by assumption) ?_
    case hi0 => (simp only [List.getElem?_toArray, List.getElem?_cons_zero]; rfl)
    case hy0 => refine Or.inl ⟨by rfl, ?_⟩; intro w hSw; (try dsimp only at hSw); go_simp <;> with_reducible rfl
    case hQ0 => exact fun _ _ _ h => h
    try simp only [Act.put, List.setIfInBounds_toArray, List.set_cons_zero, List.set_cons_succ]
    refine' wpAnyH_take (i := 2) (v := _) ?hi2 (by kernel_rfl) (by kernel_rfl) (by kernel_rfl) ?hQ2 ?hy2 (by assumption) ?_
    case hi2 => (simp only [List.getElem?_toArray, List.getElem?_cons_succ, List.getElem?_cons_zero]; rfl)
    case hy2 => refine Or.inl ⟨by rfl, ?_⟩; intro w hSw; (try dsimp only at hSw); go_simp <;> with_reducible rfl
    case hQ2 => exact fun _ _ _ h => h
    try simp only [Act.put, List.setIfInBounds_toArray, List.set_cons_zero, List.set_cons_succ]
    refine' wpAnyH_take (i := 3) (v := _) ?hi3 (by kernel_rfl) (by kernel_rfl) (by kernel_rfl) ?hQ3 ?hy3 (by assumption) ?_
    case hi3 => (simp only [List.getElem?_toArray, List.getElem?_cons_succ, List.getElem?_cons_zero]; rfl)
    case hy3 => refine Or.inl ⟨by rfl, ?_⟩; intro w hSw; (try dsimp only at hSw); go_simp <;> with_reducible rfl
    case hQ3 => exact fun _ _ _ h => h
    try simp only [Act.put, List.setIfInBounds_toArray, List.set_cons_zero, List.set_cons_succ]
    refine' wpAnyH_take (i := 5) (v := _) ?hi5 (by kernel_rfl) (by kernel_rfl) (by kernel_rfl) ?hQ5 ?hy5 (by assumption) ?_
    case hi5 => (simp only [List.getElem?_toArray, List.getElem?_cons_succ, List.getElem?_cons_zero]; rfl)
    case hy5 => refine Or.inl ⟨by rfl, ?_⟩; intro w hSw; (try dsimp only at hSw); go_simp <;> with_reducible rfl
    case hQ5 => exact fun _ _ _ h => h
    try simp only [Act.put, List.setIfInBounds_toArray, List.set_cons_zero, List.set_cons_succ]
    refine' wpAnyH_take (i := 7) (v := _) ?hi7 (by kernel_rfl) (by kernel_rfl) (by kernel_rfl) ?hQ7 ?hy7 (by assumption) ?_
    case hi7 => (simp only [List.getElem?_toArray, List.getElem?_cons_succ, List.getElem?_cons_zero]; rfl)
    case hy7 => refine Or.inl ⟨by rfl, ?_⟩; intro w hSw; (try dsimp only at hSw); go_simp <;> with_reducible rfl
    case hQ7 => exact fun _ _ _ h => h
    try simp only [Act.put, List.setIfInBounds_toArray, List.set_cons_zero, List.set_cons_succ]
    refine wpAnyH_ready (rs := [1]) (by kernel_rfl) (by simp) ?_
    refine AllReadyH.cons rfl (fun KK hKK => ?_) ?_
    · go_simp
      go_at_call 7
      refine (toGroup_any x0_0 x0_1 x0_2 _).mono ?_
      rintro en wk1 ⟨rfl, hbk1⟩
      have hxk1 := Ext.trans (w := w1) (by repeat (first | with_reducible assumption | with_reducible exact Ext.refl _ | with_reducible apply Ext.alloc | with_reducible apply Ext.drew | with_reducible apply Ext.drewN)) hbk1
      refine hKK.out _ _ ?_ (fun hHeld => ?_)
      · exact hS _ (by repeat (first | with_reducible assumption | with_reducible exact Ext.refl _ | with_reducible apply Ext.alloc | with_reducible apply Ext.drew | with_reducible apply Ext.drewN))
      clear hKK KK
      try simp only [Act.put, List.setIfInBounds_toArray, List.set_cons_zero, List.set_cons_succ]
      refine wpAnyH_ready (rs := [4]) (by kernel_rfl) (by simp) ?_
      refine AllReadyH.cons rfl (fun KK hKK => ?_) ?_
      · go_simp
        go_at_call 22
        refine (toCipherS_any A2 n2 c2 l2 _ (RdC.ext r2 (E.trans (by repeat (first | with_reducible assumption | with_reducible exact Ext.refl _ | with_reducible apply Ext.alloc | with_reducible apply Ext.drew | with_reducible apply Ext.drewN)))) Hn2.out (by omega)).mono ?_
        rintro en wk4 ⟨At1, ct1, rfl, t1, hbk4⟩
        have hxk4 := Ext.trans (w := w1) (by repeat (first | with_reducible assumption | with_reducible exact Ext.refl _ | with_reducible apply Ext.alloc | with_reducible apply Ext.drew | with_reducible apply Ext.drewN)) hbk4
        refine hKK.out _ _ ?_ (fun hHeld => ?_)
        · exact hS _ (by repeat (first | with_reducible assumption | with_reducible exact Ext.refl _ | with_reducible apply Ext.alloc | with_reducible apply Ext.drew | with_reducible apply Ext.drewN))
        clear hKK KK
        try simp only [Act.put, List.setIfInBounds_toArray, List.set_cons_zero, List.set_cons_succ]
        refine wpAnyH_ready (rs := [6]) (by kernel_rfl) (by simp) ?_
        refine AllReadyH.cons rfl (fun KK hKK => ?_) ?_
        · go_simp
          go_at_call 22
          refine (toCipherS_any A3 n3 c3 l3 _ (RdC.ext r3 (E.trans (by repeat (first | with_reducible assumption | with_reducible exact Ext.refl _ | with_reducible apply Ext.alloc | with_reducible apply Ext.drew | with_reducible apply Ext.drewN)))) Hn3.out (by omega)).mono ?_
          rintro en wk6 ⟨At2, ct2, rfl, t2, hbk6⟩
          have hxk6 := Ext.trans (w := w1) (by repeat (first | with_reducible assumption | with_reducible exact Ext.refl _ | with_reducible apply Ext.alloc | with_reducible apply Ext.drew | with_reducible apply Ext.drewN)) hbk6
          replace t1 := t1.ext (Ext.trans (by repeat (first | with_reducible assumption | with_reducible exact Ext.refl _ | with_reducible apply Ext.alloc | with_reducible apply Ext.drew | with_reducible apply Ext.drewN)) hbk6)
          refine hKK.out _ _ ?_ (fun hHeld => ?_)
          · exact hS _ (by repeat (first | with_reducible assumption | with_reducible exact Ext.refl _ | with_reducible apply Ext.alloc | with_reducible apply Ext.drew | with_reducible apply Ext.drewN))
          clear hKK KK
          try simp only [Act.put, List.setIfInBounds_toArray, List.set_cons_zero, List.set_cons_succ]
          refine wpAnyH_ready (rs := [8]) (by kernel_rfl) (by simp) ?_
          refine AllReadyH.cons rfl (fun KK hKK => ?_) ?_
          · go_simp
            go_at_call 23
            refine (toMatrixProof_any C4a k4a f4a C4b k4b f4b C4c k4c f4c C4d k4d f4d C4e k4e f4e l4a l4b l4c l4d l4e _ (SlI.ext s4a (E.trans (by repeat (first | with_reducible assumption | with_reducible exact Ext.refl _ | with_reducible apply Ext.alloc | with_reducible apply Ext.drew | with_reducible apply Ext.drewN)))) (SlI.ext s4b (E.trans (by repeat (first | with_reducible assumption | with_reducible exact Ext.refl _ | with_reducible apply Ext.alloc | with_reducible apply Ext.drew | with_reducible apply Ext.drewN)))) (SlI.ext s4c (E.trans (by repeat (first | with_reducible assumption | with_reducible exact Ext.refl _ | with_reducible apply Ext.alloc | with_reducible apply Ext.drew | with_reducible apply Ext.drewN)))) (SlI.ext s4d (E.trans (by repeat (first | with_reducible assumption | with_reducible exact Ext.refl _ | with_reducible apply Ext.alloc | with_reducible apply Ext.drew | with_reducible apply Ext.drewN)))) (SlI.ext s4e (E.trans (by repeat (first | with_reducible assumption | with_reducible exact Ext.refl _ | with_reducible apply Ext.alloc | with_reducible apply Ext.drew | with_reducible apply Ext.drewN)))) (by omega)).mono ?_
            rintro en wk8 ⟨Dt30, gt30, Dt31, gt31, Dt32, gt32, Dt33, gt33, Dt34, gt34, rfl, t3, hbk8⟩
            have hxk8 := Ext.trans (w := w1) (by repeat (first | with_reducible assumption | with_reducible exact Ext.refl _ | with_reducible apply Ext.alloc | with_reducible apply Ext.drew | with_reducible apply Ext.drewN)) hbk8
            replace t1 := t1.ext (Ext.trans (by repeat (first | with_reducible assumption | with_reducible exact Ext.refl _ | with_reducible apply Ext.alloc | with_reducible apply Ext.drew | with_reducible apply Ext.drewN)) hbk8)
            replace t2 := t2.ext (Ext.trans (by repeat (first | with_reducible assumption | with_reducible exact Ext.refl _ | with_reducible apply Ext.alloc | with_reducible apply Ext.drew | with_reducible apply Ext.drewN)) hbk8)
            refine hKK.out _ _ ?_ (fun hHeld => ?_)
            · exact hS _ (by repeat (first | with_reducible assumption | with_reducible exact Ext.refl _ | with_reducible apply Ext.alloc | with_reducible apply Ext.drew | with_reducible apply Ext.drewN))
            clear hKK KK
            try simp only [Act.put, List.setIfInBounds_toArray, List.set_cons_zero, List.set_cons_succ]
            refine wpAnyH_ready (rs := [9]) (by kernel_rfl) (by simp) ?_
            refine AllReadyH.cons rfl (fun KK hKK => ?_) ?_
            · go_simp
              go_at_call 21
              refine (sVerifyMatrix_any x0_0 x0_1 x0_2 a1 At1 n2 ct1 At2 n3 ct2 l2 l3 Dt30 k4a gt30 Dt31 k4b gt31 Dt32 k4c gt32 Dt33 k4d gt33 Dt34 k4e gt34 l4a l4b l4c l4d l4e _ (RdC.ext t1.rd (by repeat (first | with_reducible assumption | with_reducible exact Ext.refl _ | with_reducible apply Ext.alloc | with_reducible apply Ext.drew | with_reducible apply Ext.drewN))) t1.len (by unfold maxLen; omega) (RdC.ext t2.rd (by repeat (first | with_reducible assumption | with_reducible exact Ext.refl _ | with_reducible apply Ext.alloc | with_reducible apply Ext.drew | with_reducible apply Ext.drewN))) t2.len (by unfold maxLen; omega) (SlI.ext (RowsRd.five t3.rd).1 (by repeat (first | with_reducible assumption | with_reducible exact Ext.refl _ | with_reducible apply Ext.alloc | with_reducible apply Ext.drew | with_reducible apply Ext.drewN))) (SlI.ext (RowsRd.five t3.rd).2.1 (by repeat (first | with_reducible assumption | with_reducible exact Ext.refl _ | with_reducible apply Ext.alloc | with_reducible apply Ext.drew | with_reducible apply Ext.drewN))) (SlI.ext (RowsRd.five t3.rd).2.2.1 (by repeat (first | with_reducible assumption | with_reducible exact Ext.refl _ | with_reducible apply Ext.alloc | with_reducible apply Ext.drew | with_reducible apply Ext.drewN))) (SlI.ext (RowsRd.five t3.rd).2.2.2.1 (by repeat (first | with_reducible assumption | with_reducible exact Ext.refl _ | with_reducible apply Ext.alloc | with_reducible apply Ext.drew | with_reducible apply Ext.drewN))) (SlI.ext (RowsRd.five t3.rd).2.2.2.2 (by repeat (first | with_reducible assumption | with_reducible exact Ext.refl _ | with_reducible apply Ext.alloc | with_reducible apply Ext.drew | with_reducible apply Ext.drewN)))).mono ?_
              rintro en wk9 ⟨hen, hbk9⟩
              rw [HX.out, HZ.out] at hen; subst hen
              have hxk9 := Ext.trans (w := w1) (by repeat (first | with_reducible assumption | with_reducible exact Ext.refl _ | with_reducible apply Ext.alloc | with_reducible apply Ext.drew | with_reducible apply Ext.drewN)) hbk9
              replace t1 := t1.ext (Ext.trans (by repeat (first | with_reducible assumption | with_reducible exact Ext.refl _ | with_reducible apply Ext.alloc | with_reducible apply Ext.drew | with_reducible apply Ext.drewN)) hbk9)
              replace t2 := t2.ext (Ext.trans (by repeat (first | with_reducible assumption | with_reducible exact Ext.refl _ | with_reducible apply Ext.alloc | with_reducible apply Ext.drew | with_reducible apply Ext.drewN)) hbk9)
              replace t3 := t3.ext (Ext.trans (by repeat (first | with_reducible assumption | with_reducible exact Ext.refl _ | with_reducible apply Ext.alloc | with_reducible apply Ext.drew | with_reducible apply Ext.drewN)) hbk9)
              refine hKK.out _ _ ?_ (fun hHeld => ?_)
              · exact hS _ (by repeat (first | with_reducible assumption | with_reducible exact Ext.refl _ | with_reducible apply Ext.alloc | with_reducible apply Ext.drew | with_reducible apply Ext.drewN))
              clear hKK KK
              try simp only [Act.put, List.setIfInBounds_toArray, List.set_cons_zero, List.set_cons_succ]
              refine' wpAnyH_take (i := 10) (v := _) ?hi10 (by kernel_rfl) (by kernel_rfl) (by kernel_rfl) ?hQ10 ?hy10 (by assumption) ?_
              case hi10 => (simp only [List.getElem?_toArray, List.getElem?_cons_succ, List.getElem?_cons_zero]; rfl)
              case hy10 => refine Or.inl ⟨by rfl, ?_⟩; intro w hSw; (try dsimp only at hSw); go_simp <;> with_reducible rfl
              case hQ10 => exact fun _ _ _ h => h
              try simp only [Act.put, List.setIfInBounds_toArray, List.set_cons_zero, List.set_cons_succ]
              refine' wpAnyH_take (i := 11) (v := _) ?hi11 (by kernel_rfl) (by kernel_rfl) (by kernel_rfl) ?hQ11 ?hy11 (by assumption) ?_
              case hi11 => (simp only [List.getElem?_toArray, List.getElem?_cons_succ, List.getElem?_cons_zero]; rfl)
              case hy11 => refine Or.inl ⟨by rfl, ?_⟩; intro w hSw; (try dsimp only at hSw); go_simp <;> with_reducible rfl
              case hQ11 => exact fun _ _ _ h => h
              try simp only [Act.put, List.setIfInBounds_toArray, List.set_cons_zero, List.set_cons_succ]
              refine' wpAnyH_take (i := 12) (v := _) ?hi12 (by kernel_rfl) (by kernel_rfl) (by kernel_rfl) ?hQ12 ?hy12 (by assumption) ?_
              case hi12 => (simp only [List.getElem?_toArray, List.getElem?_cons_succ, List.getElem?_cons_zero]; rfl)
              case hy12 => refine Or.inl ⟨by rfl, ?_⟩; intro w hSw; (try dsimp only at hSw); go_simp <;> with_reducible rfl
              case hQ12 => exact fun _ _ _ h => h
              try simp only [Act.put, List.setIfInBounds_toArray, List.set_cons_zero, List.set_cons_succ]
              refine' wpAnyH_take (i := 13) (v := _) ?hi13 (by kernel_rfl) (by kernel_rfl) (by kernel_rfl) ?hQ13 ?hy13 (by assumption) ?_
              case hi13 => (simp only [List.getElem?_toArray, List.getElem?_cons_succ, List.getElem?_cons_zero]; rfl)
              case hy13 => refine Or.inl ⟨by rfl, ?_⟩; intro w hSw; (try dsimp only at hSw); go_simp <;> with_reducible rfl
              case hQ13 => exact fun _ _ _ h => h
              try simp only [Act.put, List.setIfInBounds_toArray, List.set_cons_zero, List.set_cons_succ]
              refine' wpAnyH_take (i := 14) (v := _) ?hi14 (by kernel_rfl) (by kernel_rfl) (by kernel_rfl) ?hQ14 ?hy14 (by assumption) ?_
              case hi14 => (simp only [List.getElem?_toArray, List.getElem?_cons_succ, List.getElem?_cons_zero]; rfl)
              case hy14 => refine Or.inl ⟨by rfl, ?_⟩; intro w hSw; (try dsimp only at hSw); go_simp <;> with_reducible rfl
              case hQ14 => exact fun _ _ _ h => h
              try simp only [Act.put, List.setIfInBounds_toArray, List.set_cons_zero, List.set_cons_succ]
              refine wpAnyH_done (by kernel_rfl) ?_ _
              go_wp2
              go_meet
              exact ⟨rfl, rfl, hxk9⟩
            exact AllReadyH.nil
          exact AllReadyH.nil
        exact AllReadyH.nil
      exact AllReadyH.nil
    exact AllReadyH.nil
  case' rest =>
  obtain ⟨rfl, rfl, hb⟩ := hcut
  replace E := E.trans hb
  replace B0 := B0.ext hb
  replace B4 := B4.ext hb
  clear hb hS
  generalize wc = w2 at *
  have CC0 := B0.cells
  have CC4 := B4.cells
  go_wp2_with fail
  have LB0_x2 := B0.lt
  have LB4_x2 := B4.lt
  have Zx2 := E.size
  refine (toCipherS_any A2 n2 c2 l2 _ (RdC.ext r2 (E.trans (Ext.refl _))) Hn2.out (by omega)).mono ?_
  rintro en w3 ⟨Ax2, cx2, rfl, x2, hb⟩
  clear CC0 CC4
  replace E := E.trans hb
  replace B0 := B0.ext hb
  replace B4 := B4.ext hb
  clear hb
  have CC0 := B0.cells
  have CC4 := B4.cells
  go_wp2_with fail
  have Lx2_x3 := x2.low
  have LB0_x3 := B0.lt
  have LB4_x3 := B4.lt
  have Zx3 := E.size
  refine (toCipherS_any A3 n3 c3 l3 _ (RdC.ext r3 (E.trans (Ext.refl _))) Hn3.out (by omega)).mono ?_
  rintro en w4 ⟨Ax3, cx3, rfl, x3, hb⟩
  clear CC0 CC4
  replace E := E.trans hb
  replace B0 := B0.ext hb
  replace B4 := B4.ext hb
  replace x2 := x2.ext hb
  clear hb
  have CC0 := B0.cells
  have CC4 := B4.cells
  go_wp2_with fail
  have Lx2_x4 := x2.low
  have Lx3_x4 := x3.low
  have LB0_x4 := B0.lt
  have LB4_x4 := B4.lt
  have Zx4 := E.size
  refine (toMatrixProof_any C4a k4a f4a C4b k4b f4b C4c k4c f4c C4d k4d f4d C4e k4e f4e l4a l4b l4c l4d l4e _ (SlI.ext s4a (E.trans (Ext.refl _))) (SlI.ext s4b (E.trans (Ext.refl _))) (SlI.ext s4c (E.trans (Ext.refl _))) (SlI.ext s4d (E.trans (Ext.refl _))) (SlI.ext s4e (E.trans (Ext.refl _))) (by omega)).mono ?_
  rintro en w5 ⟨Dx40, gx40, Dx41, gx41, Dx42, gx42, Dx43, gx43, Dx44, gx44, rfl, x4, hb⟩
  clear CC0 CC4
  replace E := E.trans hb
  replace B0 := B0.ext hb
  replace B4 := B4.ext hb
  replace x2 := x2.ext hb
  replace x3 := x3.ext hb
  clear hb
  have CC0 := B0.cells
  have CC4 := B4.cells
  go_wp2_with fail
  clear CC0 CC4
  have hb := (Ext.refl w5).alloc (.cells #[.slice Dx40 k4a gx40, .slice Dx41 k4b gx41, .slice Dx42 k4c gx42, .slice Dx43 k4d gx43, .slice Dx44 k4e gx44] 56)
  replace E := E.trans hb
  replace B0 := B0.ext hb
  replace B4 := B4.ext hb
  replace x2 := x2.ext hb
  replace x3 := x3.ext hb
  replace x4 := x4.ext hb
  have Bx4x := Blk.new w5 56 #[.slice Dx40 k4a gx40, .slice Dx41 k4b gx41, .slice Dx42 k4c gx42, .slice Dx43 k4d gx43, .slice Dx44 k4e gx44]
  generalize hgx4 : w5.heap.size = gx4 at *
  clear hgx4 hb
  generalize w5.alloc (.cells #[.slice Dx40 k4a gx40, .slice Dx41 k4b gx41, .slice Dx42 k4c gx42, .slice Dx43 k4d gx43, .slice Dx44 k4e gx44] 56) = w6 at *
  have hS : ∀ V, Ext w6 V → V.cell? ⟨w.heap.size, 0, none⟩ = some (.int .i64 x0_0) ∧ V.cell? ⟨w.heap.size, 1, none⟩ = some (.int .i64 x0_1) ∧ V.cell? ⟨w.heap.size, 2, none⟩ = some (.int .i64 x0_2) ∧ V.cell? ⟨w.heap.size + 1, 0, none⟩ = some (.slice C4a k4a f4a) ∧ V.cell? ⟨w.heap.size + 1, 1, none⟩ = some (.slice C4b k4b f4b) ∧ V.cell? ⟨w.heap.size + 1, 2, none⟩ = some (.slice C4c k4c f4c) ∧ V.cell? ⟨w.heap.size + 1, 3, none⟩ = some (.slice C4d k4d f4d) ∧ V.cell? ⟨w.heap.size + 1, 4, none⟩ = some (.slice C4e k4e f4e) ∧ V.cell? ⟨gx4, 0, none⟩ = some (.slice Dx40 k4a gx40) ∧ V.cell? ⟨gx4, 1, none⟩ = some (.slice Dx41 k4b gx41) ∧ V.cell? ⟨gx4, 2, none⟩ = some (.slice Dx42 k4c gx42) ∧ V.cell? ⟨gx4, 3, none⟩ = some (.slice Dx43 k4d gx43) ∧ V.cell? ⟨gx4, 4, none⟩ = some (.slice Dx44 k4e gx44) := fun V hV => by
    have a0 := (B0.ext hV).cells
    have a4 := (B4.ext hV).cells
    have ax4x := (Bx4x.ext hV).cells
    exact ⟨a0 0, a0 1, a0 2, a4 0, a4 1, a4 2, a4 3, a4 4, ax4x 0, ax4x 1, ax4x 2, ax4x 3, ax4x 4⟩
  go_cut [17, 18] from 53 to 62 (fun c0 c1 wx => c0 = .bool z0 ∧ c1 = .bool zb ∧ Ext w6 wx)
  case first =>
    refine wp_region_held_drew (S := fun V => V.cell? ⟨w.heap.size, 0, none⟩ = some (.int .i64 x0_0) ∧ V.cell? ⟨w.heap.size, 1, none⟩ = some (.int .i64 x0_1) ∧ V.cell? ⟨w.heap.size, 2, none⟩ = some (.int .i64 x0_2) ∧ V.cell? ⟨w.heap.size + 1, 0, none⟩ = some (.slice C4a k4a f4a) ∧ V.cell? ⟨w.heap.size + 1, 1, none⟩ = some (.slice C4b k4b f4b) ∧ V.cell? ⟨w.heap.size + 1, 2, none⟩ = some (.slice C4c k4c f4c) ∧ V.cell? ⟨w.heap.size + 1, 3, none⟩ = some (.slice C4d k4d f4d) ∧ V.cell? ⟨w.heap.size + 1, 4, none⟩ = some (.slice C4e k4e f4e) ∧ V.cell? ⟨gx4, 0, none⟩ = some (.slice Dx40 k4a gx40) ∧ V.cell? ⟨gx4, 1, none⟩ = some (.slice Dx41 k4b gx41) ∧ V.cell? ⟨gx4, 2, none⟩ = some (.slice Dx42 k4c gx42) ∧ V.cell? ⟨gx4, 3, none⟩ = some (.slice Dx43 k4d gx43) ∧ V.cell? ⟨gx4, 4, none⟩ = some (.slice Dx44 k4e gx44)) (by kernel_rfl) ?_ (fun hHeld => ?_)
    · exact hS _ (by repeat (first | with_reducible assumption | with_reducible exact Ext.refl _ | with_reducible apply Ext.alloc | with_reducible apply Ext.drew | with_reducible apply Ext.drewN))
    refine' wpAnyH_take (i := 0) (v := _) ?hi0 (by kernel_rfl) (by kernel_rfl) (by kernel_rfl) ?hQ0 ?hy0 (by assumption) ?_
    case hi0 => (simp only [List.getElem?_toArray, List.getElem?_cons_zero]; rfl)
    case hy0 => refine Or.inl ⟨by rfl, ?_⟩; intro w hSw; (try dsimp only at hSw); go_simp <;> with_reducible rfl
    case hQ0 => exact fun _ _ _ h => h
    try simp only [Act.put, List.setIfInBounds_toArray, List.set_cons_zero, List.set_cons_succ]
    refine' wpAnyH_take (i := 2) (v := _) ?hi2 (by kernel_rfl) (by kernel_rfl) (by kernel_rfl) ?hQ2 ?hy2 (by assumption) ?_
    case hi2 => (simp only [List.getElem?_toArray, List.getElem?_cons_succ, List.getElem?_cons_zero]; rfl)
    case hy2 => refine Or.inl ⟨by rfl, ?_⟩; intro w hSw; (try dsimp only at hSw); go_simp <;> with_reducible rfl
    case hQ2 => exact fun _ _ _ h => h
    try simp only [Act.put, List.setIfInBounds_toArray, List.set_cons_zero, List.set_cons_succ]
    refine' wpAnyH_take (i := 3) (v := _) ?hi3 (by kernel_rfl) (by kernel_rfl) (by kernel_rfl) ?hQ3 ?hy3 (by assumption) ?_
    case hi3 => (simp only [List.getElem?_toArray, List.getElem?_cons_succ, List.getElem?_cons_zero]; rfl)
    case hy3 => refine Or.inl ⟨by rfl, ?_⟩; intro w hSw; (try dsimp only at hSw); go_simp <;> with_reducible rfl
    case hQ3 => exact fun _ _ _ h => h
    try simp only [Act.put, List.setIfInBounds_toArray, List.set_cons_zero, List.set_cons_succ]
    refine' wpAnyH_take (i := 4) (v := _) ?hi4 (by kernel_rfl) (by kernel_rfl) (by kernel_rfl) ?hQ4 ?hy4 (by assumption) ?_
    case hi4 => (simp only [List.getElem?_toArray, List.getElem?_cons_succ, List.getElem?_cons_zero]; rfl)
    case hy4 => refine Or.inl ⟨by rfl, ?_⟩; intro w hSw; (try dsimp only at hSw); go_simp <;> with_reducible rfl
    case hQ4 => exact fun _ _ _ h => h
    try simp only [Act.put, List.setIfInBounds_toArray, List.set_cons_zero, List.set_cons_succ]
    refine' wpAnyH_take (i := 5) (v := _) ?hi5 (by kernel_rfl) (by kernel_rfl) (by kernel_rfl) ?hQ5 ?hy5 (by assumption) ?_
    case hi5 => (simp only [List.getElem?_toArray, List.getElem?_cons_succ, List.getElem?_cons_zero]; rfl)
    case hy5 => refine Or.inl ⟨by rfl, ?_⟩; intro w hSw; (try dsimp only at hSw); go_simp <;> with_reducible rfl
    case hQ5 => exact fun _ _ _ h => h
    try simp only [Act.put, List.setIfInBounds_toArray, List.set_cons_zero, List.set_cons_succ]
    refine wpAnyH_ready (rs := [1]) (by kernel_rfl) (by simp) ?_
    refine AllReadyH.cons rfl (fun KK hKK => ?_) ?_
    · go_simp
      go_at_call 7
      refine (toGroup_any x0_0 x0_1 x0_2 _).mono ?_
      rintro en wk1 ⟨rfl, hbk1⟩
      have hxk1 := Ext.trans (w := w6) (by repeat (first | with_reducible assumption | with_reducible exact Ext.refl _ | with_reducible apply Ext.alloc | with_reducible apply Ext.drew | with_reducible apply Ext.drewN)) hbk1
      refine hKK.out _ _ ?_ (fun hHeld => ?_)
      · exact hS _ (by repeat (first | with_reducible assumption | with_reducible exact Ext.refl _ | with_reducible apply Ext.alloc | with_reducible apply Ext.drew | with_reducible apply Ext.drewN))
      clear hKK KK
      try simp only [Act.put, List.setIfInBounds_toArray, List.set_cons_zero, List.set_cons_succ]
      refine wpAnyH_ready (rs := [6]) (by kernel_rfl) (by simp) ?_
      refine AllReadyH.cons rfl (fun KK hKK => ?_) ?_
      · go_simp
        go_at_call 24
        refine (iVerifyMatrix_any x0_0 x0_1 x0_2 a1 Ax2 n2 cx2 Ax3 n3 cx3 l2 l3 Dx40 k4a gx40 Dx41 k4b gx41 Dx42 k4c gx42 Dx43 k4d gx43 Dx44 k4e gx44 l4a l4b l4c l4d l4e _ (RdC.ext x2.rd (by repeat (first | with_reducible assumption | with_reducible exact Ext.refl _ | with_reducible apply Ext.alloc | with_reducible apply Ext.drew | with_reducible apply Ext.drewN))) x2.len (by unfold maxLen; omega) (RdC.ext x3.rd (by repeat (first | with_reducible assumption | with_reducible exact Ext.refl _ | with_reducible apply Ext.alloc | with_reducible apply Ext.drew | with_reducible apply Ext.drewN))) x3.len (by unfold maxLen; omega) (SlI.ext (RowsRd.five x4.rd).1 (by repeat (first | with_reducible assumption | with_reducible exact Ext.refl _ | with_reducible apply Ext.alloc | with_reducible apply Ext.drew | with_reducible apply Ext.drewN))) (SlI.ext (RowsRd.five x4.rd).2.1 (by repeat (first | with_reducible assumption | with_reducible exact Ext.refl _ | with_reducible apply Ext.alloc | with_reducible apply Ext.drew | with_reducible apply Ext.drewN))) (SlI.ext (RowsRd.five x4.rd).2.2.1 (by repeat (first | with_reducible assumption | with_reducible exact Ext.refl _ | with_reducible apply Ext.alloc | with_reducible apply Ext.drew | with_reducible apply Ext.drewN))) (SlI.ext (RowsRd.five x4.rd).2.2.2.1 (by repeat (first | with_reducible assumption | with_reducible exact Ext.refl _ | with_reducible apply Ext.alloc | with_reducible apply Ext.drew | with_reducible apply Ext.drewN))) (SlI.ext (RowsRd.five x4.rd).2.2.2.2 (by repeat (first | with_reducible assumption | with_reducible exact Ext.refl _ | with_reducible apply Ext.alloc | with_reducible apply Ext.drew | with_reducible apply Ext.drewN)))).mono ?_
        rintro en wk6 ⟨hen, hbk6⟩
        rw [HX.out, HZ.out] at hen; subst hen
        have hxk6 := Ext.trans (w := w6) (by repeat (first | with_reducible assumption | with_reducible exact Ext.refl _ | with_reducible apply Ext.alloc | with_reducible apply Ext.drew | with_reducible apply Ext.drewN)) hbk6
        refine hKK.out _ _ ?_ (fun hHeld => ?_)
        · exact hS _ (by repeat (first | with_reducible assumption | with_reducible exact Ext.refl _ | with_reducible apply Ext.alloc | with_reducible apply Ext.drew | with_reducible apply Ext.drewN))
        clear hKK KK
        try simp only [Act.put, List.setIfInBounds_toArray, List.set_cons_zero, List.set_cons_succ]
        refine' wpAnyH_take (i := 7) (v := _) ?hi7 (by kernel_rfl) (by kernel_rfl) (by kernel_rfl) ?hQ7 ?hy7 (by assumption) ?_
        case hi7 => (simp only [List.getElem?_toArray, List.getElem?_cons_succ, List.getElem?_cons_zero]; rfl)
        case hy7 => refine Or.inl ⟨by rfl, ?_⟩; intro w hSw; (try dsimp only at hSw); go_simp <;> with_reducible rfl
        case hQ7 => exact fun _ _ _ h => h
        try simp only [Act.put, List.setIfInBounds_toArray, List.set_cons_zero, List.set_cons_succ]
        refine' wpAnyH_take (i := 8) (v := _) ?hi8 (by kernel_rfl) (by kernel_rfl) (by kernel_rfl) ?hQ8 ?hy8 (by assumption) ?_
        case hi8 => (simp only [List.getElem?_toArray, List.getElem?_cons_succ, List.getElem?_cons_zero]; rfl)
        case hy8 => refine Or.inl ⟨by rfl, ?_⟩; intro w hSw; (try dsimp only at hSw); go_simp <;> with_reducible rfl
        case hQ8 => exact fun _ _ _ h => h
        try simp only [Act.put, List.setIfInBounds_toArray, List.set_cons_zero, List.set_cons_succ]
        refine' wpAnyH_take (i := 9) (v := _) ?hi9 (by kernel_rfl) (by kernel_rfl) (by kernel_rfl) ?hQ9 ?hy9 (by assumption) ?_
        case hi9 => (simp only [List.getElem?_toArray, List.getElem?_cons_succ, List.getElem?_cons_zero]; rfl)
        case hy9 => refine Or.inl ⟨by rfl, ?_⟩; intro w hSw; (try dsimp only at hSw); go_simp <;> with_reducible rfl
        case hQ9 => exact fun _ _ _ h => h
        try simp only [Act.put, List.setIfInBounds_toArray, List.set_cons_zero, List.set_cons_succ]
        refine' wpAnyH_take (i := 10) (v := _) ?hi10 (by kernel_rfl) (by kernel_rfl) (by kernel_rfl) ?hQ10 ?hy10 (by assumption) ?_
        case hi10 => (simp only [List.getElem?_toArray, List.getElem?_cons_succ, List.getElem?_cons_zero]; rfl)
        case hy10 => refine Or.inl ⟨by rfl, ?_⟩; intro w hSw; (try dsimp only at hSw); go_simp <;> with_reducible rfl
        case hQ10 => exact fun _ _ _ h => h
        try simp only [Act.put, List.setIfInBounds_toArray, List.set_cons_zero, List.set_cons_succ]
        refine' wpAnyH_take (i := 11) (v := _) ?hi11 (by kernel_rfl) (by kernel_rfl) (by kernel_rfl) ?hQ11 ?hy11 (by assumption) ?_
        case hi11 => (simp only [List.getElem?_toArray, List.getElem?_cons_succ, List.getElem?_cons_zero]; rfl)
        case hy11 => refine Or.inl ⟨by rfl, ?_⟩; intro w hSw; (try dsimp only at hSw); go_simp <;> with_reducible rfl
        case hQ11 => exact fun _ _ _ h => h
        try simp only [Act.put, List.setIfInBounds_toArray, List.set_cons_zero, List.set_cons_succ]
        refine wpAnyH_done (by kernel_rfl) ?_ _
        go_wp2
        go_meet
        exact ⟨rfl, rfl, hxk6⟩
      exact AllReadyH.nil
    exact AllReadyH.nil
  case' rest =>
  obtain ⟨rfl, rfl, hb⟩ := hcut
  replace E := E.trans hb
  replace B0 := B0.ext hb
  replace B4 := B4.ext hb
  replace Bx4x := Bx4x.ext hb
  replace x2 := x2.ext hb
  replace x3 := x3.ext hb
  replace x4 := x4.ext hb
  clear hb hS
  generalize wc = w7 at *
  have CC0 := B0.cells
  have CC4 := B4.cells
  have CCx4x := Bx4x.cells
  go_wp2_with fail
  have Lx2_t4 := x2.low
  have Lx3_t4 := x3.low
  have Lx4_t4 := x4.low
  have LB0_t4 := B0.lt
  have LB4_t4 := B4.lt
  have LBx4x_t4 := Bx4x.lt
  have Zt4 := E.size
  refine (toCipherS_any A2 n2 c2 l2 _ (RdC.ext r2 (E.trans (Ext.refl _))) Hn2.out (by omega)).mono ?_
  rintro en w8 ⟨At4, ct4, rfl, t4, hb⟩
  clear CC0 CC4 CCx4x
  replace E := E.trans hb
  replace B0 := B0.ext hb
  replace B4 := B4.ext hb
  replace Bx4x := Bx4x.ext hb
  replace x2 := x2.ext hb
  replace x3 := x3.ext hb
  replace x4 := x4.ext hb
  clear hb
  have CC0 := B0.cells
  have CC4 := B4.cells
  have CCx4x := Bx4x.cells
  go_wp2_with fail
  refine (eqCipherS_same (RdC.ext x2.rd (Ext.refl _)) (RdC.ext t4.rd (Ext.refl _)) x2.len t4.len x2.le t4.le).mono ?_
  rintro en w9 ⟨rfl, hb⟩
  clear CC0 CC4 CCx4x
  replace E := E.trans hb
  replace B0 := B0.ext hb
  replace B4 := B4.ext hb
  replace Bx4x := Bx4x.ext hb
  replace x2 := x2.ext hb
  replace x3 := x3.ext hb
  replace x4 := x4.ext hb
  replace t4 := t4.ext hb
  clear hb
  clear t4
  have CC0 := B0.cells
  have CC4 := B4.cells
  have CCx4x := Bx4x.cells
  go_wp2_with fail
  have Lx2_t5 := x2.low
  have Lx3_t5 := x3.low
  have Lx4_t5 := x4.low
  have LB0_t5 := B0.lt
  have LB4_t5 := B4.lt
  have LBx4x_t5 := Bx4x.lt
  have Zt5 := E.size
  refine (toCipherS_any A3 n3 c3 l3 _ (RdC.ext r3 (E.trans (Ext.refl _))) Hn3.out (by omega)).mono ?_
  rintro en w10 ⟨At5, ct5, rfl, t5, hb⟩
  clear CC0 CC4 CCx4x
  replace E := E.trans hb
  replace B0 := B0.ext hb
  replace B4 := B4.ext hb
  replace Bx4x := Bx4x.ext hb
  replace x2 := x2.ext hb
  replace x3 := x3.ext hb
  replace x4 := x4.ext hb
  clear hb
  have CC0 := B0.cells
  have CC4 := B4.cells
  have CCx4x := Bx4x.cells
  go_wp2_with fail
  refine (eqCipherS_same (RdC.ext x3.rd (Ext.refl _)) (RdC.ext t5.rd (Ext.refl _)) x3.len t5.len x3.le t5.le).mono ?_
  rintro en w11 ⟨rfl, hb⟩
  clear CC0 CC4 CCx4x
  replace E := E.trans hb
  replace B0 := B0.ext hb
  replace B4 := B4.ext hb
  replace Bx4x := Bx4x.ext hb
  replace x2 := x2.ext hb
  replace x3 := x3.ext hb
  replace x4 := x4.ext hb
  replace t5 := t5.ext hb
  clear hb
  clear t5
  go_wp2_with fail
  have hS : ∀ V, Ext w11 V → V.cell? ⟨w.heap.size, 0, none⟩ = some (.int .i64 x0_0) ∧ V.cell? ⟨w.heap.size, 1, none⟩ = some (.int .i64 x0_1) ∧ V.cell? ⟨w.heap.size, 2, none⟩ = some (.int .i64 x0_2) ∧ V.cell? ⟨w.heap.size + 1, 0, none⟩ = some (.slice C4a k4a f4a) ∧ V.cell? ⟨w.heap.size + 1, 1, none⟩ = some (.slice C4b k4b f4b) ∧ V.cell? ⟨w.heap.size + 1, 2, none⟩ = some (.slice C4c k4c f4c) ∧ V.cell? ⟨w.heap.size + 1, 3, none⟩ = some (.slice C4d k4d f4d) ∧ V.cell? ⟨w.heap.size + 1, 4, none⟩ = some (.slice C4e k4e f4e) ∧ V.cell? ⟨gx4, 0, none⟩ = some (.slice Dx40 k4a gx40) ∧ V.cell? ⟨gx4, 1, none⟩ = some (.slice Dx41 k4b gx41) ∧ V.cell? ⟨gx4, 2, none⟩ = some (.slice Dx42 k4c gx42) ∧ V.cell? ⟨gx4, 3, none⟩ = some (.slice Dx43 k4d gx43) ∧ V.cell? ⟨gx4, 4, none⟩ = some (.slice Dx44 k4e gx44) := fun V hV => by
    have a0 := (B0.ext hV).cells
    have a4 := (B4.ext hV).cells
    have ax4x := (Bx4x.ext hV).cells
    exact ⟨a0 0, a0 1, a0 2, a4 0, a4 1, a4 2, a4 3, a4 4, ax4x 0, ax4x 1, ax4x 2, ax4x 3, ax4x 4⟩
  go_cut [85] from 81 to 85 (fun c0 wx => c0 = .bool false ∧ Ext w11 wx)
  case first =>
    refine wp_region_held_drew (S := fun V => V.cell? ⟨w.heap.size, 0, none⟩ = some (.int .i64 x0_0) ∧ V.cell? ⟨w.heap.size, 1, none⟩ = some (.int .i64 x0_1) ∧ V.cell? ⟨w.heap.size, 2, none⟩ = some (.int .i64 x0_2) ∧ V.cell? ⟨w.heap.size + 1, 0, none⟩ = some (.slice C4a k4a f4a) ∧ V.cell? ⟨w.heap.size + 1, 1, none⟩ = some (.slice C4b k4b f4b) ∧ V.cell? ⟨w.heap.size + 1, 2, none⟩ = some (.slice C4c k4c f4c) ∧ V.cell? ⟨w.heap.size + 1, 3, none⟩ = some (.slice C4d k4d f4d) ∧ V.cell? ⟨w.heap.size + 1, 4, none⟩ = some (.slice C4e k4e f4e) ∧ V.cell? ⟨gx4, 0, none⟩ = some (.slice Dx40 k4a gx40) ∧ V.cell? ⟨gx4, 1, none⟩ = some (.slice Dx41 k4b gx41) ∧ V.cell? ⟨gx4, 2, none⟩ = some (.slice Dx42 k4c gx42) ∧ V.cell? ⟨gx4, 3, none⟩ = some (.slice Dx43 k4d gx43) ∧ V.cell? ⟨gx4, 4, none⟩ = some (.slice Dx44 k4e gx44)) (by kernel_rfl) ?_ (fun hHeld => ?_)
    · exact hS _ (by repeat (first | with_reducible assumption | with_reducible exact Ext.refl _ | with_reducible apply Ext.alloc | with_reducible apply Ext.drew | with_reducible apply Ext.drewN))
    refine' wpAnyH_take (i := 0) (v := _) ?hi0 (by kernel_rfl) (by kernel_rfl) (by kernel_rfl) ?hQ0 ?hy0 (by assumption) ?_
    case hi0 => (simp only [List.getElem?_toArray, List.getElem?_cons_zero]; rfl)
    case hy0 => refine Or.inl ⟨by rfl, ?_⟩; intro w hSw; (try dsimp only at hSw); go_simp <;> with_reducible rfl
    case hQ0 => exact fun _ _ _ h => h
    try simp only [Act.put, List.setIfInBounds_toArray, List.set_cons_zero, List.set_cons_succ]
    refine' wpAnyH_take (i := 1) (v := _) ?hi1 (by kernel_rfl) (by kernel_rfl) (by kernel_rfl) ?hQ1 ?hy1 (by assumption) ?_
    case hi1 => (simp only [List.getElem?_toArray, List.getElem?_cons_succ, List.getElem?_cons_zero]; rfl)
    case hy1 => refine Or.inl ⟨by rfl, ?_⟩; intro w hSw; (try dsimp only at hSw); go_simp <;> with_reducible rfl
    case hQ1 => exact fun _ _ _ h => h
    try simp only [Act.put, List.setIfInBounds_toArray, List.set_cons_zero, List.set_cons_succ]
    refine wpAnyH_ready (rs := [2]) (by kernel_rfl) (by simp) ?_
    refine AllReadyH.cons rfl (fun KK hKK => ?_) ?_
    · go_simp
      go_at_call 23
      refine (toMatrixProof_any C4a k4a f4a C4b k4b f4b C4c k4c f4c C4d k4d f4d C4e k4e f4e l4a l4b l4c l4d l4e _ (SlI.ext s4a (E.trans (by repeat (first | with_reducible assumption | with_reducible exact Ext.refl _ | with_reducible apply Ext.alloc | with_reducible apply Ext.drew | with_reducible apply Ext.drewN)))) (SlI.ext s4b (E.trans (by repeat (first | with_reducible assumption | with_reducible exact Ext.refl _ | with_reducible apply Ext.alloc | with_reducible apply Ext.drew | with_reducible apply Ext.drewN)))) (SlI.ext s4c (E.trans (by repeat (first | with_reducible assumption | with_reducible exact Ext.refl _ | with_reducible apply Ext.alloc | with_reducible apply Ext.drew | with_reducible apply Ext.drewN)))) (SlI.ext s4d (E.trans (by repeat (first | with_reducible assumption | with_reducible exact Ext.refl _ | with_reducible apply Ext.alloc | with_reducible apply Ext.drew | with_reducible apply Ext.drewN)))) (SlI.ext s4e (E.trans (by repeat (first | with_reducible assumption | with_reducible exact Ext.refl _ | with_reducible apply Ext.alloc | with_reducible apply Ext.drew | with_reducible apply Ext.drewN)))) (by omega)).mono ?_
      rintro en wk2 ⟨Dt60, gt60, Dt61, gt61, Dt62, gt62, Dt63, gt63, Dt64, gt64, rfl, t6, hbk2⟩
      have hxk2 := Ext.trans (w := w11) (by repeat (first | with_reducible assumption | with_reducible exact Ext.refl _ | with_reducible apply Ext.alloc | with_reducible apply Ext.drew | with_reducible apply Ext.drewN)) hbk2
      refine hKK.out _ _ ?_ (fun hHeld => ?_)
      · exact hS _ (by repeat (first | with_reducible assumption | with_reducible exact Ext.refl _ | with_reducible apply Ext.alloc | with_reducible apply Ext.drew | with_reducible apply Ext.drewN))
      clear hKK KK
      try simp only [Act.put, List.setIfInBounds_toArray, List.set_cons_zero, List.set_cons_succ]
      refine wpAnyH_ready (rs := [3]) (by kernel_rfl) (by simp) ?_
      refine AllReadyH.cons rfl (fun KK hKK => ?_) ?_
      · go_simp
        go_at_call 26
        refine (eqMatrixProof_same (SlI.ext (RowsRd.five x4.rd).1 (by repeat (first | with_reducible assumption | with_reducible exact Ext.refl _ | with_reducible apply Ext.alloc | with_reducible apply Ext.drew | with_reducible apply Ext.drewN))) (SlI.ext (RowsRd.five x4.rd).2.1 (by repeat (first | with_reducible assumption | with_reducible exact Ext.refl _ | with_reducible apply Ext.alloc | with_reducible apply Ext.drew | with_reducible apply Ext.drewN))) (SlI.ext (RowsRd.five x4.rd).2.2.1 (by repeat (first | with_reducible assumption | with_reducible exact Ext.refl _ | with_reducible apply Ext.alloc | with_reducible apply Ext.drew | with_reducible apply Ext.drewN))) (SlI.ext (RowsRd.five x4.rd).2.2.2.1 (by repeat (first | with_reducible assumption | with_reducible exact Ext.refl _ | with_reducible apply Ext.alloc | with_reducible apply Ext.drew | with_reducible apply Ext.drewN))) (SlI.ext (RowsRd.five x4.rd).2.2.2.2 (by repeat (first | with_reducible assumption | with_reducible exact Ext.refl _ | with_reducible apply Ext.alloc | with_reducible apply Ext.drew | with_reducible apply Ext.drewN))) (SlI.ext (RowsRd.five t6.rd).1 (by repeat (first | with_reducible assumption | with_reducible exact Ext.refl _ | with_reducible apply Ext.alloc | with_reducible apply Ext.drew | with_reducible apply Ext.drewN))) (SlI.ext (RowsRd.five t6.rd).2.1 (by repeat (first | with_reducible assumption | with_reducible exact Ext.refl _ | with_reducible apply Ext.alloc | with_reducible apply Ext.drew | with_reducible apply Ext.drewN))) (SlI.ext (RowsRd.five t6.rd).2.2.1 (by repeat (first | with_reducible assumption | with_reducible exact Ext.refl _ | with_reducible apply Ext.alloc | with_reducible apply Ext.drew | with_reducible apply Ext.drewN))) (SlI.ext (RowsRd.five t6.rd).2.2.2.1 (by repeat (first | with_reducible assumption | with_reducible exact Ext.refl _ | with_reducible apply Ext.alloc | with_reducible apply Ext.drew | with_reducible apply Ext.drewN))) (SlI.ext (RowsRd.five t6.rd).2.2.2.2 (by repeat (first | with_reducible assumption | with_reducible exact Ext.refl _ | with_reducible apply Ext.alloc | with_reducible apply Ext.drew | with_reducible apply Ext.drewN)))).mono ?_
        rintro en wk3 ⟨rfl, hbk3⟩
        have hxk3 := Ext.trans (w := w11) (by repeat (first | with_reducible assumption | with_reducible exact Ext.refl _ | with_reducible apply Ext.alloc | with_reducible apply Ext.drew | with_reducible apply Ext.drewN)) hbk3
        replace t6 := t6.ext (Ext.trans (by repeat (first | with_reducible assumption | with_reducible exact Ext.refl _ | with_reducible apply Ext.alloc | with_reducible apply Ext.drew | with_reducible apply Ext.drewN)) hbk3)
        refine hKK.out _ _ ?_ (fun hHeld => ?_)
        · exact hS _ (by repeat (first | with_reducible assumption | with_reducible exact Ext.refl _ | with_reducible apply Ext.alloc | with_reducible apply Ext.drew | with_reducible apply Ext.drewN))
        clear hKK KK
        try simp only [Act.put, List.setIfInBounds_toArray, List.set_cons_zero, List.set_cons_succ]
        refine' wpAnyH_take (i := 4) (v := _) ?hi4 (by kernel_rfl) (by kernel_rfl) (by kernel_rfl) ?hQ4 ?hy4 (by assumption) ?_
        case hi4 => (simp only [List.getElem?_toArray, List.getElem?_cons_succ, List.getElem?_cons_zero]; rfl)
        case hy4 => refine Or.inl ⟨by rfl, ?_⟩; intro w hSw; (try dsimp only at hSw); go_simp <;> with_reducible rfl
        case hQ4 => exact fun _ _ _ h => h
        try simp only [Act.put, List.setIfInBounds_toArray, List.set_cons_zero, List.set_cons_succ]
        refine wpAnyH_done (by kernel_rfl) ?_ _
        go_wp2
        go_meet
        exact ⟨rfl, hxk3⟩
      exact AllReadyH.nil
    exact AllReadyH.nil
  case' rest =>
  obtain ⟨rfl, hb⟩ := hcut
  replace E := E.trans hb
  replace B0 := B0.ext hb
  replace B4 := B4.ext hb
  replace Bx4x := Bx4x.ext hb
  replace x2 := x2.ext hb
  replace x3 := x3.ext hb
  replace x4 := x4.ext hb
  clear hb hS
  generalize wc = w12 at *
  go_wp2
  go_ret
  exact ⟨rfl, E⟩
end lawVerifyMatrix

set_option maxRecDepth 100000 in
theorem lawVerifyMatrix.lifted (os : Os) (started : os.Started) (H : Type) (enc : TypeId × Value → H) :
    ReturnsInHanded {} Try.checked os 4 .any (Rows.fnExactVerifyMatrixSpec.pre6 enc Try.prog Try.f4 Rows.fnExactVerifyMatrixRow.domain false) (Rows.fnExactVerifyMatrixSpec.post enc Try.prog Try.f4 false true false false) := by
  refine returnsInHanded_of_change (C := Try.checked) Facts.own started (by kernel_rfl) Try.func4
    (ChangeSpec.witness6 (enc := enc) (C := Try.checked) false ⟨#[], #[.agg #[.int .i64 0, .int .i64 0, .int .i64 0], .int .i64 0, .slice none 0 0, .slice none 0 0, .agg #[.slice none 0 0, .slice none 0 0, .slice none 0 0, .slice none 0 0, .slice none 0 0]], []⟩ 8 (by kernel_rfl) (by kernel_rfl) (by kernel_rfl) (by kernel_rfl)) ?_
  intro W base args ds gs before hval0 hW _ _
  have hval : ∀ (j : Nat) t v, Try.f4.params[j]? = some t → args[j]? = some v → Value.okWide Try.prog W .any base t v := hval0
  have hW' := hW
  obtain ⟨p, q, hA0, hV, rfl, hfz, hnd⟩ := hW
  have hA : DataW.TrodAll enc Try.prog W 0 (fun _ => true) true Try.f4.params.toList args.toList ds p := hA0
  rw [Try.params4] at hA hval
  obtain ⟨v0, vs0, d0, ds0, p0, q0, hargs, rfl, rfl, h0, r0⟩ := trodAll_cons hA
  obtain ⟨v1, vs1, d1, ds1, p1, q1, rfl, rfl, rfl, h1, r1⟩ := trodAll_cons r0
  obtain ⟨v2, vs2, d2, ds2, p2, q2, rfl, rfl, rfl, h2, r2⟩ := trodAll_cons r1
  obtain ⟨v3, vs3, d3, ds3, p3, q3, rfl, rfl, rfl, h3, r3⟩ := trodAll_cons r2
  obtain ⟨v4, vs4, d4, ds4, p4, q4, rfl, rfl, rfl, h4, r4⟩ := trodAll_cons r3
  obtain ⟨rfl, rfl, rfl⟩ := trodAll_nil r4
  obtain rfl : args = #[v0, v1, v2, v3, v4] := by cases args; simp_all
  obtain ⟨rfl, rfl⟩ := trodVars_none hV
  have hlt := hW'.lt
  clear hA hA0 hval0 hargs r0 r1 r2 r3 r4
  have k0 := h0
  have k1 := h1
  have k2 := h2
  have k3 := h3
  have k4 := h4
  obtain ⟨x0_0, x0_1, x0_2, rfl, f0_0, f0_1, f0_2⟩ := openAgg3 Try.underlying23 (by kernel_rfl) (by kernel_rfl) rfl (hval 0 23 v0 rfl rfl) h0
  obtain ⟨a1, rfl, f1⟩ := openI Try.underlying3 (hval 1 3 v1 rfl rfl) h1
  obtain ⟨A2, l2, c2, rfl, r2, b2, m2, z2, f2⟩ := openGS2 Try.underlying43 Try.underlying93 (by kernel_rfl) (by kernel_rfl) rfl (hval 2 43 v2 rfl rfl) h2
  obtain ⟨A3, l3, c3, rfl, r3, b3, m3, z3, f3⟩ := openGS2 Try.underlying43 Try.underlying93 (by kernel_rfl) (by kernel_rfl) rfl (hval 3 43 v3 rfl rfl) h3
  obtain ⟨C4a, l4a, f4a, C4b, l4b, f4b, C4c, l4c, f4c, C4d, l4d, f4d, C4e, l4e, f4e, rfl, s4a, s4b, s4c, s4d, s4e⟩ := openMP (ta := 24) (tb := 24) (tq := 45) Try.underlying47 (by kernel_rfl) (by kernel_rfl) (by kernel_rfl) (by kernel_rfl) Try.underlying45 (by kernel_rfl) rfl (by kernel_rfl) (by kernel_rfl) (by kernel_rfl) (hval 4 47 v4 rfl rfl) h4
  refine (lawVerifyMatrix.walk x0_0 x0_1 x0_2 a1 A2 l2 c2 A3 l3 c3 C4a l4a f4a C4b l4b f4b C4c l4c f4c C4d l4d f4d C4e l4e f4e W f0_0 f0_1 f0_2 f1 r2 b2 m2 z2 f2 r3 b3 m3 z3 f3 s4a s4b s4c s4d s4e).mono fun e W' ⟨he, hg⟩ => ?_
  subst he
  exact ⟨_, rfl, post_below (pv := []) hW' (fun _ _ _ => (trodAll_cons_mk (shut_bool Try.underlying4 _) trodAll_mk0)) (fun sp hsp => (trodAll_cons_mk (WideElems.Trod_stays Facts.laidOut (by kernel_rfl) (of_decide_eq_true (by kernel_rfl)) k0 (fun x hx => hg.same (hlt x (by simp [hx]))) (fun x hx => hsp x (by simp [hx]))) (trodAll_cons_mk (WideElems.Trod_stays Facts.laidOut (by kernel_rfl) (of_decide_eq_true (by kernel_rfl)) k1 (fun x hx => hg.same (hlt x (by simp [hx]))) (fun x hx => hsp x (by simp [hx]))) (trodAll_cons_mk (WideElems.Trod_stays Facts.laidOut (by kernel_rfl) (of_decide_eq_true (by kernel_rfl)) k2 (fun x hx => hg.same (hlt x (by simp [hx]))) (fun x hx => hsp x (by simp [hx]))) (trodAll_cons_mk (WideElems.Trod_stays Facts.laidOut (by kernel_rfl) (of_decide_eq_true (by kernel_rfl)) k3 (fun x hx => hg.same (hlt x (by simp [hx]))) (fun x hx => hsp x (by simp [hx]))) (trodAll_cons_mk (WideElems.Trod_stays Facts.laidOut (by kernel_rfl) (of_decide_eq_true (by kernel_rfl)) k4 (fun x hx => hg.same (hlt x (by simp [hx]))) (fun x hx => hsp x (by simp [hx]))) trodAll_mk0)))))) (fun _ _ => rfl) rfl
    hg (ok_one (by kernel_rfl) rfl (okWide_bool_mk Try.underlying4 _))⟩

theorem lawVerifyMatrix.named : Try.pinned.checked.prog.funcNamed Rows.fnExactVerifyMatrixRow.func = some 4 := by kernel_rfl
theorem lawVerifyMatrix.z9 : (Rows.fnExactVerifyMatrixRow.inPlace == Try.prog.inPlace 4) = true := by kernel_rfl
theorem lawVerifyMatrix.z10 : (Rows.fnExactVerifyMatrixRow.unfollowed == Try.prog.unfollowed 4) = true := by kernel_rfl
theorem lawVerifyMatrix.z11 : (Rows.fnExactVerifyMatrixRow.recurses == Try.prog.recurses 4) = true := by kernel_rfl
theorem lawVerifyMatrix.z12 : (Rows.fnExactVerifyMatrixRow.named == Try.prog.varsNamed 4) = true := by kernel_rfl
theorem lawVerifyMatrix.closed : joinedFacts Try.prog 4 Try.f4 Rows.fnExactVerifyMatrixSpec Rows.fnExactVerifyMatrixRow = true :=
  joined_of (by kernel_rfl) Facts.laidOut Facts.mapsRowed (by kernel_rfl) (by kernel_rfl) (by kernel_rfl) (by kernel_rfl) (by kernel_rfl) (by kernel_rfl) lawVerifyMatrix.z9 lawVerifyMatrix.z10 lawVerifyMatrix.z11 lawVerifyMatrix.z12 (by kernel_rfl) (by kernel_rfl) (by kernel_rfl) (by kernel_rfl) (by kernel_rfl) (by kernel_rfl) (by kernel_rfl) (by kernel_rfl) (by kernel_rfl) (by rw [Facts.plainKeys]; rfl) (by kernel_rfl) Facts.heard Facts.enter (by rw [Facts.lifts]; rfl) (by rw [Facts.make]; rfl) (by kernel_rfl) (by kernel_rfl) (by kernel_rfl) (by kernel_rfl)
theorem lawVerifyMatrix.inst : Try.f4.isInstance Try.pinned.checked.prog Rows.fnExactVerifyMatrixRow.origin Rows.fnExactVerifyMatrixRow.targs := of_decide_eq_true (by kernel_rfl)
theorem lawVerifyMatrix.wrap : Try.f4.isWrapper Try.pinned.checked.prog Rows.fnExactVerifyMatrixRow.wrapper Rows.fnExactVerifyMatrixRow.mainSum := by
  unfold Func.isWrapper; first | (rw [if_pos (by decide +kernel)]; kernel_rfl) | (rw [if_neg (by decide +kernel)]; exact ⟨rfl, rfl⟩)
theorem lawVerifyMatrix.over : Rows.fnExactVerifyMatrixRow.holds Try.pinned (OpenSpec.ofChange Rows.fnExactVerifyMatrixSpec) :=
  OpenClaim.holds_of_wide 4 Try.f4 rfl rfl rfl rfl rfl rfl rfl ⟨rfl, rfl, rfl, rfl, rfl⟩ rfl rfl rfl rfl rfl lawVerifyMatrix.named Try.func4 lawVerifyMatrix.closed
    lawVerifyMatrix.inst lawVerifyMatrix.wrap (fun os started H enc _ => lawVerifyMatrix.lifted os started H enc)

theorem lawVerifyMatrix.proved : Rows.FnExactVerifyMatrixSaid := lawVerifyMatrix.over
#print axioms lawVerifyMatrix.proved
end Go.Proofs.Ytnhdohjlbchniaa

/- Contracts for powers and products of ciphertexts, lists of valid ones, the numbers of a contest's ballots. (Printed by tools/gen_mxc.py.) -/
import Derived.Test.YtpfccboighdcbaaGreatProg
import Derived.Test.YtpfccboighdcbaaGreatEncG
import Derived.Test.YtpfccboighdcbaaGreatMixP
import Derived.Test.YtpfccboighdcbaaGreatSea
import Derived.Test.YtpfccboighdcbaaGreatHeldL
namespace Go.Proofs.YtpfccboighdcbaaGreat
open Go.RowKit
set_option linter.unusedVariables false
set_option linter.unusedSimpArgs false

theorem width_any (a b c d f : Int) (w : World) : Calls Tryz.prog 40 #[.agg #[.int .i64 a, .int .i64 b, .int .i64 c, .int .i64 d, .int .i64 f]] w fun e w' => e = .returned (.int .i64 (if a = 1 ∨ a = 2 then b else 1)) ∧ Ext w w' := by
  have hE := (Ext.refl w).alloc (.cells #[.int .i64 a, .int .i64 b, .int .i64 c, .int .i64 d, .int .i64 f] 38)
  have B := Blk.new w 38 #[.int .i64 a, .int .i64 b, .int .i64 c, .int .i64 d, .int .i64 f]
  have C := B.cells
  by_cases h1 : a = 1 ∨ a = 2
  · go_enter Tryz.func40, Tryz.ntmps40
    go_wp2_with fail
    refine (isForm_any a b c d f _).mono ?_
    rw [decide_eq_true h1]
    rintro e w1 ⟨rfl, hb⟩
    have C1 := (B.ext hb).cells
    have H1 := Lib.hid h1
    clear h1
    go_wp2
    go_ret
    exact ⟨ret_int (by first | rfl | rw [if_pos H1.out]), hE.trans hb⟩
  · go_enter Tryz.func40, Tryz.ntmps40
    go_wp2_with fail
    refine (isForm_any a b c d f _).mono ?_
    rw [decide_eq_false h1]
    rintro e w1 ⟨rfl, hb⟩
    have H1 := Lib.hid h1
    clear h1
    go_wp2
    go_ret
    exact ⟨ret_int (by first | rfl | rw [if_neg H1.out]), hE.trans hb⟩
theorem bWidth_any (a b c d f : Int) (w : World) : Calls Tryz.prog 30 #[.agg #[.int .i64 a, .int .i64 b, .int .i64 c, .int .i64 d, .int .i64 f]] w fun e w' => e = .returned (.int .i64 (if a = 1 ∨ a = 2 then b else 1)) ∧ Ext w w' := by
  have hE := (Ext.refl w).alloc (.cells #[.int .i64 a, .int .i64 b, .int .i64 c, .int .i64 d, .int .i64 f] 38)
  have B := Blk.new w 38 #[.int .i64 a, .int .i64 b, .int .i64 c, .int .i64 d, .int .i64 f]
  have C := B.cells
  by_cases h1 : a = 1 ∨ a = 2
  · go_enter Tryz.func30, Tryz.ntmps30
    go_wp2_with fail
    refine (bRows_any a b c d f _).mono ?_
    rw [decide_eq_true h1]
    rintro e w1 ⟨rfl, hb⟩
    have C1 := (B.ext hb).cells
    have H1 := Lib.hid h1
    clear h1
    go_wp2
    go_ret
    exact ⟨ret_int (by first | rfl | rw [if_pos H1.out]), hE.trans hb⟩
  · go_enter Tryz.func30, Tryz.ntmps30
    go_wp2_with fail
    refine (bRows_any a b c d f _).mono ?_
    rw [decide_eq_false h1]
    rintro e w1 ⟨rfl, hb⟩
    have H1 := Lib.hid h1
    clear h1
    go_wp2
    go_ret
    exact ⟨ret_int (by first | rfl | rw [if_neg H1.out]), hE.trans hb⟩


theorem hasCiphers_ans (p q g : Int) (g0 : Nat) (l : List (Int × Int)) (w : World) (h : GrpB p q) (B0 : Blk w g0 36 #[.int .i64 p, .int .i64 q, .int .i64 g]) :
    AnsC 82 #[.pointer (some ⟨g0, 0, none⟩)] w l (fun c => !(ciB p q c)) := by
  refine ⟨fun args w => by kernel_rfl, fun x _ w' hE => ?_⟩
  obtain ⟨a, b⟩ := x
  have B1 := (B0.ext hE).alloc (.cells #[.int .i64 a, .int .i64 b] 70)
  have C1 := B1.cells
  obtain ⟨v, hv⟩ : ∃ v, (elB p q a && elB p q b) = v := ⟨_, rfl⟩
  have hv2 : ciB p q (a, b) = v := hv
  simp only [hv2]
  have HV := Lib.hid hv
  clear hv hv2
  go_enter Tryz.func82, Tryz.ntmps82
  go_wp2_with fail
  refine (hasCipher_any p q g a b _ h).mono ?_
  rintro en w2 ⟨he, hb⟩
  rw [HV.out] at he; subst he
  go_wp2
  go_ret
  exact ⟨rfl, ((Ext.refl w').alloc _).trans hb⟩
set_option maxHeartbeats 1000000 in
theorem hasCiphers_any (p q g : Int) (A : Option Addr) (n c : Nat) (l : List (Int × Int)) (w : World) (h : GrpB p q) (ha : RdC w A l) (hl : l.length = n) (hn : n ≤ maxLen) :
    Calls Tryz.prog 39 #[.agg #[.int .i64 p, .int .i64 q, .int .i64 g], .slice A n c] w fun e w' => e = .returned (.bool (decide (n ≤ 24) && l.all (ciB p q))) ∧ Ext w w' := by
  have E := (Ext.refl w).alloc (.cells #[.int .i64 p, .int .i64 q, .int .i64 g] 36)
  have B0 := Blk.new w 36 #[.int .i64 p, .int .i64 q, .int .i64 g]
  have hf := hasCiphers_ans p q g _ l _ h B0
  have hno : (!(l.any fun c => !(ciB p q c))) = l.all (ciB p q) := by
    rw [List.any_eq_not_all_not]; simp
  by_cases h24 : n ≤ 24
  · rw [decide_eq_true h24, Bool.true_and]
    have hz : (n : Int) ≤ 24 := by omega
    obtain ⟨v, hv⟩ : ∃ v, (l.any fun c => !(ciB p q c)) = v := ⟨_, rfl⟩
    have HV := Lib.hid hv
    rw [hv] at hno
    have HN := Lib.hid hno
    clear hv hno
    go_enter Tryz.func39, Tryz.ntmps39
    go_wp2_with fail
    refine (ContainsFuncCi_any A n c l _ _ _ _ (ha.ext E) hl hn hf).mono ?_
    rintro en w2 ⟨he, hb⟩
    rw [HV.out] at he; subst he
    go_wp2
    go_ret
    exact ⟨ret_bool HN.out, E.trans hb⟩
  · rw [decide_eq_false h24, Bool.false_and]
    have hz : ¬ (n : Int) ≤ 24 := by omega
    clear hno hf
    go_enter Tryz.func39, Tryz.ntmps39
    go_wp2
    go_ret
    exact ⟨rfl, E⟩
/-- The reference's product of ciphertexts. -/
def emStep (p : Int) (o c : Int × Int) : Int × Int := (gmul p [o.1, c.1], gmul p [o.2, c.2])
def emF (p : Int) (l : List (Int × Int)) : Int × Int := l.foldl (emStep p) (1, 1)
theorem emF_take {p : Int} {l : List (Int × Int)} {j : Nat} (hj : j < l.length) : emF p (l.take (j + 1)) = emStep p (emF p (l.take j)) l[j] := by
  unfold emF
  rw [List.take_succ_eq_append_getElem hj, List.foldl_append]; rfl
theorem emF_rg {p q : Int} (h : GrpB p q) : ∀ (l : List (Int × Int)), (∀ c ∈ l, 0 ≤ c.1 ∧ 0 ≤ c.2) → (0 ≤ (emF p l).1 ∧ (emF p l).1 ≤ 2000000000) ∧ 0 ≤ (emF p l).2 ∧ (emF p l).2 ≤ 2000000000 := by
  suffices H : ∀ (l : List (Int × Int)) (o : Int × Int), (∀ c ∈ l, 0 ≤ c.1 ∧ 0 ≤ c.2) → ((0 ≤ o.1 ∧ o.1 ≤ 2000000000) ∧ 0 ≤ o.2 ∧ o.2 ≤ 2000000000) → (0 ≤ (l.foldl (emStep p) o).1 ∧ (l.foldl (emStep p) o).1 ≤ 2000000000) ∧ 0 ≤ (l.foldl (emStep p) o).2 ∧ (l.foldl (emStep p) o).2 ≤ 2000000000 from
    fun l hl => H l (1, 1) hl ⟨by simp, by simp⟩
  intro l
  induction l with
  | nil => intro o _ ho; exact ho
  | cons c l ih =>
    intro o hl ho
    have hc := hl c (List.mem_cons_self ..)
    exact ih _ (fun d hd => hl d (List.mem_cons_of_mem _ hd)) ⟨gmul2_rg h ho.1.1 hc.1, gmul2_rg h ho.2.1 hc.2⟩
theorem rd_twoE {w V : World} {x y : Int} {k : Nat} (hk : k = w.heap.size) (hE : Ext (w.alloc (.cells #[.int .i64 x, .int .i64 y] 3)) V) : RdI V (some ⟨k, 0, none⟩) [x, y] := (rd_two hk).ext hE
set_option maxRecDepth 100000 in
set_option maxHeartbeats 8000000 in
theorem eMul_any (p q g : Int) (A : Option Addr) (n c : Nat) (l : List (Int × Int)) (w : World) (h : GrpB p q) (ha : RdC w A l) (hl : l.length = n) (hn : n ≤ 1000000) (hr : ∀ x ∈ l, (0 ≤ x.1 ∧ x.1 ≤ 3000000000) ∧ 0 ≤ x.2 ∧ x.2 ≤ 3000000000) :
    Calls Tryz.prog 167 #[.agg #[.int .i64 p, .int .i64 q, .int .i64 g], .slice A n c] w fun e w' => e = .returned (.agg #[.int .i64 (emF p l).1, .int .i64 (emF p l).2]) ∧ Ext w w' := by
  have hn9 : n ≤ 9223372036854775807 := by omega
  subst hl
  have E := ((((Ext.refl w).alloc (.cells #[.int .i64 p, .int .i64 q, .int .i64 g] 36)).alloc (.cells #[.int .i64 0, .int .i64 0] 70)).alloc (.cells #[.int .i64 1, .int .i64 1] 70))
  have B0 := (((Blk.new w 36 #[.int .i64 p, .int .i64 q, .int .i64 g]).alloc (.cells #[.int .i64 0, .int .i64 0] 70)).alloc (.cells #[.int .i64 1, .int .i64 1] 70))
  have B1 := ((Blk.new (w.alloc (.cells #[.int .i64 p, .int .i64 q, .int .i64 g] 36)) 70 #[.int .i64 0, .int .i64 0]).alloc (.cells #[.int .i64 1, .int .i64 1] 70))
  have B2 := (Blk.new ((w.alloc (.cells #[.int .i64 p, .int .i64 q, .int .i64 g] 36)).alloc (.cells #[.int .i64 0, .int .i64 0] 70)) 70 #[.int .i64 1, .int .i64 1])
  simp only [World.size_alloc] at B1 B2
  have HR := Lib.hid hr
  clear hr
  go_enter Tryz.func167, Tryz.ntmps167
  go_wp2
  go_loopw [11] (fun i wr => ∃ j : Nat, j ≤ l.length ∧ i = .int .i64 j ∧ Blk wr w.heap.size 36 #[.int .i64 p, .int .i64 q, .int .i64 g] ∧ Blk wr (w.heap.size + 1) 70 #[.int .i64 0, .int .i64 0] ∧ Blk wr (w.heap.size + 1 + 1) 70 #[.int .i64 (emF p (l.take j)).1, .int .i64 (emF p (l.take j)).2] ∧ Ext w wr) (fun i _ => l.length - (intOf i).toNat)
  case atStart => exact ⟨0, Nat.zero_le _, rfl, B0, B1, B2, E⟩
  case round =>
    clear B0 B1 B2 E
    obtain ⟨j, hj, rfl, B0, B1, B2, E⟩ := hrel
    by_cases hlt : j < l.length
    · obtain ⟨ad, rfl, hc, hd⟩ := (ha.ext E).at_ hlt
      have hx := HR.out _ (List.getElem_mem hlt)
      have ho := emF_rg h (l.take j) (fun c hc => by have := HR.out c (List.mem_of_mem_take hc); omega)
      have HS := Lib.hid (emF_take (p := p) hlt)
      generalize l[j] = x at *
      obtain ⟨x1, x2⟩ := x
      generalize emF p (l.take j) = o at *
      obtain ⟨o1, o2⟩ := o
      simp only at hc hd hx ho B2
      have hW := (Ext.refl wr).alloc (.cells #[.int .i64 x1, .int .i64 x2] 70)
      have B6 := Blk.new wr 70 #[.int .i64 x1, .int .i64 x2]
      have hS : ∀ V, Ext (wr.alloc (.cells #[.int .i64 x1, .int .i64 x2] 70)) V → V.cell? ⟨w.heap.size, 0, none⟩ = some (.int .i64 p) ∧ V.cell? ⟨w.heap.size, 1, none⟩ = some (.int .i64 q) ∧ V.cell? ⟨w.heap.size, 2, none⟩ = some (.int .i64 g) ∧ V.cell? ⟨w.heap.size + 1 + 1, 0, none⟩ = some (.int .i64 o1) ∧ V.cell? ⟨w.heap.size + 1 + 1, 1, none⟩ = some (.int .i64 o2) ∧ V.cell? ⟨wr.heap.size, 0, none⟩ = some (.int .i64 x1) ∧ V.cell? ⟨wr.heap.size, 1, none⟩ = some (.int .i64 x2) := fun V hV => by
        have a0 := (B0.ext (hW.trans hV)).cells
        have a2 := (B2.ext (hW.trans hV)).cells
        have a6 := (B6.ext hV).cells
        exact ⟨a0 0, a0 1, a0 2, a2 0, a2 1, a6 0, a6 1⟩
      have hF : ∀ V, Ext (wr.alloc (.cells #[.int .i64 x1, .int .i64 x2] 70)) V → V.frozen? ⟨w.heap.size + 1 + 1, 0, none⟩ = false ∧ V.frozen? ⟨w.heap.size + 1 + 1, 1, none⟩ = false := fun V hV => by
        have a2 := (B2.ext (hW.trans hV)).frozen
        exact ⟨a2 0, a2 1⟩
      have fin : ∀ V, Ext (wr.alloc (.cells #[.int .i64 x1, .int .i64 x2] 70)) V → Blk ((V.setCell ⟨w.heap.size + 1 + 1, 0, none⟩ (.int .i64 (gmul p [o1, x1]))).setCell ⟨w.heap.size + 1 + 1, 1, none⟩ (.int .i64 (gmul p [o2, x2]))) w.heap.size 36 #[.int .i64 p, .int .i64 q, .int .i64 g] ∧ Blk ((V.setCell ⟨w.heap.size + 1 + 1, 0, none⟩ (.int .i64 (gmul p [o1, x1]))).setCell ⟨w.heap.size + 1 + 1, 1, none⟩ (.int .i64 (gmul p [o2, x2]))) (w.heap.size + 1) 70 #[.int .i64 0, .int .i64 0] ∧ Blk ((V.setCell ⟨w.heap.size + 1 + 1, 0, none⟩ (.int .i64 (gmul p [o1, x1]))).setCell ⟨w.heap.size + 1 + 1, 1, none⟩ (.int .i64 (gmul p [o2, x2]))) (w.heap.size + 1 + 1) 70 #[.int .i64 (gmul p [o1, x1]), .int .i64 (gmul p [o2, x2])] ∧ Ext w ((V.setCell ⟨w.heap.size + 1 + 1, 0, none⟩ (.int .i64 (gmul p [o1, x1]))).setCell ⟨w.heap.size + 1 + 1, 1, none⟩ (.int .i64 (gmul p [o2, x2]))) := fun V hV => by
        have h9 := hW.trans hV
        exact ⟨((B0.ext h9).far (p := ⟨w.heap.size + 1 + 1, 0, none⟩) (by simp; omega) _).far (p := ⟨w.heap.size + 1 + 1, 1, none⟩) (by simp; omega) _, ((B1.ext h9).far (p := ⟨w.heap.size + 1 + 1, 0, none⟩) (by simp) _).far (p := ⟨w.heap.size + 1 + 1, 1, none⟩) (by simp) _, ((B2.ext h9).set_ 0 _).set_ 1 _, ((E.trans h9).setCell (p := ⟨w.heap.size + 1 + 1, 0, none⟩) (by simp; omega) _).setCell (p := ⟨w.heap.size + 1 + 1, 1, none⟩) (by simp; omega) _⟩
      have HSx := Lib.hid hS
      have HFx := Lib.hid hF
      have HFin := Lib.hid fin
      clear fin hF
      have C0 := B0.cells
      have C2 := B2.cells
      go_wp2
      refine wp_region_heldL (S := fun V => V.cell? ⟨w.heap.size, 0, none⟩ = some (.int .i64 p) ∧ V.cell? ⟨w.heap.size, 1, none⟩ = some (.int .i64 q) ∧ V.cell? ⟨w.heap.size, 2, none⟩ = some (.int .i64 g) ∧ V.cell? ⟨w.heap.size + 1 + 1, 0, none⟩ = some (.int .i64 o1) ∧ V.cell? ⟨w.heap.size + 1 + 1, 1, none⟩ = some (.int .i64 o2) ∧ V.cell? ⟨wr.heap.size, 0, none⟩ = some (.int .i64 x1) ∧ V.cell? ⟨wr.heap.size, 1, none⟩ = some (.int .i64 x2)) 15 (by kernel_rfl) ?_ (fun hHeld => ?_)
      · exact hS _ (by repeat (first | with_reducible assumption | with_reducible exact Ext.refl _ | with_reducible apply Ext.alloc | with_reducible apply Ext.drew | with_reducible apply Ext.drewN))
      refine' wpAnyL_take (i := 0) (v := _) ?hi0 (by kernel_rfl) (by kernel_rfl) (by kernel_rfl) [15] (by kernel_rfl) ?hQ0 ?hy0 (by assumption) ?_
      case hi0 => (simp only [List.getElem?_toArray, List.getElem?_cons_zero]; rfl)
      case hy0 => refine Or.inl ⟨by rfl, ?_⟩; intro w hSw; (try dsimp only at hSw); go_simp <;> with_reducible rfl
      case hQ0 => exact fun _ _ _ h => h
      try simp only [Act.put, List.setIfInBounds_toArray, List.set_cons_zero, List.set_cons_succ]
      refine' wpAnyL_take (i := 1) (v := _) ?hi1 (by kernel_rfl) (by kernel_rfl) (by kernel_rfl) [15] (by kernel_rfl) ?hQ1 ?hy1 (by assumption) ?_
      case hi1 => (simp only [List.getElem?_toArray, List.getElem?_cons_succ, List.getElem?_cons_zero]; rfl)
      case hy1 => refine Or.inl ⟨by rfl, ?_⟩; intro w hSw; (try dsimp only at hSw); go_simp <;> with_reducible rfl
      case hQ1 => exact fun _ _ _ h => h
      try simp only [Act.put, List.setIfInBounds_toArray, List.set_cons_zero, List.set_cons_succ]
      refine' wpAnyL_take (i := 2) (v := _) ?hi2 (by kernel_rfl) (by kernel_rfl) (by kernel_rfl) [15] (by kernel_rfl) ?hQ2 ?hy2 (by assumption) ?_
      case hi2 => (simp only [List.getElem?_toArray, List.getElem?_cons_succ, List.getElem?_cons_zero]; rfl)
      case hy2 => refine Or.inl ⟨by rfl, ?_⟩; intro w hSw; (try dsimp only at hSw); go_simp <;> with_reducible rfl
      case hQ2 => exact fun _ _ _ h => h
      try simp only [Act.put, List.setIfInBounds_toArray, List.set_cons_zero, List.set_cons_succ]
      refine' wpAnyL_take (i := 3) (v := _) ?hi3 (by kernel_rfl) (by kernel_rfl) (by kernel_rfl) [15] (by kernel_rfl) ?hQ3 ?hy3 (by assumption) ?_
      case hi3 => (simp only [List.getElem?_toArray, List.getElem?_cons_succ, List.getElem?_cons_zero]; rfl)
      case hy3 => refine Or.inl ⟨by rfl, ?_⟩; intro w hSw; (try dsimp only at hSw); go_simp <;> with_reducible rfl
      case hQ3 => exact fun _ _ _ h => h
      try simp only [Act.put, List.setIfInBounds_toArray, List.set_cons_zero, List.set_cons_succ]
      refine' wpAnyL_take (i := 4) (v := _) ?hi4 (by kernel_rfl) (by kernel_rfl) (by kernel_rfl) [15] (by kernel_rfl) ?hQ4 ?hy4 (by assumption) ?_
      case hi4 => (simp only [List.getElem?_toArray, List.getElem?_cons_succ, List.getElem?_cons_zero]; rfl)
      case hy4 => refine Or.inl ⟨by rfl, ?_⟩; intro w hSw; (try dsimp only at hSw); go_simp <;> with_reducible rfl
      case hQ4 => exact fun _ _ _ h => h
      try simp only [Act.put, List.setIfInBounds_toArray, List.set_cons_zero, List.set_cons_succ]
      refine' wpAnyL_take (i := 7) (v := _) ?hi7 (by kernel_rfl) (by kernel_rfl) (by kernel_rfl) [15] (by kernel_rfl) ?hQ7 ?hy7 (by assumption) ?_
      case hi7 => (simp only [List.getElem?_toArray, List.getElem?_cons_succ, List.getElem?_cons_zero]; rfl)
      case hy7 => refine Or.inl ⟨by rfl, ?_⟩; intro w hSw; (try dsimp only at hSw); go_simp <;> with_reducible rfl
      case hQ7 => exact fun _ _ _ h => h
      try simp only [Act.put, List.setIfInBounds_toArray, List.set_cons_zero, List.set_cons_succ]
      refine' wpAnyL_take (i := 8) (v := _) ?hi8 (by kernel_rfl) (by kernel_rfl) (by kernel_rfl) [15] (by kernel_rfl) ?hQ8 ?hy8 (by assumption) ?_
      case hi8 => (simp only [List.getElem?_toArray, List.getElem?_cons_succ, List.getElem?_cons_zero]; rfl)
      case hy8 => refine Or.inl ⟨by rfl, ?_⟩; intro w hSw; (try dsimp only at hSw); go_simp <;> with_reducible rfl
      case hQ8 => exact fun _ _ _ h => h
      try simp only [Act.put, List.setIfInBounds_toArray, List.set_cons_zero, List.set_cons_succ]
      refine' wpAnyL_take (i := 9) (v := _) ?hi9 (by kernel_rfl) (by kernel_rfl) (by kernel_rfl) [15] (by kernel_rfl) ?hQ9 ?hy9 (by assumption) ?_
      case hi9 => (simp only [List.getElem?_toArray, List.getElem?_cons_succ, List.getElem?_cons_zero]; rfl)
      case hy9 => refine Or.inl ⟨by rfl, ?_⟩; intro w hSw; (try dsimp only at hSw); go_simp <;> with_reducible rfl
      case hQ9 => exact fun _ _ _ h => h
      try simp only [Act.put, List.setIfInBounds_toArray, List.set_cons_zero, List.set_cons_succ]
      refine' wpAnyL_take (i := 10) (v := _) ?hi10 (by kernel_rfl) (by kernel_rfl) (by kernel_rfl) [15] (by kernel_rfl) ?hQ10 ?hy10 (by assumption) ?_
      case hi10 => (simp only [List.getElem?_toArray, List.getElem?_cons_succ, List.getElem?_cons_zero]; rfl)
      case hy10 => refine Or.inl ⟨by rfl, ?_⟩; intro w hSw; (try dsimp only at hSw); go_simp <;> with_reducible rfl
      case hQ10 => exact fun _ _ _ h => h
      try simp only [Act.put, List.setIfInBounds_toArray, List.set_cons_zero, List.set_cons_succ]
      refine' wpAnyL_take (i := 11) (v := _) ?hi11 (by kernel_rfl) (by kernel_rfl) (by kernel_rfl) [15] (by kernel_rfl) ?hQ11 ?hy11 (by assumption) ?_
      case hi11 => (simp only [List.getElem?_toArray, List.getElem?_cons_succ, List.getElem?_cons_zero]; rfl)
      case hy11 => refine Or.inl ⟨by rfl, ?_⟩; intro w hSw; (try dsimp only at hSw); go_simp <;> with_reducible rfl
      case hQ11 => exact fun _ _ _ h => h
      try simp only [Act.put, List.setIfInBounds_toArray, List.set_cons_zero, List.set_cons_succ]
      refine wpAnyL_ready (rs := [5, 12]) (by kernel_rfl) (by simp) ?_
      refine AllReadyL.cons rfl (by kernel_rfl) (fun KK hKK => ?_) ?_
      · go_simp
        refine hKK.out _ _ ?_ (fun hHeld => ?_)
        · exact hS _ (by repeat (first | with_reducible assumption | with_reducible exact Ext.refl _ | with_reducible apply Ext.alloc | with_reducible apply Ext.drew | with_reducible apply Ext.drewN))
        clear hKK KK
        try simp only [Act.put, List.setIfInBounds_toArray, List.set_cons_zero, List.set_cons_succ]
        refine wpAnyL_ready (rs := [6, 12]) (by kernel_rfl) (by simp) ?_
        refine AllReadyL.cons rfl (by kernel_rfl) (fun KK hKK => ?_) ?_
        · go_simp
          go_at_call 71
          refine (gMul_any p q g _ 2 2 [o1, x1] _ h (by exact rd_twoE (w := (wr.alloc (.cells #[.int .i64 x1, .int .i64 x2] 70))) (by first | (simp; done) | (simp; omega)) (by repeat (first | with_reducible assumption | with_reducible exact Ext.refl _ | with_reducible apply Ext.alloc | with_reducible apply Ext.drew | with_reducible apply Ext.drewN))) rfl (by decide) (two_rg (by omega) (by omega))).mono ?_
          rintro ek wk6 ⟨rfl, hbk6⟩
          have hxk6 := Ext.trans (w := (wr.alloc (.cells #[.int .i64 x1, .int .i64 x2] 70))) (by repeat (first | with_reducible assumption | with_reducible exact Ext.refl _ | with_reducible apply Ext.alloc | with_reducible apply Ext.drew | with_reducible apply Ext.drewN)) hbk6
          refine hKK.out _ _ ?_ (fun hHeld => ?_)
          · exact hS _ (by repeat (first | with_reducible assumption | with_reducible exact Ext.refl _ | with_reducible apply Ext.alloc | with_reducible apply Ext.drew | with_reducible apply Ext.drewN))
          clear hKK KK
          try simp only [Act.put, List.setIfInBounds_toArray, List.set_cons_zero, List.set_cons_succ]
          refine wpAnyL_ready (rs := [12]) (by kernel_rfl) (by simp) ?_
          refine AllReadyL.cons rfl (by kernel_rfl) (fun KK hKK => ?_) ?_
          · go_simp
            refine hKK.out _ _ ?_ (fun hHeld => ?_)
            · exact hS _ (by repeat (first | with_reducible assumption | with_reducible exact Ext.refl _ | with_reducible apply Ext.alloc | with_reducible apply Ext.drew | with_reducible apply Ext.drewN))
            clear hKK KK
            try simp only [Act.put, List.setIfInBounds_toArray, List.set_cons_zero, List.set_cons_succ]
            refine wpAnyL_ready (rs := [13]) (by kernel_rfl) (by simp) ?_
            refine AllReadyL.cons rfl (by kernel_rfl) (fun KK hKK => ?_) ?_
            · go_simp
              go_at_call 71
              refine (gMul_any p q g _ 2 2 [o2, x2] _ h (by exact rd_twoE (w := wk6) (by first | (simp; done) | (simp; omega)) (by repeat (first | with_reducible assumption | with_reducible exact Ext.refl _ | with_reducible apply Ext.alloc | with_reducible apply Ext.drew | with_reducible apply Ext.drewN))) rfl (by decide) (two_rg (by omega) (by omega))).mono ?_
              rintro ek wk13 ⟨rfl, hbk13⟩
              have hxk13 := Ext.trans (w := (wr.alloc (.cells #[.int .i64 x1, .int .i64 x2] 70))) (by repeat (first | with_reducible assumption | with_reducible exact Ext.refl _ | with_reducible apply Ext.alloc | with_reducible apply Ext.drew | with_reducible apply Ext.drewN)) hbk13
              refine hKK.out _ _ ?_ (fun hHeld => ?_)
              · exact hS _ (by repeat (first | with_reducible assumption | with_reducible exact Ext.refl _ | with_reducible apply Ext.alloc | with_reducible apply Ext.drew | with_reducible apply Ext.drewN))
              clear hKK KK
              try simp only [Act.put, List.setIfInBounds_toArray, List.set_cons_zero, List.set_cons_succ]
              refine' wpAnyL_take (i := 14) (v := _) ?hi14 (by kernel_rfl) (by kernel_rfl) (by kernel_rfl) [15] (by kernel_rfl) ?hQ14 ?hy14 (by assumption) ?_
              case hi14 => (simp only [List.getElem?_toArray, List.getElem?_cons_succ, List.getElem?_cons_zero]; rfl)
              case hy14 => refine Or.inl ⟨by rfl, ?_⟩; intro w hSw; (try dsimp only at hSw); go_simp <;> with_reducible rfl
              case hQ14 => exact fun _ _ _ h => h
              try simp only [Act.put, List.setIfInBounds_toArray, List.set_cons_zero, List.set_cons_succ]
              refine wpAnyL_ready (rs := [15]) (by kernel_rfl) (by simp) ?_
              refine AllReadyL.last rfl (by kernel_rfl) (fun KK hKK => ?_) ?_
              · obtain ⟨ff0, ff1⟩ := HFx.out _ hxk13
                obtain ⟨c0, c1, c2, c3, c4, c5, c6⟩ := hS _ hxk13
                go_simp
                refine hKK.out _ _ ?_
                clear hKK KK
                try simp only [Act.put, List.setIfInBounds_toArray, List.set_cons_zero, List.set_cons_succ]
                refine wpAny_done (by kernel_rfl) ?_ _
                go_wp2
                go_roundw
                case rel => exact ⟨j + 1, by omega, by go_num, by have h9 := HFin.out _ hxk13; rw [HS.out]; exact h9⟩
                case measure => simp [intOf]; omega
              exact AllReadyL.nil
            exact AllReadyL.nil
          exact AllReadyL.nil
        refine AllReadyL.cons rfl (by kernel_rfl) (fun KK hKK => ?_) ?_
        · go_simp
          refine hKK.out _ _ ?_ (fun hHeld => ?_)
          · exact hS _ (by repeat (first | with_reducible assumption | with_reducible exact Ext.refl _ | with_reducible apply Ext.alloc | with_reducible apply Ext.drew | with_reducible apply Ext.drewN))
          clear hKK KK
          try simp only [Act.put, List.setIfInBounds_toArray, List.set_cons_zero, List.set_cons_succ]
          refine wpAnyL_ready (rs := [6]) (by kernel_rfl) (by simp) ?_
          refine AllReadyL.cons rfl (by kernel_rfl) (fun KK hKK => ?_) ?_
          · go_simp
            go_at_call 71
            refine (gMul_any p q g _ 2 2 [o1, x1] _ h (by exact rd_twoE (w := (wr.alloc (.cells #[.int .i64 x1, .int .i64 x2] 70))) (by first | (simp; done) | (simp; omega)) (by repeat (first | with_reducible assumption | with_reducible exact Ext.refl _ | with_reducible apply Ext.alloc | with_reducible apply Ext.drew | with_reducible apply Ext.drewN))) rfl (by decide) (two_rg (by omega) (by omega))).mono ?_
            rintro ek wk6 ⟨rfl, hbk6⟩
            have hxk6 := Ext.trans (w := (wr.alloc (.cells #[.int .i64 x1, .int .i64 x2] 70))) (by repeat (first | with_reducible assumption | with_reducible exact Ext.refl _ | with_reducible apply Ext.alloc | with_reducible apply Ext.drew | with_reducible apply Ext.drewN)) hbk6
            refine hKK.out _ _ ?_ (fun hHeld => ?_)
            · exact hS _ (by repeat (first | with_reducible assumption | with_reducible exact Ext.refl _ | with_reducible apply Ext.alloc | with_reducible apply Ext.drew | with_reducible apply Ext.drewN))
            clear hKK KK
            try simp only [Act.put, List.setIfInBounds_toArray, List.set_cons_zero, List.set_cons_succ]
            refine wpAnyL_ready (rs := [13]) (by kernel_rfl) (by simp) ?_
            refine AllReadyL.cons rfl (by kernel_rfl) (fun KK hKK => ?_) ?_
            · go_simp
              go_at_call 71
              refine (gMul_any p q g _ 2 2 [o2, x2] _ h (by exact RdI.ext (rd_twoE (w := ((wr.alloc (.cells #[.int .i64 x1, .int .i64 x2] 70)).alloc (.cells #[.int .i64 o1, .int .i64 x1] 3))) (by first | (simp; done) | (simp; omega)) (by repeat (first | with_reducible assumption | with_reducible exact Ext.refl _ | with_reducible apply Ext.alloc | with_reducible apply Ext.drew | with_reducible apply Ext.drewN))) hbk6) rfl (by decide) (two_rg (by omega) (by omega))).mono ?_
              rintro ek wk13 ⟨rfl, hbk13⟩
              have hxk13 := Ext.trans (w := (wr.alloc (.cells #[.int .i64 x1, .int .i64 x2] 70))) (by repeat (first | with_reducible assumption | with_reducible exact Ext.refl _ | with_reducible apply Ext.alloc | with_reducible apply Ext.drew | with_reducible apply Ext.drewN)) hbk13
              refine hKK.out _ _ ?_ (fun hHeld => ?_)
              · exact hS _ (by repeat (first | with_reducible assumption | with_reducible exact Ext.refl _ | with_reducible apply Ext.alloc | with_reducible apply Ext.drew | with_reducible apply Ext.drewN))
              clear hKK KK
              try simp only [Act.put, List.setIfInBounds_toArray, List.set_cons_zero, List.set_cons_succ]
              refine' wpAnyL_take (i := 14) (v := _) ?hi14 (by kernel_rfl) (by kernel_rfl) (by kernel_rfl) [15] (by kernel_rfl) ?hQ14 ?hy14 (by assumption) ?_
              case hi14 => (simp only [List.getElem?_toArray, List.getElem?_cons_succ, List.getElem?_cons_zero]; rfl)
              case hy14 => refine Or.inl ⟨by rfl, ?_⟩; intro w hSw; (try dsimp only at hSw); go_simp <;> with_reducible rfl
              case hQ14 => exact fun _ _ _ h => h
              try simp only [Act.put, List.setIfInBounds_toArray, List.set_cons_zero, List.set_cons_succ]
              refine wpAnyL_ready (rs := [15]) (by kernel_rfl) (by simp) ?_
              refine AllReadyL.last rfl (by kernel_rfl) (fun KK hKK => ?_) ?_
              · obtain ⟨ff0, ff1⟩ := HFx.out _ hxk13
                obtain ⟨c0, c1, c2, c3, c4, c5, c6⟩ := hS _ hxk13
                go_simp
                refine hKK.out _ _ ?_
                clear hKK KK
                try simp only [Act.put, List.setIfInBounds_toArray, List.set_cons_zero, List.set_cons_succ]
                refine wpAny_done (by kernel_rfl) ?_ _
                go_wp2
                go_roundw
                case rel => exact ⟨j + 1, by omega, by go_num, by have h9 := HFin.out _ hxk13; rw [HS.out]; exact h9⟩
                case measure => simp [intOf]; omega
              exact AllReadyL.nil
            exact AllReadyL.nil
          exact AllReadyL.nil
        exact AllReadyL.nil
      refine AllReadyL.cons rfl (by kernel_rfl) (fun KK hKK => ?_) ?_
      · go_simp
        refine hKK.out _ _ ?_ (fun hHeld => ?_)
        · exact hS _ (by repeat (first | with_reducible assumption | with_reducible exact Ext.refl _ | with_reducible apply Ext.alloc | with_reducible apply Ext.drew | with_reducible apply Ext.drewN))
        clear hKK KK
        try simp only [Act.put, List.setIfInBounds_toArray, List.set_cons_zero, List.set_cons_succ]
        refine wpAnyL_ready (rs := [5]) (by kernel_rfl) (by simp) ?_
        refine AllReadyL.cons rfl (by kernel_rfl) (fun KK hKK => ?_) ?_
        · go_simp
          refine hKK.out _ _ ?_ (fun hHeld => ?_)
          · exact hS _ (by repeat (first | with_reducible assumption | with_reducible exact Ext.refl _ | with_reducible apply Ext.alloc | with_reducible apply Ext.drew | with_reducible apply Ext.drewN))
          clear hKK KK
          try simp only [Act.put, List.setIfInBounds_toArray, List.set_cons_zero, List.set_cons_succ]
          refine wpAnyL_ready (rs := [6]) (by kernel_rfl) (by simp) ?_
          refine AllReadyL.cons rfl (by kernel_rfl) (fun KK hKK => ?_) ?_
          · go_simp
            go_at_call 71
            refine (gMul_any p q g _ 2 2 [o1, x1] _ h (by exact rd_twoE (w := ((wr.alloc (.cells #[.int .i64 x1, .int .i64 x2] 70)).alloc (.cells #[.int .i64 o2, .int .i64 x2] 3))) (by first | (simp; done) | (simp; omega)) (by repeat (first | with_reducible assumption | with_reducible exact Ext.refl _ | with_reducible apply Ext.alloc | with_reducible apply Ext.drew | with_reducible apply Ext.drewN))) rfl (by decide) (two_rg (by omega) (by omega))).mono ?_
            rintro ek wk6 ⟨rfl, hbk6⟩
            have hxk6 := Ext.trans (w := (wr.alloc (.cells #[.int .i64 x1, .int .i64 x2] 70))) (by repeat (first | with_reducible assumption | with_reducible exact Ext.refl _ | with_reducible apply Ext.alloc | with_reducible apply Ext.drew | with_reducible apply Ext.drewN)) hbk6
            refine hKK.out _ _ ?_ (fun hHeld => ?_)
            · exact hS _ (by repeat (first | with_reducible assumption | with_reducible exact Ext.refl _ | with_reducible apply Ext.alloc | with_reducible apply Ext.drew | with_reducible apply Ext.drewN))
            clear hKK KK
            try simp only [Act.put, List.setIfInBounds_toArray, List.set_cons_zero, List.set_cons_succ]
            refine wpAnyL_ready (rs := [13]) (by kernel_rfl) (by simp) ?_
            refine AllReadyL.cons rfl (by kernel_rfl) (fun KK hKK => ?_) ?_
            · go_simp
              go_at_call 71
              refine (gMul_any p q g _ 2 2 [o2, x2] _ h (by exact RdI.ext (rd_twoE (w := (wr.alloc (.cells #[.int .i64 x1, .int .i64 x2] 70))) (by first | (simp; done) | (simp; omega)) (by repeat (first | with_reducible assumption | with_reducible exact Ext.refl _ | with_reducible apply Ext.alloc | with_reducible apply Ext.drew | with_reducible apply Ext.drewN))) hbk6) rfl (by decide) (two_rg (by omega) (by omega))).mono ?_
              rintro ek wk13 ⟨rfl, hbk13⟩
              have hxk13 := Ext.trans (w := (wr.alloc (.cells #[.int .i64 x1, .int .i64 x2] 70))) (by repeat (first | with_reducible assumption | with_reducible exact Ext.refl _ | with_reducible apply Ext.alloc | with_reducible apply Ext.drew | with_reducible apply Ext.drewN)) hbk13
              refine hKK.out _ _ ?_ (fun hHeld => ?_)
              · exact hS _ (by repeat (first | with_reducible assumption | with_reducible exact Ext.refl _ | with_reducible apply Ext.alloc | with_reducible apply Ext.drew | with_reducible apply Ext.drewN))
              clear hKK KK
              try simp only [Act.put, List.setIfInBounds_toArray, List.set_cons_zero, List.set_cons_succ]
              refine' wpAnyL_take (i := 14) (v := _) ?hi14 (by kernel_rfl) (by kernel_rfl) (by kernel_rfl) [15] (by kernel_rfl) ?hQ14 ?hy14 (by assumption) ?_
              case hi14 => (simp only [List.getElem?_toArray, List.getElem?_cons_succ, List.getElem?_cons_zero]; rfl)
              case hy14 => refine Or.inl ⟨by rfl, ?_⟩; intro w hSw; (try dsimp only at hSw); go_simp <;> with_reducible rfl
              case hQ14 => exact fun _ _ _ h => h
              try simp only [Act.put, List.setIfInBounds_toArray, List.set_cons_zero, List.set_cons_succ]
              refine wpAnyL_ready (rs := [15]) (by kernel_rfl) (by simp) ?_
              refine AllReadyL.last rfl (by kernel_rfl) (fun KK hKK => ?_) ?_
              · obtain ⟨ff0, ff1⟩ := HFx.out _ hxk13
                obtain ⟨c0, c1, c2, c3, c4, c5, c6⟩ := hS _ hxk13
                go_simp
                refine hKK.out _ _ ?_
                clear hKK KK
                try simp only [Act.put, List.setIfInBounds_toArray, List.set_cons_zero, List.set_cons_succ]
                refine wpAny_done (by kernel_rfl) ?_ _
                go_wp2
                go_roundw
                case rel => exact ⟨j + 1, by omega, by go_num, by have h9 := HFin.out _ hxk13; rw [HS.out]; exact h9⟩
                case measure => simp [intOf]; omega
              exact AllReadyL.nil
            exact AllReadyL.nil
          exact AllReadyL.nil
        exact AllReadyL.nil
      exact AllReadyL.nil
    · obtain rfl : j = l.length := by omega
      rw [List.take_length] at B2
      have CC := B2.cells
      have FF := B1.frozen
      have C1 := B1.cells
      go_wp2
      refine ret_ci (a := (emF p l).1) (b := (emF p l).2) ((B1.set_ 0 (.int .i64 (emF p l).1)).set_ 1 (.int .i64 (emF p l).2)) rfl rfl ?_
      exact ⟨rfl, E.then (below_two (g := w.heap.size + 1) _ _ _) (by omega)⟩
end Go.Proofs.YtpfccboighdcbaaGreat

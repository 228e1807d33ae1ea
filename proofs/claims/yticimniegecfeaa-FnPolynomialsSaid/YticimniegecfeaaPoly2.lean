/- Contracts for polynomials: the reference's sum. -/
import Derived.Test.YticimniegecfeaaProg
import Derived.Test.YticimniegecfeaaPoly
import Derived.Laws.CopyOwn
namespace Go.Proofs.Yticimniegecfeaa
open Go.RowKit

theorem ownI_cells {w : World} {base e g n : Nat} {l : List Int} (h : OwnI w base e (some ⟨g, 0, none⟩) n n l) : w.heap[g]? = some (.cells (ints l).toArray e (0, 0)) := by
  rcases h.2 with ⟨hv, _⟩ | ⟨g', cap, cur, hv, _, hg, _, _, h3, h4⟩
  · injection hv with hA; cases hA
  · simp only [Value.slice.injEq, Option.some.injEq, Addr.mk.injEq, and_true, true_and] at hv
    obtain ⟨rfl, rfl⟩ := hv
    have e1 : cur.toList = ints l := by rw [← h4, List.take_of_length_le (by rw [Array.length_toList]; omega)]
    rw [hg, ← e1, Array.toArray_toList]
theorem ownI_of_cells {w : World} {base e g n : Nat} {l : List Int} (h : w.heap[g]? = some (.cells (ints l).toArray e (0, 0))) (hb : base ≤ g) (hl : l.length = n) (hn : n ≤ maxLen) : OwnI w base e (some ⟨g, 0, none⟩) n n l := by
  have e1 : (ints l).length = n := by rw [ints_length, hl]
  exact ⟨by rw [e1, Nat.mul_one], .inr ⟨g, n, (ints l).toArray, rfl, hb, h, Nat.le_refl _, hn, by rw [List.size_toArray, e1, Nat.mul_one], by rw [List.take_of_length_le (by rw [Nat.mul_one, e1]; exact Nat.le_refl _)]⟩⟩
theorem rd_pos {w : World} {A : Option Addr} {l : List Int} (h : RdI w A l) (hp : 0 < (ints l).length) : ∃ ad, A = some ad ∧ ∀ j v, (ints l)[j]? = some v → w.cell? (ad.add j) = some v := by
  rcases h with h | ⟨ad, h1, h2⟩
  · rw [h] at hp; simp at hp
  · exact ⟨ad, h1, h2⟩
theorem splice_zeros (f : List Int) (L : Nat) : splice (ints (List.replicate L 0)) 0 (ints f) = ints (f ++ List.replicate (L - f.length) 0) := by
  simp [splice, ints]
theorem lMost_max (x y : Nat) (w : World) : Calls Try.prog 211 #[.int .i64 x, .int .i64 y] w fun e w' => e = .returned (.int .i64 ((max x y : Nat) : Int)) ∧ w = w' := by
  by_cases h : y < x
  · have e : max x y = x := by omega
    rw [e]
    have h' : (y : Int) < x := by omega
    go_enter Try.func211, Try.ntmps211
    go_wp2
    go_ret
    exact ⟨rfl, rfl⟩
  · have e : max x y = y := by omega
    rw [e]
    have h' : ¬ (y : Int) < x := by omega
    go_enter Try.func211, Try.ntmps211
    go_wp2
    go_ret
    exact ⟨rfl, rfl⟩
theorem good2 {q : Int} {f g : List Int} : goodB q [f, g] = (polyB q f && polyB q g) := by
  unfold goodB polyB
  simp only [List.all_cons, List.all_nil, Bool.and_true]
  cases fieldB q <;> simp

set_option maxRecDepth 100000 in
set_option maxHeartbeats 4000000 in
theorem yAdd_any (q : Int) (A B : Option Addr) (n c m d : Nat) (f g : List Int) (w : World) (rf : RdI w A f) (hl : f.length = n) (hn : n ≤ 24) (rg : RdI w B g) (hm : g.length = m) (hm2 : m ≤ 24) (hq : 2 ≤ q) (hq2 : q ≤ 2000000000) (hf : ∀ y ∈ f, 0 ≤ y ∧ y ≤ q - 1) (hg : ∀ y ∈ g, 0 ≤ y ∧ y ≤ q - 1) :
    Calls Try.prog 149 #[.int .i64 q, .slice A n c, .slice B m d] w fun e w' => ∃ A' n' c', e = .returned (.slice A' n' c') ∧ OwnI w' w.heap.size 3 A' n' c' (addS q f g) ∧ Ext w w' := by
  subst hl hm
  obtain ⟨L, hL⟩ : ∃ L, max f.length g.length = L := ⟨_, rfl⟩
  have hL1 : f.length ≤ L := by omega
  have hL2 : g.length ≤ L := by omega
  have hL3 : L ≤ 24 := by omega
  have hL4 : L - f.length = g.length - f.length := by omega
  have HL := Lib.hid hL
  have HL4 := Lib.hid hL4
  have HG := Lib.hid hg
  have hq0 : (q == 0) = false := by simp; omega
  have hsz : (Try.prog.info? 3).map (·.size) = some 1 := by kernel_rfl
  have e1 : Hid ((ints f).length = Nat.min f.length L) := Lib.hid (by rw [ints_length]; exact (Nat.min_eq_left hL1).symm)
  have e2 : Hid (0 + (ints f).length ≤ (ints (List.replicate L 0)).length) := Lib.hid (by rw [ints_length, ints_length, List.length_replicate]; omega)
  have HSZ := Lib.hid hsz
  have hob : Hid (∀ y ∈ f ++ List.replicate (g.length - f.length) 0, 0 ≤ y ∧ y ≤ q - 1) := Lib.hid (by
    intro y hy
    rw [List.mem_append] at hy
    rcases hy with h | h
    · exact hf y h
    · have := (List.mem_replicate.1 h).2; omega)
  clear hL hL4 hf hg hsz
  go_enter Try.func149, Try.ntmps149
  go_wp2_with fail
  refine (lMost_max f.length g.length _).mono ?_
  rintro e w1 ⟨rfl, rfl⟩
  rw [HL.out]
  go_wp2_with (first | (at_make; refine wpList_mkI intSl rfl _ _ rfl _ _ _ _ L rfl rfl rfl rfl (by omega) w.heap.size (Nat.le_refl _) ?_; intro w1 hO hE hz) | (refine wpList_copy_splice (o := ⟨some 18, _, _, _, _, _⟩) rfl (.tmp 16) (.tmp 17) 22 22 rfl 3 Try.underlying22 HSZ.out _ _ _ _ _ _ rfl rfl w.heap.size 0 (ints (List.replicate L 0)) 3 (ownI_cells hO) (ints f) e1.out (fun hp => ⟨rfl, rd_pos (rf.ext hE) hp⟩) e2.out (ints_oneCell f) w.heap.size w hE (Nat.le_refl _) ?_; intro w2 HG2 hB2))
  have hO2 : OwnI w2 w.heap.size 3 (some ⟨w.heap.size, 0, none⟩) L L (f ++ List.replicate (g.length - f.length) 0) :=
    ownI_of_cells (by have h := HG2.out; rw [splice_zeros, HL4.out] at h; exact h) (Nat.le_refl _) (by rw [List.length_append, List.length_replicate]; have := HL4.out; omega) (by unfold maxLen; omega)
  have hE2 : Ext w w2 := hB2
  clear hO hE hz HG2 hB2 e1 e2
  obtain ⟨O0, hO0⟩ : ∃ O0, f ++ List.replicate (g.length - f.length) 0 = O0 := ⟨_, rfl⟩
  have hlen : O0.length = L := by rw [← hO0, List.length_append, List.length_replicate]; have := HL4.out; omega
  have HO0 := Lib.hid hO0
  rw [hO0] at hO2 hob
  clear hO0
  go_loopw [21] (fun i wr => ∃ j : Nat, j ≤ g.length ∧ i = .int .i64 j ∧ OwnI wr w.heap.size 3 (some ⟨w.heap.size, 0, none⟩) L L (addIn q g O0 j) ∧ Ext w wr) (fun i _ => g.length - (intOf i).toNat)
  case atStart => exact ⟨0, Nat.zero_le _, rfl, hO2, hE2⟩
  case round =>
    clear hO2 hE2
    obtain ⟨j, hj, rfl, hO, hE⟩ := hrel
    by_cases hj2 : j < g.length
    · obtain ⟨ad, rfl, hca⟩ := (rg.ext hE).at_ hj2
      have hx := HG.out _ (List.getElem_mem hj2)
      have HX := Lib.hid (getD_get hj2)
      have hjl : j < (addIn q g O0 j).length := by rw [addIn_length]; omega
      have hy := addIn_bd (show 0 < q by omega) g hob.out j _ (List.getElem_mem hjl)
      have HY := Lib.hid (getD_get hjl)
      obtain ⟨hcj, hfj⟩ := hO.at0 j hjl
      generalize g[j] = x at *
      generalize (addIn q g O0 j)[j] = y at *
      have hO2 := hO.set (j := j) ((y + x) % q)
      rw [addIn_succ HY.out HX.out] at hO2
      clear hjl
      go_wp2
      go_roundw
      case rel => exact ⟨j + 1, by omega, by go_num, hO2, hE.setCell (p := ⟨w.heap.size, j, none⟩) (Nat.le_refl _) _⟩
      case measure => simp [intOf]; omega
    · obtain rfl : j = g.length := by omega
      go_wp2
      go_ret
      exact ⟨_, _, _, rfl, by rw [addS, HO0.out]; exact hO, hE⟩
set_option maxHeartbeats 2000000 in
theorem sAddPolys_any (q : Int) (A B : Option Addr) (n c m d : Nat) (f g : List Int) (w : World) (rf : RdI w A f) (hl : f.length = n) (hc : n ≤ c ∧ c ≤ maxLen) (rg : RdI w B g) (hm : g.length = m) (hd : m ≤ d ∧ d ≤ maxLen) :
    Calls Try.prog 54 #[.int .i64 q, .slice A n c, .slice B m d] w fun e w' => PolyPost w.heap.size (polyB q f && polyB q g) (addI q f g) w e w' := by
  subst hl hm
  have hE1 := (Ext.refl w).alloc (.cells #[.slice A f.length c, .slice B g.length d] 22)
  have hss : RdSS (w.alloc (.cells #[.slice A f.length c, .slice B g.length d] 22)) (some ⟨w.heap.size, 0, none⟩) [f, g] := by
    have hB := Blk.new w 22 #[.slice A f.length c, .slice B g.length d]
    refine .inr ⟨_, rfl, fun k hk => ?_⟩
    match k, hk with
    | 0, _ => exact ⟨A, f.length, c, by simp [Addr.add, hB.cells 0], rf.ext hE1, rfl, hc⟩
    | 1, _ => exact ⟨B, g.length, d, by simp [Addr.add, hB.cells 1], rg.ext hE1, rfl, hd⟩
  cases hG : polyB q f && polyB q g
  · have HG := Lib.hid hG
    clear hG
    go_enter Try.func54, Try.ntmps54
    go_wp2_with fail
    refine (yGood_any _ _ _ _ [f, g] _ hss rfl (by unfold maxLen; simp)).mono ?_
    rintro e w1 ⟨he, rfl⟩
    rw [good2, HG.out] at he; subst he
    go_wp2
    go_ret2
    exact PolyPost.no hE1
  have HG := Lib.hid hG
  rw [Bool.and_eq_true] at hG
  obtain ⟨g1, g2, g3⟩ := polyB_iff.1 hG.1
  obtain ⟨_, g4, g5⟩ := polyB_iff.1 hG.2
  have hq := fieldB_rng g1
  have H3 := Lib.hid g3
  have H5 := Lib.hid g5
  have hsame := Lib.hid (add_same (show 0 < q by omega) g3 g5)
  clear hG g1 g3 g5
  go_enter Try.func54, Try.ntmps54
  go_wp2_with fail
  refine (yGood_any _ _ _ _ [f, g] _ hss rfl (by unfold maxLen; simp)).mono ?_
  rintro e w1 ⟨he, rfl⟩
  rw [good2, HG.out] at he; subst he
  go_wp2_with fail
  refine (yAdd_any q A B _ c _ d f g _ (rf.ext hE1) rfl g2 (rg.ext hE1) rfl g4 hq.1 hq.2 H3.out H5.out).mono ?_
  rintro e w2 ⟨A', n', c', rfl, hO, hE2⟩
  rw [hsame.out] at hO
  go_wp2
  go_ret2
  exact ⟨_, _, _, _, rfl, hO.more hE1.size, rfl, hE1.trans hE2⟩
end Go.Proofs.Yticimniegecfeaa

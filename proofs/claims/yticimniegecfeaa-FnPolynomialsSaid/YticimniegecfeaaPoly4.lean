/- Contracts for polynomials: the exported products. -/
import Derived.Test.YticimniegecfeaaProg
import Derived.Test.YticimniegecfeaaPoly3
namespace Go.Proofs.Yticimniegecfeaa
open Go.RowKit

theorem mulV_length (q : Int) (f g : List Int) : (mulV q f g).length = if f.length = 0 ∨ g.length = 0 then 0 else f.length + g.length - 1 := by
  unfold mulV
  split
  · rfl
  · exact mulOut_length q f g _
noncomputable def mulG (q : Int) (f g : List Int) : Bool := (polyB q f && polyB q g) && decide ((mulV q f g).length ≤ 24)

set_option maxHeartbeats 2000000 in
theorem iMulPolys_any (q : Int) (A B : Option Addr) (n c m d : Nat) (f g : List Int) (w : World) (rf : RdI w A f) (hl : f.length = n) (hn : n ≤ 1000000) (rg : RdI w B g) (hm : g.length = m) (hm2 : m ≤ 1000000) :
    Calls Try.prog 50 #[.int .i64 q, .slice A n c, .slice B m d] w fun e w' => PolyPost w.heap.size (mulG q f g) (mulV q f g) w e w' := by
  subst hl hm
  obtain ⟨G, hG⟩ : ∃ G, mulG q f g = G := ⟨_, rfl⟩
  rw [hG]
  cases h1 : polyB q f
  · obtain rfl : G = false := by rw [← hG]; simp [mulG, h1]
    have H1 := Lib.hid h1
    clear h1 hG
    go_enter Try.func50, Try.ntmps50
    go_wp2_with fail
    refine (isPoly_any q A _ c f _ rf rfl (by omega)).mono ?_
    rintro e w1 ⟨rfl, hE⟩
    rw [H1.out]
    go_wp2
    go_ret2
    exact PolyPost.no hE
  cases h2 : polyB q g
  · obtain rfl : G = false := by rw [← hG]; simp [mulG, h2]
    have H1 := Lib.hid h1
    have H2 := Lib.hid h2
    clear h1 h2 hG
    go_enter Try.func50, Try.ntmps50
    go_wp2_with fail
    refine (isPoly_any q A _ c f _ rf rfl (by omega)).mono ?_
    rintro e w1 ⟨rfl, hE⟩
    rw [H1.out]
    go_wp2_with fail
    refine (isPoly_any q B _ d g _ (rg.ext hE) rfl (by omega)).mono ?_
    rintro e w2 ⟨rfl, hE2⟩
    rw [H2.out]
    go_wp2
    go_ret2
    exact PolyPost.no (hE.trans hE2)
  have hGe : G = decide ((mulV q f g).length ≤ 24) := by rw [← hG]; simp [mulG, h1, h2]
  have H1 := Lib.hid h1
  have H2 := Lib.hid h2
  obtain ⟨g1, g2, g3⟩ := polyB_iff.1 h1
  obtain ⟨_, g4, g5⟩ := polyB_iff.1 h2
  have hq := fieldB_rng g1
  have HF := Lib.hid g3
  have HG := Lib.hid g5
  have HGE := Lib.hid hGe
  clear h1 h2 g1 g3 g5 hG hGe
  go_enter Try.func50, Try.ntmps50
  go_wp2_with fail
  refine (isPoly_any q A _ c f _ rf rfl (by omega)).mono ?_
  rintro e w1 ⟨rfl, hE⟩
  rw [H1.out]
  go_wp2_with fail
  refine (isPoly_any q B _ d g _ (rg.ext hE) rfl (by omega)).mono ?_
  rintro e w2 ⟨rfl, hE2⟩
  rw [H2.out]
  replace hE := hE.trans hE2
  clear hE2
  have hz := hE.size
  go_wp2_with fail
  refine (mulPolys_any q A B _ c _ d f g _ (rf.ext hE) rfl g2 (rg.ext hE) rfl g4 hq.1 hq.2 HF.out HG.out).mono ?_
  rintro e w3 ⟨A', n', c', rfl, hO, hE3⟩
  have hlen := hO.len
  replace hO := hO.more hz
  replace hE := hE.trans hE3
  have hcap := hO.le
  unfold maxLen at hcap
  by_cases h24 : n' ≤ 24
  · obtain rfl : G = true := by rw [HGE.out]; exact decide_eq_true (by omega)
    have HLEN := Lib.hid hlen
    clear hlen
    go_wp2
    go_ret2
    exact ⟨_, _, _, _, rfl, hO, rfl, hE⟩
  · obtain rfl : G = false := by rw [HGE.out]; exact decide_eq_false (by omega)
    have HLEN := Lib.hid hlen
    clear hlen
    go_wp2
    go_ret2
    exact PolyPost.no hE
set_option maxHeartbeats 2000000 in
theorem sMulPolys_any (q : Int) (A B : Option Addr) (n c m d : Nat) (f g : List Int) (w : World) (rf : RdI w A f) (hl : f.length = n) (hc : n ≤ c ∧ c ≤ maxLen) (rg : RdI w B g) (hm : g.length = m) (hd : m ≤ d ∧ d ≤ maxLen) :
    Calls Try.prog 51 #[.int .i64 q, .slice A n c, .slice B m d] w fun e w' => PolyPost w.heap.size (mulG q f g) (mulV q f g) w e w' := by
  subst hl hm
  have hE1 := (Ext.refl w).alloc (.cells #[.slice A f.length c, .slice B g.length d] 22)
  have hss : RdSS (w.alloc (.cells #[.slice A f.length c, .slice B g.length d] 22)) (some ⟨w.heap.size, 0, none⟩) [f, g] := by
    have hB := Blk.new w 22 #[.slice A f.length c, .slice B g.length d]
    refine .inr ⟨_, rfl, fun k hk => ?_⟩
    match k, hk with
    | 0, _ => exact ⟨A, f.length, c, by simp [Addr.add, hB.cells 0], rf.ext hE1, rfl, hc⟩
    | 1, _ => exact ⟨B, g.length, d, by simp [Addr.add, hB.cells 1], rg.ext hE1, rfl, hd⟩
  obtain ⟨G, hG⟩ : ∃ G, mulG q f g = G := ⟨_, rfl⟩
  rw [hG]
  cases hP : polyB q f && polyB q g
  · obtain rfl : G = false := by rw [← hG, mulG, hP]; rfl
    have HP := Lib.hid hP
    clear hP hG
    go_enter Try.func51, Try.ntmps51
    go_wp2_with fail
    refine (yGood_any _ _ _ _ [f, g] _ hss rfl (by unfold maxLen; simp)).mono ?_
    rintro e w1 ⟨he, rfl⟩
    rw [good2, HP.out] at he; subst he
    go_wp2
    go_ret2
    exact PolyPost.no hE1
  have hGe : G = decide ((mulV q f g).length ≤ 24) := by rw [← hG, mulG, hP, Bool.true_and]
  have HP := Lib.hid hP
  rw [Bool.and_eq_true] at hP
  obtain ⟨g1, g2, g3⟩ := polyB_iff.1 hP.1
  obtain ⟨_, g4, g5⟩ := polyB_iff.1 hP.2
  have hq := fieldB_rng g1
  have H3 := Lib.hid g3
  have H5 := Lib.hid g5
  clear hP g1 g3 g5 hG
  rw [mulV_length] at hGe
  by_cases h24 : f.length + g.length - 1 ≤ 24
  · obtain rfl : G = true := by rw [hGe]; exact decide_eq_true (by split <;> omega)
    clear hGe
    go_enter Try.func51, Try.ntmps51
    go_wp2_with fail
    refine (yGood_any _ _ _ _ [f, g] _ hss rfl (by unfold maxLen; simp)).mono ?_
    rintro e w1 ⟨he, rfl⟩
    rw [good2, HP.out] at he; subst he
    go_wp2_with fail
    refine (yMul_any q A B _ c _ d f g _ (rf.ext hE1) rfl g2 (rg.ext hE1) rfl g4 hq.1 hq.2 H3.out H5.out).mono ?_
    rintro e w2 ⟨A', n', c', rfl, hO, hE2⟩
    go_wp2
    go_ret2
    exact ⟨_, _, _, _, rfl, hO.more hE1.size, rfl, hE1.trans hE2⟩
  · obtain rfl : G = false := by rw [hGe]; exact decide_eq_false (by rw [if_neg (by omega)]; omega)
    clear hGe
    go_enter Try.func51, Try.ntmps51
    go_wp2_with fail
    refine (yGood_any _ _ _ _ [f, g] _ hss rfl (by unfold maxLen; simp)).mono ?_
    rintro e w1 ⟨he, rfl⟩
    rw [good2, HP.out] at he; subst he
    go_wp2
    go_ret2
    exact PolyPost.no hE1
end Go.Proofs.Yticimniegecfeaa

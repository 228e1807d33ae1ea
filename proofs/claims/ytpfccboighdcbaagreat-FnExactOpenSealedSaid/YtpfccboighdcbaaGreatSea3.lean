/- Contract for the program's IsSealable, and the reference's wrapper (printed by tools/gen_sea2.py). -/
import Derived.Test.YtpfccboighdcbaaGreatProg
import Derived.Test.YtpfccboighdcbaaGreatSea2
namespace Go.Proofs.YtpfccboighdcbaaGreat
open Go.RowKit

set_option maxRecDepth 100000 in
set_option maxHeartbeats 4000000 in
theorem iSea_any (p q g a b c d f : Int) (w : World) : Calls Tryz.prog 37 #[.agg #[.int .i64 p, .int .i64 q, .int .i64 g], .agg #[.int .i64 a, .int .i64 b, .int .i64 c, .int .i64 d, .int .i64 f]] w fun e w' => e = .returned (.bool (seaB p q g a b c d f)) ∧ Ext w w' := by
  have hE0 : Ext w ((w.alloc (.cells #[.int .i64 p, .int .i64 q, .int .i64 g] 36)).alloc (.cells #[.int .i64 a, .int .i64 b, .int .i64 c, .int .i64 d, .int .i64 f] 38)) := ((Ext.refl w).alloc _).alloc _
  have Bg : Blk ((w.alloc (.cells #[.int .i64 p, .int .i64 q, .int .i64 g] 36)).alloc (.cells #[.int .i64 a, .int .i64 b, .int .i64 c, .int .i64 d, .int .i64 f] 38)) w.heap.size 36 #[.int .i64 p, .int .i64 q, .int .i64 g] := (Blk.new w _ _).alloc _
  have Bc := blk_second w (.cells #[.int .i64 p, .int .i64 q, .int .i64 g] 36) 38 #[.int .i64 a, .int .i64 b, .int .i64 c, .int .i64 d, .int .i64 f]
  have Cg := Bg.cells
  have Cc := Bc.cells
  go_enter Tryz.func37, Tryz.ntmps37
  go_wp2
  go_upto_region 1 with (fail)
  go_cut [24] from 5 to 25 (fun v wx => v = .bool (badB p q g a b c d f) ∧ Ext ((w.alloc (.cells #[.int .i64 p, .int .i64 q, .int .i64 g] 36)).alloc (.cells #[.int .i64 a, .int .i64 b, .int .i64 c, .int .i64 d, .int .i64 f] 38)).drew wx)
  case first =>
    cases hg : grpB p q g
    · have hbb : badB p q g a b c d f = true := badB1 hg
      have HBB := Lib.hid hbb
      clear hbb
      (first | go_region_with (first | (go_at_call 77; refine (IsValidGroup_any _ _ _ _).mono ?_; rintro e w1 ⟨he, hb1⟩; rw [hg] at he; subst he; have Cg10 := ((Bg.drew).ext hb1).cells; have Cc10 := ((Bc.drew).ext hb1).cells)) | fail)
      all_goals (go_wp2; go_meet; exact ⟨congrArg Value.bool (HBB.out.symm), hb1⟩)
    cases hv : validCt a b c d f
    · have hbb : badB p q g a b c d f = true := badB2 hv
      have HBB := Lib.hid hbb
      clear hbb
      (first | go_region_with (first | (go_at_call 77; refine (IsValidGroup_any _ _ _ _).mono ?_; rintro e w1 ⟨he, hb1⟩; rw [hg] at he; subst he; have Cg10 := ((Bg.drew).ext hb1).cells; have Cc10 := ((Bc.drew).ext hb1).cells) | (go_at_call 78; refine (IsValidContest_any _ _ _ _ _ _).mono ?_; rintro e w2 ⟨he, hb2⟩; rw [hv] at he; subst he; have Cg20 := (((Bg.drew).ext hb1).ext hb2).cells; have Cc20 := (((Bc.drew).ext hb1).ext hb2).cells)) | fail)
      all_goals (go_wp2; go_meet; exact ⟨congrArg Value.bool (HBB.out.symm), hb1.trans hb2⟩)
    obtain ⟨_, q2, _, q4, _, q6, _, q8, _⟩ := valid_kind hv
    have hb8 := badB3 (p := p) (q := q) (g := g) hg hv
    obtain ⟨b, rfl⟩ := Int.eq_ofNat_of_zero_le q2
    obtain ⟨f, rfl⟩ := Int.eq_ofNat_of_zero_le q4
    obtain ⟨c, rfl⟩ := Int.eq_ofNat_of_zero_le q6
    obtain ⟨d, rfl⟩ := Int.eq_ofNat_of_zero_le q8
    clear q2 q4 q6 q8
    have HV := Lib.hid hv
    obtain ⟨G, hgc⟩ : ∃ G, gCode a b d f = G := ⟨_, rfl⟩
    simp only [Int.toNat_natCast, hgc] at hb8
    have HGC := Lib.hid hgc
    have HB8 := Lib.hid hb8
    clear hgc hb8
    by_cases h1 : G ≤ 100000
    case neg =>
      have z1 : decide ((100000 : Int) < G) = true := by simp; omega
      (first | go_region_with (first | (go_at_call 77; refine (IsValidGroup_any _ _ _ _).mono ?_; rintro e w1 ⟨he, hb1⟩; rw [hg] at he; subst he; have Cg10 := ((Bg.drew).ext hb1).cells; have Cc10 := ((Bc.drew).ext hb1).cells) | (go_at_call 78; refine (IsValidContest_any _ _ _ _ _ _).mono ?_; rintro e w2 ⟨he, hb2⟩; rw [hv] at he; subst he; have Cg20 := (((Bg.drew).ext hb1).ext hb2).cells; have Cc20 := (((Bc.drew).ext hb1).ext hb2).cells) | (go_at_call 79; refine (greatest_any a b c d f _ HV.out).mono ?_; rintro e w3 ⟨he, hb3⟩; rw [HGC.out] at he; subst he; have Cg30 := ((((Bg.drew).ext hb1).ext hb2).ext hb3).cells; have Cc30 := ((((Bc.drew).ext hb1).ext hb2).ext hb3).cells)) | fail)
      all_goals (go_wp2; go_meet; exact ⟨congrArg Value.bool ((HB8.out.trans (by rw [decide_eq_false (p := G ≤ 100000) (by omega)]; rfl)).symm), (hb1.trans hb2).trans hb3⟩)
    have z1 : decide ((100000 : Int) < G) = false := by simp; omega
    by_cases h2 : G < q
    case neg =>
      have z2 : decide (q ≤ G) = true := by simp; omega
      (first | go_region_with (first | (go_at_call 77; refine (IsValidGroup_any _ _ _ _).mono ?_; rintro e w1 ⟨he, hb1⟩; rw [hg] at he; subst he; have Cg10 := ((Bg.drew).ext hb1).cells; have Cc10 := ((Bc.drew).ext hb1).cells) | (go_at_call 78; refine (IsValidContest_any _ _ _ _ _ _).mono ?_; rintro e w2 ⟨he, hb2⟩; rw [hv] at he; subst he; have Cg20 := (((Bg.drew).ext hb1).ext hb2).cells; have Cc20 := (((Bc.drew).ext hb1).ext hb2).cells) | (go_at_call 79; have _t := hb3; refine (greatest_any a b c d f _ HV.out).mono ?_; rintro e w4 ⟨he, hb4⟩; rw [HGC.out] at he; subst he; have Cg40 := (((((Bg.drew).ext hb1).ext hb2).ext hb3).ext hb4).cells; have Cc40 := (((((Bc.drew).ext hb1).ext hb2).ext hb3).ext hb4).cells) | (go_at_call 79; refine (greatest_any a b c d f _ HV.out).mono ?_; rintro e w3 ⟨he, hb3⟩; rw [HGC.out] at he; subst he; have Cg30 := ((((Bg.drew).ext hb1).ext hb2).ext hb3).cells; have Cc30 := ((((Bc.drew).ext hb1).ext hb2).ext hb3).cells)) | fail)
      all_goals (go_wp2; go_meet; exact ⟨congrArg Value.bool ((HB8.out.trans (by rw [decide_eq_false (p := G < q) (by omega), Bool.and_false]; rfl)).symm), ((hb1.trans hb2).trans hb3).trans hb4⟩)
    have z2 : decide (q ≤ G) = false := by simp; omega
    (first | go_region_with (first | (go_at_call 77; refine (IsValidGroup_any _ _ _ _).mono ?_; rintro e w1 ⟨he, hb1⟩; rw [hg] at he; subst he; have Cg10 := ((Bg.drew).ext hb1).cells; have Cc10 := ((Bc.drew).ext hb1).cells) | (go_at_call 78; refine (IsValidContest_any _ _ _ _ _ _).mono ?_; rintro e w2 ⟨he, hb2⟩; rw [hv] at he; subst he; have Cg20 := (((Bg.drew).ext hb1).ext hb2).cells; have Cc20 := (((Bc.drew).ext hb1).ext hb2).cells) | (go_at_call 79; have _t := hb3; refine (greatest_any a b c d f _ HV.out).mono ?_; rintro e w4 ⟨he, hb4⟩; rw [HGC.out] at he; subst he; have Cg40 := (((((Bg.drew).ext hb1).ext hb2).ext hb3).ext hb4).cells; have Cc40 := (((((Bc.drew).ext hb1).ext hb2).ext hb3).ext hb4).cells) | (go_at_call 79; refine (greatest_any a b c d f _ HV.out).mono ?_; rintro e w3 ⟨he, hb3⟩; rw [HGC.out] at he; subst he; have Cg30 := ((((Bg.drew).ext hb1).ext hb2).ext hb3).cells; have Cc30 := ((((Bc.drew).ext hb1).ext hb2).ext hb3).cells)) | fail)
    all_goals (go_wp2; go_meet; exact ⟨congrArg Value.bool ((HB8.out.trans (by rw [decide_eq_true h1, decide_eq_true h2]; rfl)).symm), ((hb1.trans hb2).trans hb3).trans hb4⟩)
  case rest =>
  obtain ⟨rfl, hb4⟩ := hcut
  cases hbad : badB p q g a b c d f
  case true =>
    go_wp2
    go_ret
    exact ⟨ret_bool (by rw [seaB_bad hbad]), hE0.drew.trans hb4⟩
  obtain ⟨hg, hv, hsb⟩ := seaB_good hbad
  have hq2 := (grpB_in hg).q2
  have hqp := (grpB_in hg).qp
  have hq9 := (grpB_in hg).p9
  obtain ⟨_, _, _, _, _, q6, q7, q8, hd40⟩ := valid_kind hv
  have HSB := Lib.hid hsb
  clear hsb
  have Cg2 := ((Bg.drew).ext hb4).cells
  have Cc2 := ((Bc.drew).ext hb4).cells
  have hfm := isForm_any a b c d f
  cases h3 : decide (a = 1 ∨ a = 2)
  · rw [h3] at hfm
    have HFM := Lib.hid hfm
    have H3 := Lib.hid h3
    clear hfm hg hv h3
    go_wp2_with fail
    refine (HFM.out _).mono ?_
    rintro e w5 ⟨rfl, hb5⟩
    go_wp2
    go_ret
    exact ⟨ret_bool (by rw [HSB.out, H3.out]; rfl), (hE0.drew.trans hb4).trans hb5⟩
  rw [h3] at hfm
  have HFM := Lib.hid hfm
  have H3 := Lib.hid h3
  clear hfm hg hv h3
  by_cases h4 : d - c < 8
  · have z4 : decide (d - c < 8) = true := by simp; omega
    go_wp2_with fail
    refine (HFM.out _).mono ?_
    rintro e w5 ⟨rfl, hb5⟩
    have Cg3 := (((Bg.drew).ext hb4).ext hb5).cells
    have Cc3 := (((Bc.drew).ext hb4).ext hb5).cells
    go_wp2
    go_ret
    exact ⟨ret_bool (by rw [HSB.out, H3.out, decide_eq_true h4]; rfl), (hE0.drew.trans hb4).trans hb5⟩
  · have z4 : decide (d - c < 8) = false := by simp; omega
    go_wp2_with fail
    refine (HFM.out _).mono ?_
    rintro e w5 ⟨rfl, hb5⟩
    have Cg3 := (((Bg.drew).ext hb4).ext hb5).cells
    have Cc3 := (((Bc.drew).ext hb4).ext hb5).cells
    go_wp2
    go_ret
    exact ⟨ret_bool (by rw [HSB.out, H3.out, decide_eq_false (p := d - c < 8) (by omega)]; rfl), (hE0.drew.trans hb4).trans hb5⟩

end Go.Proofs.YtpfccboighdcbaaGreat

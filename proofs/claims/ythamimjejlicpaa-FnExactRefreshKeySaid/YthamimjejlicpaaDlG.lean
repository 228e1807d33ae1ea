/- Contracts for the guards on dealings and shared keys: the program's and the reference's. (Printed by tools/gen_dlg.py.) -/
import Derived.Test.YthamimjejlicpaaProg
import Derived.Test.YthamimjejlicpaaDl
import Derived.Test.YthamimjejlicpaaRec2
namespace Go.Proofs.Ythamimjejlicpaa
open Go.RowKit

/-- A dealing is valid. -/
noncomputable def dlB (p q : Int) (cs ss : List Int) : Bool := (inR cs.length 1 7 && cs.all (elB p q)) && (inR ss.length cs.length 7 && allR ss 0 (q - 1))
/-- A group and a shared key are valid. -/
noncomputable def keyG (p q g : Int) (cs ss : List Int) : Bool := (decide (7 < q) && grpB p q g) && dlB p q cs ss
set_option maxRecDepth 100000 in
set_option maxHeartbeats 4000000 in
theorem hasDealing_any (p q g : Int) (A : Option Addr) (n c : Nat) (cs : List Int) (B : Option Addr) (m d : Nat) (ss : List Int) (w : World) (h : GrpB p q) (ha : SlI w A n c cs) (hb : SlI w B m d ss) :
    Calls Try.prog 153 #[.agg #[.int .i64 p, .int .i64 q, .int .i64 g], .agg #[.slice A n c, .slice B m d]] w fun en w' => en = .returned (.bool (dlB p q cs ss)) ∧ Ext w w' := by
  have E := (((Ext.refl w).alloc (.cells #[.int .i64 p, .int .i64 q, .int .i64 g] 25)).alloc (.cells #[.slice A n c, .slice B m d] 113))
  have B0 := ((Blk.new w 25 #[.int .i64 p, .int .i64 q, .int .i64 g]).alloc (.cells #[.slice A n c, .slice B m d] 113))
  have B1 := (Blk.new (w.alloc (.cells #[.int .i64 p, .int .i64 q, .int .i64 g] 25)) 113 #[.slice A n c, .slice B m d])
  simp only [World.size_alloc] at B1
  cases h1 : (inR (n : Int) 1 7 && cs.all (elB p q))
  · have H1 := Lib.hid h1
    have hv : dlB p q cs ss = false := by simp only [dlB, ha.len, h1, Bool.false_and]
    have HV := Lib.hid hv
    clear hv
    clear h1
    go_enter Try.func153, Try.ntmps153
    have CC0 := B0.cells
    have CC1 := B1.cells
    go_wp2_with fail
    refine (areCommits_any p q g A n c cs _ h (ha.rd.ext E) ha.len ha.le).mono ?_
    rintro en w9 ⟨hen, hb9⟩
    rw [H1.out] at hen; subst hen
    replace E := E.trans hb9
    replace B0 := B0.ext hb9
    replace B1 := B1.ext hb9
    clear hb9 CC0 CC1
    go_wp2
    go_ret
    exact ⟨by rw [HV.out]; rfl, E⟩
  have H1 := Lib.hid h1
  cases h2 : inR (m : Int) n 7
  · have H2 := Lib.hid h2
    have hv : dlB p q cs ss = false := by simp only [dlB, ha.len, hb.len, h1, h2, Bool.false_and, Bool.true_and]
    have HV := Lib.hid hv
    clear hv
    clear h1 h2
    go_enter Try.func153, Try.ntmps153
    have CC0 := B0.cells
    have CC1 := B1.cells
    go_wp2_with fail
    refine (areCommits_any p q g A n c cs _ h (ha.rd.ext E) ha.len ha.le).mono ?_
    rintro en w9 ⟨hen, hb9⟩
    rw [H1.out] at hen; subst hen
    replace E := E.trans hb9
    replace B0 := B0.ext hb9
    replace B1 := B1.ext hb9
    clear hb9 CC0 CC1
    have CC0 := B0.cells
    have CC1 := B1.cells
    go_wp2_with fail
    refine (within_any _ _ _ _).mono ?_
    rintro en w9 ⟨hen, rfl⟩
    rw [H2.out] at hen; subst hen
    clear CC0 CC1
    go_wp2
    go_ret
    exact ⟨by rw [HV.out]; rfl, E⟩
  have H2 := Lib.hid h2
  obtain ⟨v3, h3⟩ : ∃ v3, allR ss 0 (q - 1) = v3 := ⟨_, rfl⟩
  have hv : dlB p q cs ss = v3 := by simp only [dlB, ha.len, hb.len, h1, h2, h3, Bool.true_and]
  have HV := Lib.hid hv
  have H3 := Lib.hid h3
  clear hv h1 h2 h3
  go_enter Try.func153, Try.ntmps153
  have CC0 := B0.cells
  have CC1 := B1.cells
  go_wp2_with fail
  refine (areCommits_any p q g A n c cs _ h (ha.rd.ext E) ha.len ha.le).mono ?_
  rintro en w9 ⟨hen, hb9⟩
  rw [H1.out] at hen; subst hen
  replace E := E.trans hb9
  replace B0 := B0.ext hb9
  replace B1 := B1.ext hb9
  clear hb9 CC0 CC1
  have CC0 := B0.cells
  have CC1 := B1.cells
  go_wp2_with fail
  refine (within_any _ _ _ _).mono ?_
  rintro en w9 ⟨hen, rfl⟩
  rw [H2.out] at hen; subst hen
  clear CC0 CC1
  have CC0 := B0.cells
  have CC1 := B1.cells
  go_wp2_with fail
  refine (areExps_any p q g B m d ss _ h (hb.rd.ext E) hb.len hb.le).mono ?_
  rintro en w9 ⟨hen, hb9⟩
  rw [H3.out] at hen; subst hen
  replace E := E.trans hb9
  replace B0 := B0.ext hb9
  replace B1 := B1.ext hb9
  clear hb9 CC0 CC1
  go_wp2
  go_ret
  exact ⟨by rw [HV.out]; rfl, E⟩
set_option maxRecDepth 100000 in
set_option maxHeartbeats 4000000 in
theorem sDealing_any (p q g : Int) (A : Option Addr) (n c : Nat) (cs : List Int) (B : Option Addr) (m d : Nat) (ss : List Int) (w : World) (h : GrpB p q) (ha : SlI w A n c cs) (hb : SlI w B m d ss) :
    Calls Try.prog 148 #[.agg #[.int .i64 p, .int .i64 q, .int .i64 g], .agg #[.slice A n c, .slice B m d]] w fun en w' => en = .returned (.bool (dlB p q cs ss)) ∧ Ext w w' := by
  have E := (((Ext.refl w).alloc (.cells #[.int .i64 p, .int .i64 q, .int .i64 g] 25)).alloc (.cells #[.slice A n c, .slice B m d] 113))
  have B0 := ((Blk.new w 25 #[.int .i64 p, .int .i64 q, .int .i64 g]).alloc (.cells #[.slice A n c, .slice B m d] 113))
  have B1 := (Blk.new (w.alloc (.cells #[.int .i64 p, .int .i64 q, .int .i64 g] 25)) 113 #[.slice A n c, .slice B m d])
  simp only [World.size_alloc] at B1
  cases h1 : (inR (n : Int) 1 7 && cs.all (elB p q))
  · have H1 := Lib.hid h1
    have hv : dlB p q cs ss = false := by simp only [dlB, ha.len, h1, Bool.false_and]
    have HV := Lib.hid hv
    clear hv
    clear h1
    go_enter Try.func148, Try.ntmps148
    have CC0 := B0.cells
    have CC1 := B1.cells
    go_wp2_with fail
    refine (sCommits_any p q g A n c cs _ h (ha.rd.ext E) ha.len ha.le).mono ?_
    rintro en w9 ⟨hen, hb9⟩
    rw [H1.out] at hen; subst hen
    replace E := E.trans hb9
    replace B0 := B0.ext hb9
    replace B1 := B1.ext hb9
    clear hb9 CC0 CC1
    go_wp2
    go_ret
    exact ⟨by rw [HV.out]; rfl, E⟩
  have H1 := Lib.hid h1
  cases h2 : inR (m : Int) n 7
  · have H2 := Lib.hid h2
    have hv : dlB p q cs ss = false := by simp only [dlB, ha.len, hb.len, h1, h2, Bool.false_and, Bool.true_and]
    have HV := Lib.hid hv
    clear hv
    clear h1 h2
    go_enter Try.func148, Try.ntmps148
    have CC0 := B0.cells
    have CC1 := B1.cells
    go_wp2_with fail
    refine (sCommits_any p q g A n c cs _ h (ha.rd.ext E) ha.len ha.le).mono ?_
    rintro en w9 ⟨hen, hb9⟩
    rw [H1.out] at hen; subst hen
    replace E := E.trans hb9
    replace B0 := B0.ext hb9
    replace B1 := B1.ext hb9
    clear hb9 CC0 CC1
    have CC0 := B0.cells
    have CC1 := B1.cells
    go_wp2_with fail
    refine (l1In_any _ _ _ _).mono ?_
    rintro en w9 ⟨hen, rfl⟩
    rw [H2.out] at hen; subst hen
    clear CC0 CC1
    go_wp2
    go_ret
    exact ⟨by rw [HV.out]; rfl, E⟩
  have H2 := Lib.hid h2
  obtain ⟨v3, h3⟩ : ∃ v3, allR ss 0 (q - 1) = v3 := ⟨_, rfl⟩
  have hv : dlB p q cs ss = v3 := by simp only [dlB, ha.len, hb.len, h1, h2, h3, Bool.true_and]
  have HV := Lib.hid hv
  have H3 := Lib.hid h3
  clear hv h1 h2 h3
  go_enter Try.func148, Try.ntmps148
  have CC0 := B0.cells
  have CC1 := B1.cells
  go_wp2_with fail
  refine (sCommits_any p q g A n c cs _ h (ha.rd.ext E) ha.len ha.le).mono ?_
  rintro en w9 ⟨hen, hb9⟩
  rw [H1.out] at hen; subst hen
  replace E := E.trans hb9
  replace B0 := B0.ext hb9
  replace B1 := B1.ext hb9
  clear hb9 CC0 CC1
  have CC0 := B0.cells
  have CC1 := B1.cells
  go_wp2_with fail
  refine (l1In_any _ _ _ _).mono ?_
  rintro en w9 ⟨hen, rfl⟩
  rw [H2.out] at hen; subst hen
  clear CC0 CC1
  have CC0 := B0.cells
  have CC1 := B1.cells
  go_wp2_with fail
  refine (gExps_any p q g B m d ss _ h (hb.rd.ext E) hb.len hb.le).mono ?_
  rintro en w9 ⟨hen, hb9⟩
  rw [H3.out] at hen; subst hen
  replace E := E.trans hb9
  replace B0 := B0.ext hb9
  replace B1 := B1.ext hb9
  clear hb9 CC0 CC1
  go_wp2
  go_ret
  exact ⟨by rw [HV.out]; rfl, E⟩
set_option maxRecDepth 100000 in
set_option maxHeartbeats 4000000 in
theorem IsValidDealing_any (p q g : Int) (A : Option Addr) (n c : Nat) (cs : List Int) (B : Option Addr) (m d : Nat) (ss : List Int) (w : World) (ha : SlI w A n c cs) (hb : SlI w B m d ss) :
    Calls Try.prog 151 #[.agg #[.int .i64 p, .int .i64 q, .int .i64 g], .agg #[.slice A n c, .slice B m d]] w fun en w' => en = .returned (.bool (keyG p q g cs ss)) ∧ Ext w w' := by
  have E := (((Ext.refl w).alloc (.cells #[.int .i64 p, .int .i64 q, .int .i64 g] 25)).alloc (.cells #[.slice A n c, .slice B m d] 113))
  have B0 := ((Blk.new w 25 #[.int .i64 p, .int .i64 q, .int .i64 g]).alloc (.cells #[.slice A n c, .slice B m d] 113))
  have B1 := (Blk.new (w.alloc (.cells #[.int .i64 p, .int .i64 q, .int .i64 g] 25)) 113 #[.slice A n c, .slice B m d])
  simp only [World.size_alloc] at B1
  cases h1 : (decide (7 < q) && grpB p q g)
  · have H1 := Lib.hid h1
    have hv : keyG p q g cs ss = false := by simp only [keyG, h1, Bool.false_and]
    have HV := Lib.hid hv
    clear hv
    clear h1
    go_enter Try.func151, Try.ntmps151
    have CC0 := B0.cells
    have CC1 := B1.cells
    go_wp2_with fail
    refine (isSharing_any p q g _).mono ?_
    rintro en w9 ⟨hen, hb9⟩
    rw [H1.out] at hen; subst hen
    replace E := E.trans hb9
    replace B0 := B0.ext hb9
    replace B1 := B1.ext hb9
    clear hb9 CC0 CC1
    go_wp2
    go_ret
    exact ⟨by rw [HV.out]; rfl, E⟩
  have H1 := Lib.hid h1
  have hG := (grpB_in (by rw [Bool.and_eq_true] at h1; exact h1.2)).bd
  obtain ⟨v2, h2⟩ : ∃ v2, dlB p q cs ss = v2 := ⟨_, rfl⟩
  have hv : keyG p q g cs ss = v2 := by simp only [keyG, h1, h2, Bool.true_and]
  have HV := Lib.hid hv
  have H2 := Lib.hid h2
  clear hv h1 h2
  go_enter Try.func151, Try.ntmps151
  have CC0 := B0.cells
  have CC1 := B1.cells
  go_wp2_with fail
  refine (isSharing_any p q g _).mono ?_
  rintro en w9 ⟨hen, hb9⟩
  rw [H1.out] at hen; subst hen
  replace E := E.trans hb9
  replace B0 := B0.ext hb9
  replace B1 := B1.ext hb9
  clear hb9 CC0 CC1
  have CC0 := B0.cells
  have CC1 := B1.cells
  go_wp2_with fail
  refine (hasDealing_any p q g A n c cs B m d ss _ hG (ha.ext E) (hb.ext E)).mono ?_
  rintro en w9 ⟨hen, hb9⟩
  rw [H2.out] at hen; subst hen
  replace E := E.trans hb9
  replace B0 := B0.ext hb9
  replace B1 := B1.ext hb9
  clear hb9 CC0 CC1
  go_wp2
  go_ret
  exact ⟨by rw [HV.out]; rfl, E⟩
set_option maxHeartbeats 1000000 in
theorem hasKey_any (p q g : Int) (A : Option Addr) (n c : Nat) (cs : List Int) (B : Option Addr) (m d : Nat) (ss : List Int) (w : World) (ha : SlI w A n c cs) (hb : SlI w B m d ss) :
    Calls Try.prog 97 #[.agg #[.int .i64 p, .int .i64 q, .int .i64 g], .agg #[.slice A n c, .slice B m d]] w fun en w' => en = .returned (.bool (keyG p q g cs ss)) ∧ Ext w w' := by
  have E := (((Ext.refl w).alloc (.cells #[.int .i64 p, .int .i64 q, .int .i64 g] 25)).alloc (.cells #[.slice A n c, .slice B m d] 62))
  have B0 := ((Blk.new w 25 #[.int .i64 p, .int .i64 q, .int .i64 g]).alloc (.cells #[.slice A n c, .slice B m d] 62))
  have B1 := (Blk.new (w.alloc (.cells #[.int .i64 p, .int .i64 q, .int .i64 g] 25)) 62 #[.slice A n c, .slice B m d])
  simp only [World.size_alloc] at B1
  have C0 := B0.cells
  have C1 := B1.cells
  go_enter Try.func97, Try.ntmps97
  go_wp2_with fail
  refine (IsValidDealing_any p q g A n c cs B m d ss _ (ha.ext E) (hb.ext E)).mono ?_
  rintro en w9 ⟨rfl, hb9⟩
  go_wp2
  go_ret
  exact ⟨rfl, E.trans hb9⟩
set_option maxHeartbeats 1000000 in
theorem rKey_any (A : Option Addr) (n c : Nat) (B : Option Addr) (m d : Nat) (w : World) :
    Calls Try.prog 149 #[.agg #[.slice A n c, .slice B m d]] w fun en w' => en = .returned (.agg #[.slice A n c, .slice B m d]) ∧ Ext w w' := by
  go_enter Try.func149, Try.ntmps149
  go_wp2
  refine bodyPost_ret (v := .agg #[.slice A n c, .slice B m d]) (by simp [results, Try.results149, go_sem]) rfl ⟨rfl, ?_⟩
  (repeat (first | exact Ext.refl _ | assumption | apply Ext.drew | apply Ext.drewN | apply Ext.alloc | refine Ext.setCell ?_ (by simp; try omega) _))
set_option maxRecDepth 100000 in
set_option maxHeartbeats 4000000 in
theorem rGood_any (p q g : Int) (A : Option Addr) (n c : Nat) (cs : List Int) (B : Option Addr) (m d : Nat) (ss : List Int) (w : World) (ha : SlI w A n c cs) (hb : SlI w B m d ss) :
    Calls Try.prog 92 #[.agg #[.int .i64 p, .int .i64 q, .int .i64 g], .agg #[.slice A n c, .slice B m d]] w fun en w' => en = .returned (.bool (keyG p q g cs ss)) ∧ Ext w w' := by
  have E := (((Ext.refl w).alloc (.cells #[.int .i64 p, .int .i64 q, .int .i64 g] 25)).alloc (.cells #[.slice A n c, .slice B m d] 62))
  have B0 := ((Blk.new w 25 #[.int .i64 p, .int .i64 q, .int .i64 g]).alloc (.cells #[.slice A n c, .slice B m d] 62))
  have B1 := (Blk.new (w.alloc (.cells #[.int .i64 p, .int .i64 q, .int .i64 g] 25)) 62 #[.slice A n c, .slice B m d])
  simp only [World.size_alloc] at B1
  cases h1 : (decide (7 < q) && grpB p q g)
  · have hv : keyG p q g cs ss = false := by simp only [keyG, h1, Bool.false_and]
    have HV := Lib.hid hv
    have H1 := Lib.hid h1
    clear hv h1
    go_enter Try.func92, Try.ntmps92
    go_wp2
    generalize ((w.alloc (.cells #[.int .i64 p, .int .i64 q, .int .i64 g] 25)).alloc (.cells #[.slice A n c, .slice B m d] 62)) = Wb at *
    have D0 := B0.drew.cells
    have D1 := B1.drew.cells
    have C0 := B0.cells
    have C1 := B1.cells
    (first | go_region_with (first | (go_at_call 81; refine (sGroup_any p q g _).mono ?_; rintro en w2 ⟨he, hb2⟩; rw [H1.out] at he; subst he)) | fail)
    all_goals
      go_wp2
      go_ret
      exact ⟨by rw [HV.out]; rfl, E.drew.trans hb2⟩
  have hG := (grpB_in (by rw [Bool.and_eq_true] at h1; exact h1.2)).bd
  obtain ⟨v2, h2⟩ : ∃ v2, dlB p q cs ss = v2 := ⟨_, rfl⟩
  have hv : keyG p q g cs ss = v2 := by simp only [keyG, h1, h2, Bool.true_and]
  have HV := Lib.hid hv
  have H2 := Lib.hid h2
  have H1 := Lib.hid h1
  clear hv h1 h2
  go_enter Try.func92, Try.ntmps92
  go_wp2
  generalize ((w.alloc (.cells #[.int .i64 p, .int .i64 q, .int .i64 g] 25)).alloc (.cells #[.slice A n c, .slice B m d] 62)) = Wb at *
  have hS : ∀ V, Ext Wb V → V.cell? ⟨w.heap.size, 0, none⟩ = some (.int .i64 p) ∧ V.cell? ⟨w.heap.size, 1, none⟩ = some (.int .i64 q) ∧ V.cell? ⟨w.heap.size, 2, none⟩ = some (.int .i64 g) ∧ V.cell? ⟨w.heap.size + 1, 0, none⟩ = some (.slice A n c) ∧ V.cell? ⟨w.heap.size + 1, 1, none⟩ = some (.slice B m d) := fun V hV => by
    have a0 := (B0.ext hV).cells
    have a1 := (B1.ext hV).cells
    exact ⟨a0 0, a0 1, a0 2, a1 0, a1 1⟩
  go_region_held3 (fun V => V.cell? ⟨w.heap.size, 0, none⟩ = some (.int .i64 p) ∧ V.cell? ⟨w.heap.size, 1, none⟩ = some (.int .i64 q) ∧ V.cell? ⟨w.heap.size, 2, none⟩ = some (.int .i64 g) ∧ V.cell? ⟨w.heap.size + 1, 0, none⟩ = some (.slice A n c) ∧ V.cell? ⟨w.heap.size + 1, 1, none⟩ = some (.slice B m d)) (exact hS _ (by repeat (first | with_reducible assumption | with_reducible exact Ext.refl _ | with_reducible apply Ext.alloc | with_reducible apply Ext.drew | with_reducible apply Ext.drewN)))
    (first
      | (go_at_call 81; refine (sGroup_any p q g _).mono ?_; rintro en w2 ⟨he, hb2⟩; rw [H1.out] at he; subst he; have hx2 := Ext.trans (w := Wb) (by repeat (first | with_reducible assumption | with_reducible exact Ext.refl _ | with_reducible apply Ext.alloc | with_reducible apply Ext.drew | with_reducible apply Ext.drewN)) hb2)
      | (go_at_call 149; refine (rKey_any A n c B m d _).mono ?_; rintro en w3 ⟨rfl, hb3⟩; have hx3 := Ext.trans (w := Wb) (by repeat (first | with_reducible assumption | with_reducible exact Ext.refl _ | with_reducible apply Ext.alloc | with_reducible apply Ext.drew | with_reducible apply Ext.drewN)) hb3)
      | (go_at_call 148; refine (sDealing_any p q g A n c cs B m d ss _ hG (ha.ext (Ext.trans E (by repeat (first | with_reducible assumption | with_reducible exact Ext.refl _ | with_reducible apply Ext.alloc | with_reducible apply Ext.drew | with_reducible apply Ext.drewN)))) (hb.ext (Ext.trans E (by repeat (first | with_reducible assumption | with_reducible exact Ext.refl _ | with_reducible apply Ext.alloc | with_reducible apply Ext.drew | with_reducible apply Ext.drewN))))).mono ?_; rintro en w4 ⟨he, hb4⟩; rw [H2.out] at he; subst he; have hx4 := Ext.trans (w := Wb) (by repeat (first | with_reducible assumption | with_reducible exact Ext.refl _ | with_reducible apply Ext.alloc | with_reducible apply Ext.drew | with_reducible apply Ext.drewN)) hb4)
      | fail)
  go_wp2
  go_ret
  exact ⟨by rw [HV.out]; rfl, E.trans hx4⟩
end Go.Proofs.Ythamimjejlicpaa

/- Contracts for the guards on dealings and shared keys: the program's and the reference's. (Printed by tools/gen_dlg.py.) -/
import Derived.Test.YtnhdohjlbchniaaProg
import Derived.Test.YtnhdohjlbchniaaRw
import Derived.Test.YtnhdohjlbchniaaRec2
namespace Go.Proofs.Ytnhdohjlbchniaa
open Go.RowKit

/-- A dealing is valid. -/
noncomputable def dlB (p q : Int) (cs ss : List Int) : Bool := (inR cs.length 1 7 && cs.all (elB p q)) && (inR ss.length cs.length 7 && allR ss 0 (q - 1))
/-- A group and a shared key are valid. -/
noncomputable def keyG (p q g : Int) (cs ss : List Int) : Bool := (decide (7 < q) && grpB p q g) && dlB p q cs ss
set_option maxRecDepth 100000 in
set_option maxHeartbeats 4000000 in
theorem hasDealing_any (p q g : Int) (A : Option Addr) (n c : Nat) (cs : List Int) (B : Option Addr) (m d : Nat) (ss : List Int) (w : World) (h : GrpB p q) (ha : SlI w A n c cs) (hb : SlI w B m d ss) :
    Calls Try.prog 83 #[.agg #[.int .i64 p, .int .i64 q, .int .i64 g], .agg #[.slice A n c, .slice B m d]] w fun en w' => en = .returned (.bool (dlB p q cs ss)) ∧ Ext w w' := by
  have E := (((Ext.refl w).alloc (.cells #[.int .i64 p, .int .i64 q, .int .i64 g] 31)).alloc (.cells #[.slice A n c, .slice B m d] 68))
  have B0 := ((Blk.new w 31 #[.int .i64 p, .int .i64 q, .int .i64 g]).alloc (.cells #[.slice A n c, .slice B m d] 68))
  have B1 := (Blk.new (w.alloc (.cells #[.int .i64 p, .int .i64 q, .int .i64 g] 31)) 68 #[.slice A n c, .slice B m d])
  simp only [World.size_alloc] at B1
  cases h1 : (inR (n : Int) 1 7 && cs.all (elB p q))
  · have H1 := Lib.hid h1
    have hv : dlB p q cs ss = false := by simp only [dlB, ha.len, h1, Bool.false_and]
    have HV := Lib.hid hv
    clear hv
    clear h1
    go_enter Try.func83, Try.ntmps83
    have CC0 := B0.cells
    have CC1 := B1.cells
    go_wp2_with fail
    refine (areCommits_any p q g A n c cs _ h (ha.rd.ext E) ha.len ha.le).mono ?_
    rintro en w9 ⟨hen, hb9⟩
    rw [H1.out] at hen; subst hen
    replace E := E.trans hb9
    replace B0 := B0.ext hb9
    replace B1 := B1.ext hb9
    clear hb9 CC0 CC1
    go_wp2
    go_ret
    exact ⟨by rw [HV.out]; rfl, E⟩
  have H1 := Lib.hid h1
  cases h2 : inR (m : Int) n 7
  · have H2 := Lib.hid h2
    have hv : dlB p q cs ss = false := by simp only [dlB, ha.len, hb.len, h1, h2, Bool.false_and, Bool.true_and]
    have HV := Lib.hid hv
    clear hv
    clear h1 h2
    go_enter Try.func83, Try.ntmps83
    have CC0 := B0.cells
    have CC1 := B1.cells
    go_wp2_with fail
    refine (areCommits_any p q g A n c cs _ h (ha.rd.ext E) ha.len ha.le).mono ?_
    rintro en w9 ⟨hen, hb9⟩
    rw [H1.out] at hen; subst hen
    replace E := E.trans hb9
    replace B0 := B0.ext hb9
    replace B1 := B1.ext hb9
    clear hb9 CC0 CC1
    have CC0 := B0.cells
    have CC1 := B1.cells
    go_wp2_with fail
    refine (within_any _ _ _ _).mono ?_
    rintro en w9 ⟨hen, rfl⟩
    rw [H2.out] at hen; subst hen
    clear CC0 CC1
    go_wp2
    go_ret
    exact ⟨by rw [HV.out]; rfl, E⟩
  have H2 := Lib.hid h2
  obtain ⟨v3, h3⟩ : ∃ v3, allR ss 0 (q - 1) = v3 := ⟨_, rfl⟩
  have hv : dlB p q cs ss = v3 := by simp only [dlB, ha.len, hb.len, h1, h2, h3, Bool.true_and]
  have HV := Lib.hid hv
  have H3 := Lib.hid h3
  clear hv h1 h2 h3
  go_enter Try.func83, Try.ntmps83
  have CC0 := B0.cells
  have CC1 := B1.cells
  go_wp2_with fail
  refine (areCommits_any p q g A n c cs _ h (ha.rd.ext E) ha.len ha.le).mono ?_
  rintro en w9 ⟨hen, hb9⟩
  rw [H1.out] at hen; subst hen
  replace E := E.trans hb9
  replace B0 := B0.ext hb9
  replace B1 := B1.ext hb9
  clear hb9 CC0 CC1
  have CC0 := B0.cells
  have CC1 := B1.cells
  go_wp2_with fail
  refine (within_any _ _ _ _).mono ?_
  rintro en w9 ⟨hen, rfl⟩
  rw [H2.out] at hen; subst hen
  clear CC0 CC1
  have CC0 := B0.cells
  have CC1 := B1.cells
  go_wp2_with fail
  refine (areExps_any p q g B m d ss _ h (hb.rd.ext E) hb.len hb.le).mono ?_
  rintro en w9 ⟨hen, hb9⟩
  rw [H3.out] at hen; subst hen
  replace E := E.trans hb9
  replace B0 := B0.ext hb9
  replace B1 := B1.ext hb9
  clear hb9 CC0 CC1
  go_wp2
  go_ret
  exact ⟨by rw [HV.out]; rfl, E⟩
set_option maxRecDepth 100000 in
set_option maxHeartbeats 4000000 in
theorem sDealing_any (p q g : Int) (A : Option Addr) (n c : Nat) (cs : List Int) (B : Option Addr) (m d : Nat) (ss : List Int) (w : World) (h : GrpB p q) (ha : SlI w A n c cs) (hb : SlI w B m d ss) :
    Calls Try.prog 68 #[.agg #[.int .i64 p, .int .i64 q, .int .i64 g], .agg #[.slice A n c, .slice B m d]] w fun en w' => en = .returned (.bool (dlB p q cs ss)) ∧ Ext w w' := by
  have E := (((Ext.refl w).alloc (.cells #[.int .i64 p, .int .i64 q, .int .i64 g] 31)).alloc (.cells #[.slice A n c, .slice B m d] 68))
  have B0 := ((Blk.new w 31 #[.int .i64 p, .int .i64 q, .int .i64 g]).alloc (.cells #[.slice A n c, .slice B m d] 68))
  have B1 := (Blk.new (w.alloc (.cells #[.int .i64 p, .int .i64 q, .int .i64 g] 31)) 68 #[.slice A n c, .slice B m d])
  simp only [World.size_alloc] at B1
  cases h1 : (inR (n : Int) 1 7 && cs.all (elB p q))
  · have H1 := Lib.hid h1
    have hv : dlB p q cs ss = false := by simp only [dlB, ha.len, h1, Bool.false_and]
    have HV := Lib.hid hv
    clear hv
    clear h1
    go_enter Try.func68, Try.ntmps68
    have CC0 := B0.cells
    have CC1 := B1.cells
    go_wp2_with fail
    refine (sCommits_any p q g A n c cs _ h (ha.rd.ext E) ha.len ha.le).mono ?_
    rintro en w9 ⟨hen, hb9⟩
    rw [H1.out] at hen; subst hen
    replace E := E.trans hb9
    replace B0 := B0.ext hb9
    replace B1 := B1.ext hb9
    clear hb9 CC0 CC1
    go_wp2
    go_ret
    exact ⟨by rw [HV.out]; rfl, E⟩
  have H1 := Lib.hid h1
  cases h2 : inR (m : Int) n 7
  · have H2 := Lib.hid h2
    have hv : dlB p q cs ss = false := by simp only [dlB, ha.len, hb.len, h1, h2, Bool.false_and, Bool.true_and]
    have HV := Lib.hid hv
    clear hv
    clear h1 h2
    go_enter Try.func68, Try.ntmps68
    have CC0 := B0.cells
    have CC1 := B1.cells
    go_wp2_with fail
    refine (sCommits_any p q g A n c cs _ h (ha.rd.ext E) ha.len ha.le).mono ?_
    rintro en w9 ⟨hen, hb9⟩
    rw [H1.out] at hen; subst hen
    replace E := E.trans hb9
    replace B0 := B0.ext hb9
    replace B1 := B1.ext hb9
    clear hb9 CC0 CC1
    have CC0 := B0.cells
    have CC1 := B1.cells
    go_wp2_with fail
    refine (l1In_any _ _ _ _).mono ?_
    rintro en w9 ⟨hen, rfl⟩
    rw [H2.out] at hen; subst hen
    clear CC0 CC1
    go_wp2
    go_ret
    exact ⟨by rw [HV.out]; rfl, E⟩
  have H2 := Lib.hid h2
  obtain ⟨v3, h3⟩ : ∃ v3, allR ss 0 (q - 1) = v3 := ⟨_, rfl⟩
  have hv : dlB p q cs ss = v3 := by simp only [dlB, ha.len, hb.len, h1, h2, h3, Bool.true_and]
  have HV := Lib.hid hv
  have H3 := Lib.hid h3
  clear hv h1 h2 h3
  go_enter Try.func68, Try.ntmps68
  have CC0 := B0.cells
  have CC1 := B1.cells
  go_wp2_with fail
  refine (sCommits_any p q g A n c cs _ h (ha.rd.ext E) ha.len ha.le).mono ?_
  rintro en w9 ⟨hen, hb9⟩
  rw [H1.out] at hen; subst hen
  replace E := E.trans hb9
  replace B0 := B0.ext hb9
  replace B1 := B1.ext hb9
  clear hb9 CC0 CC1
  have CC0 := B0.cells
  have CC1 := B1.cells
  go_wp2_with fail
  refine (l1In_any _ _ _ _).mono ?_
  rintro en w9 ⟨hen, rfl⟩
  rw [H2.out] at hen; subst hen
  clear CC0 CC1
  have CC0 := B0.cells
  have CC1 := B1.cells
  go_wp2_with fail
  refine (gExps_any p q g B m d ss _ h (hb.rd.ext E) hb.len hb.le).mono ?_
  rintro en w9 ⟨hen, hb9⟩
  rw [H3.out] at hen; subst hen
  replace E := E.trans hb9
  replace B0 := B0.ext hb9
  replace B1 := B1.ext hb9
  clear hb9 CC0 CC1
  go_wp2
  go_ret
  exact ⟨by rw [HV.out]; rfl, E⟩
end Go.Proofs.Ytnhdohjlbchniaa

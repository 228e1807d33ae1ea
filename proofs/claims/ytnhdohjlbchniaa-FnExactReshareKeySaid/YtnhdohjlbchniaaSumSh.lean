/- Contracts for SumShares: the program's and the reference's. (Printed by tools/gen_ss.py.) -/
import Derived.Test.YtnhdohjlbchniaaProg
import Derived.Test.YtnhdohjlbchniaaPlus2
import Derived.Test.YtnhdohjlbchniaaDeal
import Derived.Test.YtnhdohjlbchniaaMsk
namespace Go.Proofs.Ytnhdohjlbchniaa
open Go.RowKit

/-- All dealings of a list have n commitments and m shares. -/
def shpB (n m : Nat) (ds : List (List Int × List Int)) : Bool := ds.all fun d => decide (d.1.length = n) && decide (d.2.length = m)
noncomputable def ssB (p q g : Int) (cs ss : List Int) (ds : List (List Int × List Int)) : Bool := keyG p q g cs ss && (dlsB p q ds && shpB cs.length ss.length ds)
noncomputable def ssV (p q g : Int) (cs ss : List Int) (ds : List (List Int × List Int)) : List Int × List Int := if ssB p q g cs ss ds then sumD p q (cs, ss) ds else ([], [])
theorem dl_rng {p q g : Int} {cs ss : List Int} (hg : grpB p q g = true) (h : dlB p q cs ss = true) : RngD q cs.length ss.length (cs, ss) := by
  simp only [dlB, Bool.and_eq_true] at h
  exact ⟨rfl, rfl, els_rg (grpB_in hg).p9 h.1.2, allR_iff.1 h.2.2⟩
theorem dls_in {p q : Int} {ds : List (List Int × List Int)} (h : dlsB p q ds = true) : ds.length ≤ 7 ∧ ∀ d ∈ ds, dlB p q d.1 d.2 = true := by
  simp only [dlsB, Bool.and_eq_true, decide_eq_true_eq, List.all_eq_true] at h
  exact h
theorem shp_in {n m : Nat} {ds : List (List Int × List Int)} (h : shpB n m ds = true) : ∀ d ∈ ds, d.1.length = n ∧ d.2.length = m := by
  simp only [shpB, List.all_eq_true, Bool.and_eq_true, decide_eq_true_eq] at h
  exact h
theorem ss_rng {p q g : Int} {cs ss : List Int} {ds : List (List Int × List Int)} (h1 : keyG p q g cs ss = true) (h2 : dlsB p q ds = true) (h3 : shpB cs.length ss.length ds = true) : ∀ x ∈ (cs, ss) :: ds, RngD q cs.length ss.length x := by
  have hk := h1
  simp only [keyG, Bool.and_eq_true] at hk
  intro x hx
  rcases List.mem_cons.1 hx with rfl | hx
  · exact dl_rng hk.1.2 hk.2
  · have h4 := dl_rng hk.1.2 ((dls_in h2).2 x hx)
    obtain ⟨e1, e2⟩ := shp_in h3 x hx
    rw [e1, e2] at h4
    exact h4
theorem shp_any (n m : Nat) (ds : List (List Int × List Int)) : (ds.any fun x => !(decide (x.1.length = n) && decide (x.2.length = m))) = !shpB n m ds := by
  unfold shpB
  rw [List.all_eq_not_any_not, Bool.not_not]
end Go.Proofs.Ytnhdohjlbchniaa

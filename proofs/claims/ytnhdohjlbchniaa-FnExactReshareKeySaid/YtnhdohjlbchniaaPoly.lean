/- Contracts for polynomials: guards, values, the program's sum. -/
import Derived.Test.YtnhdohjlbchniaaProg
import Derived.Test.YtnhdohjlbchniaaRes
import Derived.Test.YtnhdohjlbchniaaLies
import Derived.Test.YtnhdohjlbchniaaGood
import Derived.Test.YtnhdohjlbchniaaPolyP
namespace Go.Proofs.Ytnhdohjlbchniaa
open Go.RowKit

noncomputable def polyB (q : Int) (f : List Int) : Bool := fieldB q && (decide (f.length ≤ 24) && allR f 0 (q - 1))
theorem polyB_iff {q : Int} {f : List Int} : polyB q f = true ↔ fieldB q = true ∧ f.length ≤ 24 ∧ ∀ x ∈ f, 0 ≤ x ∧ x ≤ q - 1 := by
  unfold polyB
  rw [Bool.and_eq_true, Bool.and_eq_true, allR_iff, decide_eq_true_iff]

set_option maxHeartbeats 1000000 in
theorem evalPoly_any (q x : Int) (A : Option Addr) (n c : Nat) (f : List Int) (w : World) (ha : RdI w A f) (hl : f.length = n) (hn : n ≤ 1000000) (hq : 2 ≤ q) (hq2 : q ≤ 2000000000) (hf : ∀ y ∈ f, 0 ≤ y ∧ y ≤ q - 1) (hx : 0 ≤ x ∧ x ≤ q - 1) :
    Calls Try.prog 86 #[.int .i64 q, .slice A n c, .int .i64 x] w fun e w' => e = .returned (.int .i64 (ev f x % q)) ∧ Ext w w' := by
  subst hl
  have HF := Lib.hid hf
  have h0 : (q == 0) = false := by simp; omega
  clear hf
  go_enter Try.func86, Try.ntmps86
  go_wp2
  go_loopw [7, 8] (fun o i wr => ∃ (j N : Nat) (s z : Int), j ≤ f.length ∧ i = .int .i64 z ∧ z = (j : Int) - 1 ∧ o = .int .i64 s ∧ wr = w.drewN N ∧ 0 ≤ s ∧ s < q ∧ Hid (s = ev (f.drop j) x % q)) (fun _ i _ => (intOf i + 1).toNat)
  case atStart => exact ⟨f.length, 0, 0, (f.length : Int) - 1, Nat.le_refl _, rfl, rfl, rfl, rfl, by omega, by omega, by rw [Hid, List.drop_length]; simp [ev]⟩
  case round =>
    obtain ⟨j, N, s, z, hj, rfl, hz, rfl, rfl, hs1, hs2, HS⟩ := hrel
    rcases j with _ | k
    · obtain rfl : z = -1 := by omega
      clear hz
      go_wp2
      go_ret
      exact ⟨ret_int HS.out, (Ext.refl w).drewN _⟩
    · obtain rfl : z = (k : Int) := by omega
      clear hz
      have hlt : k < f.length := by omega
      obtain ⟨ad, rfl, hca⟩ := ha.at_ hlt
      have hy := HF.out _ (List.getElem_mem hlt)
      have H1 := Lib.hid (ev_down (q := q) (x := x) hlt)
      generalize f[k] = y at *
      have hxy := intmul_bd s x hs1 hx.1 (by omega) (by omega)
      have hp := Int.emod_lt_of_pos (s * x) (show 0 < q by omega)
      have hp2 := Int.emod_nonneg (s * x) (show q ≠ 0 by omega)
      have hr := Int.emod_lt_of_pos (s * x % q + y) (show 0 < q by omega)
      have hr2 := Int.emod_nonneg (s * x % q + y) (show q ≠ 0 by omega)
      go_wp2
      go_quiet (fail)
      go_wp2
      go_roundw
      case rel => exact ⟨k, _, (s * x % q + y) % q, (k : Int) - 1, by omega, by go_num, rfl, rfl, rfl, hr2, hr, by rw [Hid, HS.out]; exact H1.out⟩
      case measure => simp [intOf]

/-- What a function of two polynomials returns: the list v, where ok. -/
def PolyPost (base : Nat) (good : Bool) (v : List Int) (w : World) (e : Ending) (w' : World) : Prop :=
  ∃ A n c p, e = .returned (.tuple #[.slice A n c, .bool good]) ∧ OwnI w' base 3 A n c p ∧ p = (if good then v else []) ∧ Ext w w'
theorem PolyPost.no {w w' : World} {base : Nat} {v : List Int} (hE : Ext w w') : PolyPost base false v w (.returned (.tuple #[.slice none 0 0, .bool false])) w' :=
  ⟨none, 0, 0, [], rfl, OwnI.nil _ _ _, rfl, hE⟩
theorem addIn_succ {q : Int} {g o : List Int} {k : Nat} {y x : Int} (hy : (addIn q g o k).getD k 0 = y) (hx : g.getD k 0 = x) : (addIn q g o k).set k ((y + x) % q) = addIn q g o (k + 1) := by rw [addIn, hy, hx]
end Go.Proofs.Ytnhdohjlbchniaa

/- Contracts: the reference's HashInts; the program's Challenge for a valid group. -/
import Derived.Test.YthamimjejlicpaaProg
import Derived.Test.YthamimjejlicpaaLab
import Derived.Test.YthamimjejlicpaaChals2
namespace Go.Proofs.Ythamimjejlicpaa
open Go.RowKit

/-- Whether a list can be hashed; its digest. -/
def hiOk (n : Nat) (l : List Int) : Bool := decide (n ≤ 400) && allR l 0 4611686018427387903
def hiVal (n : Nat) (l : List Int) : Int := if hiOk n l then hInt l else 0
theorem iHashInts_ok (A : Option Addr) (n c : Nat) (l : List Int) (w : World) (ha : RdI w A l) (hl : l.length = n) (hn : n ≤ 1000000) :
    Calls Try.prog 23 #[.slice A n c] w fun e w' => e = .returned (.tuple #[.int .i64 (hiVal n l), .bool (hiOk n l)]) ∧ Ext w w' := iHashInts_any A n c l w ha hl hn
set_option maxHeartbeats 1000000 in
theorem l3Good_any (A : Option Addr) (n c : Nat) (l : List Int) (w : World) (ha : RdI w A l) (hl : l.length = n) (hn : n ≤ 1000000) :
    Calls Try.prog 74 #[.slice A n c] w fun e w' => e = .returned (.bool (hiOk n l)) ∧ w = w' := by
  by_cases h : n ≤ 400
  · have hz : (n : Int) ≤ 400 := by omega
    go_enter Try.func74, Try.ntmps74
    go_wp2_with fail
    refine (l1All_any _ _ _ l _ _ _ ha hl (by unfold maxLen; omega)).mono ?_
    rintro e w1 ⟨rfl, rfl⟩
    go_wp2
    go_ret
    refine ⟨ret_bool ?_, rfl⟩
    unfold hiOk
    rw [decide_eq_true h, Bool.true_and]; try rfl
  · have hz : ¬ (n : Int) ≤ 400 := by omega
    go_enter Try.func74, Try.ntmps74
    go_wp2
    go_ret
    refine ⟨ret_bool ?_, rfl⟩
    unfold hiOk
    rw [decide_eq_false h, Bool.false_and]; try rfl
set_option maxHeartbeats 1000000 in
theorem sHashInts_ok (A : Option Addr) (n c : Nat) (l : List Int) (w : World) (ha : RdI w A l) (hl : l.length = n) (hn : n ≤ 1000000) :
    Calls Try.prog 24 #[.slice A n c] w fun e w' => e = .returned (.tuple #[.int .i64 (hiVal n l), .bool (hiOk n l)]) ∧ Ext w w' := by
  unfold hiVal
  cases h : hiOk n l
  · have H := Lib.hid h
    clear h
    go_enter Try.func24, Try.ntmps24
    go_wp2_with fail
    refine (l3Good_any _ _ _ l _ ha hl hn).mono ?_
    rintro e w1 ⟨he, rfl⟩
    rw [H.out] at he; subst he
    go_wp2
    go_ret2
    exact ⟨rfl, Ext.refl _⟩
  · have h2 : allR l 0 4611686018427387903 = true := by
      simp only [hiOk, Bool.and_eq_true] at h
      exact h.2
    have H := Lib.hid h
    have H2 := Lib.hid h2
    clear h h2
    go_enter Try.func24, Try.ntmps24
    go_wp2_with fail
    refine (l3Good_any _ _ _ l _ ha hl hn).mono ?_
    rintro e w1 ⟨he, rfl⟩
    rw [H.out] at he; subst he
    go_wp2_with fail
    refine (hInts_any _ _ _ l _ ha hl hn H2.out).mono ?_
    rintro e w2 ⟨rfl, hE2⟩
    go_wp2
    go_ret2
    exact ⟨rfl, hE2⟩
set_option maxRecDepth 100000 in
set_option maxHeartbeats 4000000 in
theorem iChallenge_yes (p q g : Int) (s : ByteArray) (A : Option Addr) (n c : Nat) (l : List Int) (w : World) (h : grpB p q g = true) (ha : RdI w A l) (hl : l.length = n) (hn : n ≤ 900000) (hs : s.size ≤ 1000000) :
    Calls Try.prog 30 #[.agg #[.int .i64 p, .int .i64 q, .int .i64 g], .string s, .slice A n c] w fun e w' => e = .returned (.tuple #[.int .i64 (if chK p q g s l then chV p q g s l else 0), .bool (chK p q g s l)]) ∧ Ext w w' := by
  have E := ((Ext.refl w).alloc (.cells #[.int .i64 p, .int .i64 q, .int .i64 g] 25))
  have B0 := (Blk.new w 25 #[.int .i64 p, .int .i64 q, .int .i64 g])
  have HG := Lib.hid h
  obtain ⟨K, hK⟩ : ∃ K, chK p q g s l = K := ⟨_, rfl⟩
  obtain ⟨V, hV⟩ : ∃ V, (if K then chV p q g s l else 0) = V := ⟨_, rfl⟩
  rw [hK, hV]
  have HK := Lib.hid hK
  have HV := Lib.hid hV
  clear h hK hV
  go_enter Try.func30, Try.ntmps30
  have CC0 := B0.cells
  go_wp2_with fail
  refine (IsValidGroup_any p q g _).mono ?_
  rintro e w1 ⟨he, hb⟩
  rw [HG.out] at he; subst he
  replace E := E.trans hb
  replace B0 := B0.ext hb
  clear CC0 hb
  have CC0 := B0.cells
  go_wp2_with fail
  refine (challenge_any p q g s A n c l _ HG.out (ha.ext E) hl hn hs).mono ?_
  rintro e w2 ⟨he, hb⟩
  rw [HK.out, HV.out] at he
  subst he
  go_wp2
  go_ret2
  exact ⟨rfl, E.trans hb⟩
end Go.Proofs.Ythamimjejlicpaa

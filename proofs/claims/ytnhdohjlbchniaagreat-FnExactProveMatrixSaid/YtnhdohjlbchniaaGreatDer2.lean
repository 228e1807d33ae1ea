/- Contracts for lists of derived elements and for bases: the program's and the reference's. -/
import Derived.Test.YtnhdohjlbchniaaGreatProg
import Derived.Test.YtnhdohjlbchniaaGreatDer
import Derived.Test.YtnhdohjlbchniaaGreatDig
namespace Go.Proofs.YtnhdohjlbchniaaGreat
open Go.RowKit

theorem der_pos {p q g : Int} (h : grpB p q g = true) (s : ByteArray) (k : Int) : decide (0 < derV p q g s k) = (derV p q g s k != 0) := by
  by_cases h0 : derV p q g s k = 0
  · rw [h0]; rfl
  · have := (elB_iff.1 (derV_out h s k h0).1).1
    rw [decide_eq_true (by omega)]
    simp [h0]
/-- When a list of derived elements is there. -/
noncomputable def desK (p q g : Int) (s : ByteArray) (n : Int) : Bool := grpB p q g && (decide (s.size ≤ 40) && (inR n 0 100 && derA p q g s n.toNat))
noncomputable def desL (p q g : Int) (s : ByteArray) (n : Int) : List Int := if desK p q g s n then derL p q g s n.toNat else []
def DesPost (p q g : Int) (s : ByteArray) (n : Int) (w : World) (e : Ending) (w' : World) : Prop :=
  ∃ A m c, e = .returned (.tuple #[.slice A m c, .bool (desK p q g s n)]) ∧ OwnI w' w.heap.size 3 A m c (desL p q g s n) ∧ Ext w w'
theorem DesPost.no {p q g : Int} {s : ByteArray} {n : Int} {w w' : World} (h : desK p q g s n = false) (hE : Ext w w') : DesPost p q g s n w (.returned (.tuple #[.slice none 0 0, .bool false])) w' := by
  refine ⟨none, 0, 0, by rw [h], ?_, hE⟩
  unfold desL
  rw [h]
  exact OwnI.nil _ _ _
set_option maxRecDepth 100000 in
set_option maxHeartbeats 4000000 in
theorem sDeriveElements_any (p q g : Int) (s : ByteArray) (n : Int) (w : World) (hs : s.size ≤ 1000000000) :
    Calls Tryz.prog 39 #[.agg #[.int .i64 p, .int .i64 q, .int .i64 g], .string s, .int .i64 n] w fun e w' => DesPost p q g s n w e w' := by
  have E := (Ext.refl w).alloc (.cells #[.int .i64 p, .int .i64 q, .int .i64 g] 33)
  have B := Blk.new w 33 #[.int .i64 p, .int .i64 q, .int .i64 g]
  cases h1 : grpB p q g
  · have hk : desK p q g s n = false := by simp [desK, h1]
    have H1 := Lib.hid h1
    have HK := Lib.hid hk
    clear h1 hk
    go_enter Tryz.func39, Tryz.ntmps39
    have C := B.cells
    go_wp2_with fail
    refine (l2Good_any p q g _).mono ?_
    rintro e w1 ⟨he, hb⟩
    rw [H1.out] at he; subst he
    go_wp2
    go_ret2
    exact DesPost.no HK.out (E.trans hb)
  have H1 := Lib.hid h1
  by_cases h3 : s.size ≤ 40
  case neg =>
    have hk : desK p q g s n = false := by simp [desK, h3]
    have HK := Lib.hid hk
    have hz : (40 : Int) < (s.size : Int) := by omega
    clear h1 hk
    go_enter Tryz.func39, Tryz.ntmps39
    have C := B.cells
    go_wp2_with fail
    refine (l2Good_any p q g _).mono ?_
    rintro e w1 ⟨he, hb⟩
    rw [H1.out] at he; subst he
    go_wp2
    go_ret2
    exact DesPost.no HK.out (E.trans hb)
  have hz : ¬ (40 : Int) < (s.size : Int) := by omega
  cases h2 : inR n 0 100
  · have hk : desK p q g s n = false := by simp [desK, h2]
    have H2 := Lib.hid h2
    have HK := Lib.hid hk
    clear h1 hk h2
    go_enter Tryz.func39, Tryz.ntmps39
    have C := B.cells
    go_wp2_with fail
    refine (l2Good_any p q g _).mono ?_
    rintro e w1 ⟨he, hb⟩
    rw [H1.out] at he; subst he
    go_wp2_with fail
    refine (l1In_any _ _ _ _).mono ?_
    rintro e w2 ⟨he, rfl⟩
    rw [H2.out] at he; subst he
    go_wp2
    go_ret2
    exact DesPost.no HK.out (E.trans hb)
  have H2 := Lib.hid h2
  have hn := inR_iff.1 h2
  obtain ⟨N, rfl⟩ := Int.eq_ofNat_of_zero_le hn.1
  have hkd : desK p q g s N = derA p q g s N := by simp [desK, h1, h2, h3]
  have HKD := Lib.hid hkd
  clear h1 h2 hkd
  go_enter Tryz.func39, Tryz.ntmps39
  have C := B.cells
  go_wp2_with fail
  refine (l2Good_any p q g _).mono ?_
  rintro e w1 ⟨he, hb⟩
  rw [H1.out] at he; subst he
  replace E := E.trans hb
  replace B := B.ext hb
  clear hb C
  go_wp2_with fail
  refine (l1In_any _ _ _ _).mono ?_
  rintro e w2 ⟨he, rfl⟩
  rw [H2.out] at he; subst he
  have hO0 : OwnI w1 (w.heap.size + 1) 3 none 0 0 [] := OwnI.nil _ _ _
  go_wp2
  go_loopw [8, 9] (fun o i wr => ∃ (j : Nat) (A : Option Addr) (c : Nat), j ≤ N ∧ i = .int .i64 j ∧ o = .slice A j c ∧ OwnI wr (w.heap.size + 1) 3 A j c (derL p q g s j) ∧ Hid (derA p q g s j = true) ∧ Blk wr w.heap.size 33 #[.int .i64 p, .int .i64 q, .int .i64 g] ∧ Ext w wr) (fun _ i _ => N - (intOf i).toNat)
  case atStart => exact ⟨0, _, _, Nat.zero_le _, rfl, rfl, hO0, rfl, B, E⟩
  case round =>
    clear B E hO0
    obtain ⟨j, A, c, hj, rfl, rfl, hO, HA, B, E⟩ := hrel
    have C := B.cells
    have hsz := E.size
    by_cases hlt : j < N
    · cases hv : (derV p q g s j != 0)
      · have hno : desK p q g s N = false := by rw [HKD.out]; exact derA_lt hlt (by simpa using hv)
        have HNO := Lib.hid hno
        have hvz : derV p q g s j = 0 := by simpa using hv
        have HVZ := Lib.hid hvz
        clear hno hv hvz
        go_wp2_with fail
        refine (hDerived_any p q g s j _ H1.out h3 (by omega)).mono ?_
        rintro e w3 ⟨he, hb3⟩
        rw [HVZ.out] at he; subst he
        go_wp2
        go_ret2
        exact DesPost.no HNO.out (E.trans hb3)
      · have hyes : derA p q g s (j + 1) = true := by rw [derA_succ, HA.out, hv]; rfl
        have HY := Lib.hid hyes
        have hvb : (derV p q g s j == 0) = false := by simpa using hv
        clear hyes hv
        have hsu := derL_succ p q g s j
        have HSU := Lib.hid hsu
        clear hsu
        go_wp2_with fail
        refine (hDerived_any p q g s j _ H1.out h3 (by omega)).mono ?_
        rintro e w3 ⟨rfl, hb3⟩
        have hO3 := hO.ext hb3
        have hsz3 : w.heap.size + 1 ≤ w3.heap.size := (B.ext hb3).lt
        go_wp2_with (at_builtin; refine wpList_app1 intSl rfl _ _ rfl hO3 rfl rfl (by omega) hsz3 ?_; intro A2 c2 w4 hO4 hb4)
        rw [← HSU.out] at hO4
        go_roundw
        case rel => exact ⟨j + 1, A2, c2, by omega, by go_num, rfl, hO4, HY.out, (B.ext hb3).below hb4 (by omega), (E.trans hb3).then hb4 (by omega)⟩
        case measure => simp [intOf]; omega
    · obtain rfl : j = N := by omega
      have hyes : desK p q g s j = true := by rw [HKD.out]; exact HA.out
      go_wp2
      go_ret2
      refine ⟨_, _, _, by rw [hyes]; rfl, ?_, E⟩
      unfold desL
      rw [hyes]
      exact hO.more (by omega)

set_option maxHeartbeats 1000000 in
theorem sDeriveElement_yes (p q g : Int) (s : ByteArray) (k : Int) (w : World) (h : grpB p q g = true) (hs : s.size ≤ 40) (hk : 0 ≤ k ∧ k ≤ 4611686018427387903) :
    Calls Tryz.prog 38 #[.agg #[.int .i64 p, .int .i64 q, .int .i64 g], .string s, .int .i64 k] w fun e w' => e = .returned (.tuple #[.int .i64 (derV p q g s k), .bool (derV p q g s k != 0)]) ∧ Ext w w' := by
  have E := (Ext.refl w).alloc (.cells #[.int .i64 p, .int .i64 q, .int .i64 g] 33)
  have B := Blk.new w 33 #[.int .i64 p, .int .i64 q, .int .i64 g]
  have H := Lib.hid h
  rw [← der_pos h]
  obtain ⟨V, hV⟩ : ∃ V, derV p q g s k = V := ⟨_, rfl⟩
  rw [hV]
  have HV := Lib.hid hV
  clear h hV
  have hd : inR k 0 4611686018427387903 = true := inR_iff.2 hk
  have HD := Lib.hid hd
  clear hd
  have hz : ¬ (40 : Int) < (s.size : Int) := by omega
  go_enter Tryz.func38, Tryz.ntmps38
  have C := B.cells
  go_wp2_with fail
  refine (l2Good_any p q g _).mono ?_
  rintro e w1 ⟨he, hb⟩
  rw [H.out] at he; subst he
  replace E := E.trans hb
  replace B := B.ext hb
  clear hb C
  have C := B.cells
  go_wp2_with fail
  refine (l3Digest_any k _).mono ?_
  rintro e w2 ⟨he, rfl⟩
  rw [HD.out] at he; subst he
  go_wp2_with fail
  refine (hDerived_any p q g s k _ H.out hs hk).mono ?_
  rintro e w3 ⟨he, hb⟩
  rw [HV.out] at he; subst he
  go_wp2
  go_ret2
  exact ⟨rfl, E.trans hb⟩
end Go.Proofs.YtnhdohjlbchniaaGreat

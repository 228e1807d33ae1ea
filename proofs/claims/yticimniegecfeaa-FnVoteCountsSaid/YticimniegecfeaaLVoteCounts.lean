/- The law FnVoteCounts returns true for every input. It holds without a condition. -/
import Derived.Test.YticimniegecfeaaRows
import Derived.Test.YticimniegecfeaaVcl
import Derived.Test.YticimniegecfeaaDec
import Derived.Test.YticimniegecfeaaCnt2
import Derived.Test.YticimniegecfeaaCurV2
import Derived.Test.YticimniegecfeaaSame
import Derived.Test.YticimniegecfeaaOpenB
import Derived.Test.YticimniegecfeaaFacts
namespace Go.Proofs.Yticimniegecfeaa
open Go.ChangeShapes Go.WideShapes Go.ChangeAt Go.RowKit
set_option linter.unusedVariables false

theorem decR_some (a b c d f code : Int) : (decR a b c d f code).isSome = decG a b c d f code := by
  unfold decR
  cases decG a b c d f code <;> rfl
/-- The first value of CountVotes fits. -/
theorem cntK_step (P : Nat → Bool) (k : Nat) : cntK P (k + 1) = cntK P k + b2i (P k) := rfl

namespace lawVoteCounts
set_option maxRecDepth 100000 in
set_option maxHeartbeats 4000000 in
theorem walk (A0 : Option Addr) (l0 : List Int) (c0 : Nat) (A1 : Option Addr) (l1 : List Int) (c1 : Nat) (w : World) (r0 : RdB w A0 l0) (b0 : l0.length ≤ c0) (m0 : c0 ≤ maxLen) (z0 : A0 = none → c0 = 0) (f0 : ∀ n ∈ l0, 0 ≤ n ∧ n ≤ 255) (r1 : RdB w A1 l1) (b1 : l1.length ≤ c1) (m1 : c1 ≤ maxLen) (z1 : A1 = none → c1 = 0) (f1 : ∀ n ∈ l1, 0 ≤ n ∧ n ≤ 255) :
    Calls Try.prog 12 #[.slice A0 l0.length c0, .slice A1 l1.length c1] w fun e w' => e = .returned (.bool true) ∧ Ext w w' := by
  clear z0 z1 r1 f1
  generalize hn0 : l0.length = n0 at *
  generalize hn1 : l1.length = n1 at *
  have Hn0 := Lib.hid hn0
  clear hn0 hn1
  by_cases hbig : 1048576 < n0 + n1
  · go_enter Try.func12, Try.ntmps12
    go_wp2_with fail
    refine (big_any A0 A1 n0 n1 c0 c1 _ (Nat.le_trans b0 m0) (Nat.le_trans b1 m1)).mono ?_
    rintro e w1 ⟨he, rfl⟩
    rw [decide_eq_true hbig] at he
    subst he
    go_wp2
    go_ret
    exact ⟨rfl, Ext.refl _⟩
  go_enter Try.func12, Try.ntmps12
  go_wp2_with fail
  refine (big_any A0 A1 n0 n1 c0 c1 _ (Nat.le_trans b0 m0) (Nat.le_trans b1 m1)).mono ?_
  rintro e w1 ⟨he, rfl⟩
  rw [decide_eq_false hbig] at he
  subst he
  go_wp2_with fail
  refine (DrawCountVotes_any A0 n0 c0 l0 _ r0 Hn0.out (by omega) f0).mono ?_
  rintro e w2 ⟨a, b, c, d, f, rfl, E⟩
  have B := Blk.new w2 94 #[.int .i64 a, .int .i64 b, .int .i64 c, .int .i64 d, .int .i64 f]
  replace E := E.alloc (.cells #[.int .i64 a, .int .i64 b, .int .i64 c, .int .i64 d, .int .i64 f] 94)
  have C := B.cells
  go_wp2_with fail
  refine (iCountVotes_any a b c d f _).mono ?_
  rintro e w3 ⟨rfl, hb⟩
  replace E := E.trans hb
  replace B := B.ext hb
  clear C hb
  have C := B.cells
  go_wp2_with fail
  refine (sCountVotes_any a b c d f _).mono ?_
  rintro e w4 ⟨rfl, hb⟩
  replace E := E.trans hb
  replace B := B.ext hb
  clear C hb
  have C := B.cells
  cases hv : validCt a b c d f
  · go_wp2
    go_ret
    exact ⟨rfl, E⟩
  by_cases hb3 : 3 < b
  · go_wp2
    go_ret
    exact ⟨rfl, E⟩
  obtain ⟨_, q2, _, q4, _, q6, _, q8, _⟩ := valid_kind hv
  obtain ⟨BN, rfl⟩ := Int.eq_ofNat_of_zero_le q2
  obtain ⟨F, rfl⟩ := Int.eq_ofNat_of_zero_le q4
  obtain ⟨CC, rfl⟩ := Int.eq_ofNat_of_zero_le q6
  obtain ⟨D, rfl⟩ := Int.eq_ofNat_of_zero_le q8
  by_cases h4 : a = 4 ∧ 2 < D
  · obtain ⟨rfl, h4⟩ := h4
    go_wp2
    go_ret
    exact ⟨rfl, E⟩
  have hl := vcl hv (by omega : BN ≤ 3) (fun e => by omega)
  have hcv : cvVal a BN CC D F = cntV a BN CC D F := by simp [cvVal, hv]
  have hfin : cntK (fun k => decG a BN CC D F k) 800 = cvVal a BN CC D F := by rw [hcv, hl]
  have HF := Lib.hid hfin
  have HV := Lib.hid hv
  generalize hcc : cvVal a BN CC D F = cv at *
  clear hcc hfin hl hcv q2 q4 q6 q8
  have hb3' : ¬ (3 : Int) < BN := hb3
  have ht : decide (a = 4) = false ∨ (a = 4 ∧ (D : Int) ≤ 2) := by
    by_cases h : a = 4
    · exact .inr ⟨h, by omega⟩
    · exact .inl (decide_eq_false h)
  generalize hg : w2.heap.size = g at *
  rcases ht with ht | ⟨ht, hd2⟩
  · have h4a : (a == 4) = false := by simpa using ht
    clear ht h4 hv hb3
    have E4 := E
    go_wp2_with fail
    go_loopw [10, 11] (fun m i wr => ∃ k : Nat, k ≤ 800 ∧ i = .int .i64 k ∧ m = .int .i64 (cntK (fun k => decG a BN CC D F k) k) ∧ Ext w4 wr) (fun _ i _ => 800 - (intOf i).toNat)
    case atStart => exact ⟨0, by omega, rfl, rfl, Ext.refl _⟩
    case round =>
      obtain ⟨k, hk, rfl, rfl, hE⟩ := hrel
      have C2 := (B.ext hE).cells
      by_cases hlt : k < 800
      · have hbd := cntK_bd (fun k => decG a BN CC D F k) k
        have hst := cntK_step (fun k => decG a BN CC D F k) k
        have hfit : Fits (k : Int) := by unfold Fits; omega
        obtain ⟨x, hx⟩ : ∃ x, cntK (fun k => decG a BN CC D F k) k = x := ⟨_, rfl⟩
        rw [hx] at hbd hst
        have HX := Lib.hid hx
        have HST := Lib.hid hst
        rw [hx]
        clear hx hst
        go_wp2_with fail
        refine (sDecodeVote_any a BN CC D F k _ hfit).mono ?_
        rintro e w5 ⟨A, n, c', he, _, hb⟩
        rw [decR_some] at he
        cases hdg : decG a BN CC D F k
        · rw [hdg] at he
          subst he
          have HDG := Lib.hid hdg
          clear hdg
          go_wp2
          go_roundw
          case rel => exact ⟨k + 1, by omega, by go_num, by rw [HST.out, HDG.out, b2i_false, Int.add_zero], hE.trans hb⟩
          case measure => simp [intOf]; omega
        · rw [hdg] at he
          subst he
          have HDG := Lib.hid hdg
          clear hdg
          go_wp2
          go_roundw
          case rel => exact ⟨k + 1, by omega, by go_num, by rw [HST.out, HDG.out, b2i_true], hE.trans hb⟩
          case measure => simp [intOf]; omega
      · obtain rfl : k = 800 := by omega
        rw [HF.out]
        go_wp2
        go_ret
        exact ⟨ret_bool (by simp), E4.trans hE⟩
  · subst ht
    have hd3 : ¬ (2 : Int) < D := by omega
    clear hd2 h4 hv hb3
    have E4 := E
    go_wp2_with fail
    go_loopw [10, 11] (fun m i wr => ∃ k : Nat, k ≤ 800 ∧ i = .int .i64 k ∧ m = .int .i64 (cntK (fun k => decG 4 BN CC D F k) k) ∧ Ext w4 wr) (fun _ i _ => 800 - (intOf i).toNat)
    case atStart => exact ⟨0, by omega, rfl, rfl, Ext.refl _⟩
    case round =>
      obtain ⟨k, hk, rfl, rfl, hE⟩ := hrel
      have C2 := (B.ext hE).cells
      by_cases hlt : k < 800
      · have hbd := cntK_bd (fun k => decG 4 BN CC D F k) k
        have hst := cntK_step (fun k => decG 4 BN CC D F k) k
        have hfit : Fits (k : Int) := by unfold Fits; omega
        obtain ⟨x, hx⟩ : ∃ x, cntK (fun k => decG 4 BN CC D F k) k = x := ⟨_, rfl⟩
        rw [hx] at hbd hst
        have HX := Lib.hid hx
        have HST := Lib.hid hst
        rw [hx]
        clear hx hst
        go_wp2_with fail
        refine (sDecodeVote_any 4 BN CC D F k _ hfit).mono ?_
        rintro e w5 ⟨A, n, c', he, _, hb⟩
        rw [decR_some] at he
        cases hdg : decG 4 BN CC D F k
        · rw [hdg] at he
          subst he
          have HDG := Lib.hid hdg
          clear hdg
          go_wp2
          go_roundw
          case rel => exact ⟨k + 1, by omega, by go_num, by rw [HST.out, HDG.out, b2i_false, Int.add_zero], hE.trans hb⟩
          case measure => simp [intOf]; omega
        · rw [hdg] at he
          subst he
          have HDG := Lib.hid hdg
          clear hdg
          go_wp2
          go_roundw
          case rel => exact ⟨k + 1, by omega, by go_num, by rw [HST.out, HDG.out, b2i_true], hE.trans hb⟩
          case measure => simp [intOf]; omega
      · obtain rfl : k = 800 := by omega
        rw [HF.out]
        go_wp2
        go_ret
        exact ⟨ret_bool (by simp), E4.trans hE⟩
end lawVoteCounts

set_option maxRecDepth 100000 in
theorem lawVoteCounts.lifted (os : Os) (started : os.Started) (H : Type) (enc : TypeId × Value → H) :
    ReturnsInHanded {} Try.checked os 12 .any (Rows.fnVoteCountsSpec.pre6 enc Try.prog Try.f12 Rows.fnVoteCountsRow.domain false) (Rows.fnVoteCountsSpec.post enc Try.prog Try.f12 false true false false) := by
  refine returnsInHanded_of_change (C := Try.checked) Facts.own started (by kernel_rfl) Try.func12
    (ChangeSpec.witness6 (enc := enc) (C := Try.checked) false ⟨#[], #[.slice none 0 0, .slice none 0 0], []⟩ 8 (by kernel_rfl) (by kernel_rfl) (by kernel_rfl) (by kernel_rfl)) ?_
  intro W base args ds gs before hval0 hW _ _
  have hval : ∀ (j : Nat) t v, Try.f12.params[j]? = some t → args[j]? = some v → Value.okWide Try.prog W .any base t v := hval0
  have hW' := hW
  obtain ⟨p, q, hA0, hV, rfl, hfz, hnd⟩ := hW
  have hA : DataW.TrodAll enc Try.prog W 0 (fun _ => true) true Try.f12.params.toList args.toList ds p := hA0
  rw [Try.params12] at hA hval
  obtain ⟨v0, vs0, d0, ds0, p0, q0, hargs, rfl, rfl, h0, r0⟩ := trodAll_cons hA
  obtain ⟨v1, vs1, d1, ds1, p1, q1, rfl, rfl, rfl, h1, r1⟩ := trodAll_cons r0
  obtain ⟨rfl, rfl, rfl⟩ := trodAll_nil r1
  obtain rfl : args = #[v0, v1] := by cases args; simp_all
  obtain ⟨rfl, rfl⟩ := trodVars_none hV
  have hlt := hW'.lt
  clear hA hA0 hval0 hargs r0 r1
  have k0 := h0
  have k1 := h1
  obtain ⟨A0, l0, c0, rfl, r0, b0, m0, z0, f0⟩ := openBS Try.underlying28 Try.underlying5 (by kernel_rfl) (hval 0 28 v0 rfl rfl) h0
  obtain ⟨A1, l1, c1, rfl, r1, b1, m1, z1, f1⟩ := openBS Try.underlying28 Try.underlying5 (by kernel_rfl) (hval 1 28 v1 rfl rfl) h1
  refine (lawVoteCounts.walk A0 l0 c0 A1 l1 c1 W r0 b0 m0 z0 f0 r1 b1 m1 z1 f1).mono fun e W' ⟨he, hg⟩ => ?_
  subst he
  exact ⟨_, rfl, post_below (pv := []) hW' (fun _ _ _ => (trodAll_cons_mk (shut_bool Try.underlying4 _) trodAll_mk0)) (fun sp hsp => (trodAll_cons_mk (WideElems.Trod_stays Facts.laidOut (by kernel_rfl) (of_decide_eq_true (by kernel_rfl)) k0 (fun x hx => hg.same (hlt x (by simp [hx]))) (fun x hx => hsp x (by simp [hx]))) (trodAll_cons_mk (WideElems.Trod_stays Facts.laidOut (by kernel_rfl) (of_decide_eq_true (by kernel_rfl)) k1 (fun x hx => hg.same (hlt x (by simp [hx]))) (fun x hx => hsp x (by simp [hx]))) trodAll_mk0))) (fun _ _ => rfl) rfl
    hg (ok_one (by kernel_rfl) rfl (okWide_bool_mk Try.underlying4 _))⟩

theorem lawVoteCounts.named : Try.pinned.checked.prog.funcNamed Rows.fnVoteCountsRow.func = some 12 := by kernel_rfl
theorem lawVoteCounts.z9 : (Rows.fnVoteCountsRow.inPlace == Try.prog.inPlace 12) = true := by kernel_rfl
theorem lawVoteCounts.z10 : (Rows.fnVoteCountsRow.unfollowed == Try.prog.unfollowed 12) = true := by kernel_rfl
theorem lawVoteCounts.z11 : (Rows.fnVoteCountsRow.recurses == Try.prog.recurses 12) = true := by kernel_rfl
theorem lawVoteCounts.z12 : (Rows.fnVoteCountsRow.named == Try.prog.varsNamed 12) = true := by kernel_rfl
theorem lawVoteCounts.closed : joinedFacts Try.prog 12 Try.f12 Rows.fnVoteCountsSpec Rows.fnVoteCountsRow = true :=
  joined_of (by kernel_rfl) Facts.laidOut Facts.mapsRowed (by kernel_rfl) (by kernel_rfl) (by kernel_rfl) (by kernel_rfl) (by kernel_rfl) (by kernel_rfl) lawVoteCounts.z9 lawVoteCounts.z10 lawVoteCounts.z11 lawVoteCounts.z12 (by kernel_rfl) (by kernel_rfl) (by kernel_rfl) (by kernel_rfl) (by kernel_rfl) (by kernel_rfl) (by kernel_rfl) (by kernel_rfl) (by kernel_rfl) (by rw [Facts.plainKeys]; rfl) (by kernel_rfl) Facts.heard Facts.enter (by rw [Facts.lifts]; rfl) (by rw [Facts.make]; rfl) (by kernel_rfl) (by kernel_rfl) (by kernel_rfl) (by kernel_rfl)
theorem lawVoteCounts.inst : Try.f12.isInstance Try.pinned.checked.prog Rows.fnVoteCountsRow.origin Rows.fnVoteCountsRow.targs := of_decide_eq_true (by kernel_rfl)
theorem lawVoteCounts.wrap : Try.f12.isWrapper Try.pinned.checked.prog Rows.fnVoteCountsRow.wrapper Rows.fnVoteCountsRow.mainSum := by
  unfold Func.isWrapper; first | (rw [if_pos (by decide +kernel)]; kernel_rfl) | (rw [if_neg (by decide +kernel)]; exact ⟨rfl, rfl⟩)
theorem lawVoteCounts.over : Rows.fnVoteCountsRow.holds Try.pinned (OpenSpec.ofChange Rows.fnVoteCountsSpec) :=
  OpenClaim.holds_of_wide 12 Try.f12 rfl rfl rfl rfl rfl rfl rfl ⟨rfl, rfl, rfl, rfl, rfl⟩ rfl rfl rfl rfl rfl lawVoteCounts.named Try.func12 lawVoteCounts.closed
    lawVoteCounts.inst lawVoteCounts.wrap (fun os started H enc _ => lawVoteCounts.lifted os started H enc)

theorem lawVoteCounts.proved : Rows.FnVoteCountsSaid := lawVoteCounts.over
#print axioms lawVoteCounts.proved
end Go.Proofs.Yticimniegecfeaa

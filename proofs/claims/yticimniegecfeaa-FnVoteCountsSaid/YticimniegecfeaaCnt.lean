/- Contracts for CountVotes: the program's and the reference's. -/
import Derived.Test.YticimniegecfeaaProg
import Derived.Test.YticimniegecfeaaCntP
import Derived.Test.YticimniegecfeaaPmat
import Derived.Test.YticimniegecfeaaApp
import Derived.Deep.RegionHeld3
import Derived.IntWalk
namespace Go.Proofs.Yticimniegecfeaa
open Go.RowKit

theorem getD_at {l : List Int} {i : Nat} (h : i < l.length) : l[i] = l.getD i 0 := by simp [List.getD, h]

set_option maxRecDepth 100000 in
set_option maxHeartbeats 2000000 in
theorem vScores_any (o p : Nat) (w : World) (ho : o ≤ 8) (hp : p ≤ 5) :
    Calls Try.prog 233 #[.int .i64 o, .int .i64 p] w fun e w' => ∃ A' m c', e = .returned (.slice A' m c') ∧ OwnI w' w.heap.size 3 A' m c' (scoresAt p o) ∧ Ext w w' := by
  have hO0 : OwnI (w.alloc (.cells #[.int .i64 1] 3)) w.heap.size 3 (some ⟨w.heap.size, 0, none⟩) 1 1 [1] := ownI_lit (n := 1) [1] rfl rfl (Nat.le_refl _) (by unfold maxLen; simp)
  go_enter Try.func233, Try.ntmps233
  go_wp2
  go_loopw [5, 6] (fun v i wr => ∃ (j : Nat) (A' : Option Addr) (m c' : Nat), j ≤ o ∧ i = .int .i64 j ∧ v = .slice A' m c' ∧ OwnI wr w.heap.size 3 A' m c' (scoresAt p j) ∧ Ext w wr) (fun _ i _ => o - (intOf i).toNat)
  case atStart => exact ⟨0, _, 1, 1, Nat.zero_le _, rfl, rfl, hO0, (Ext.refl w).alloc _⟩
  case round =>
    clear hO0
    obtain ⟨j, A', m, c', hj, rfl, rfl, hO, hE⟩ := hrel
    obtain ⟨wo, rfl⟩ : ∃ wo : World, wo = wr := ⟨_, rfl⟩
    by_cases hlt : j < o
    · have hm := hO.len
      have hm41 := scoresAt_len (o := j) hp (by omega)
      rw [hm] at hm41
      have hbd := fun i s hs => @cells_bd p j s hp (by omega) hs i
      have hsb := fun i => scoresAt_bd hp j (by omega) i
      have hp41 := pow41 (n := j) (by omega)
      have hnext : scoresAt p (j + 1) = rowsAt (scoresAt p j) p m := by rw [scoresAt, hm]
      have HNX := Lib.hid hnext
      have HBD := Lib.hid hbd
      have HSB := Lib.hid hsb
      have HM := Lib.hid hm
      have HP := Lib.hid hp41
      clear hm hbd hsb hnext hp41
      generalize scoresAt p j = ws at *
      have hwo := hE.size
      go_wp2_with (at_make; refine wpList_mkI intSl rfl _ _ rfl _ _ _ _ (m + p) rfl rfl (by push_cast; rfl) (by push_cast; rfl) (by omega) wo.heap.size (Nat.le_refl _) ?_; intro w1 hO1 hE1 hz1)
      go_loopw [24] (fun i wr => ∃ s : Nat, s ≤ m ∧ i = .int .i64 s ∧ OwnI wr wo.heap.size 3 (some ⟨wo.heap.size, 0, none⟩) (m + p) (m + p) (rowsAt ws p s) ∧ Ext wo wr) (fun i _ => m - (intOf i).toNat)
      case atStart => exact ⟨0, Nat.zero_le _, rfl, by rw [rowsAt, HM.out]; exact hO1, hE1⟩
      case round =>
        clear hO1 hE1 hz1
        obtain ⟨s, hs, rfl, hO1, hE1⟩ := hrel
        obtain ⟨wi, rfl⟩ : ∃ wi : World, wi = wr := ⟨_, rfl⟩
        by_cases hsl : s < m
        · obtain ⟨ad, rfl, hc⟩ := (hO.ext hE1).rd.at_ (show s < ws.length by rw [HM.out]; exact hsl)
          have hn1 := HSB.out s
          have hn2 := HP.out
          rw [getD_at] at hc
          have hrow : rowsAt ws p (s + 1) = addK (ws.getD s 0) s (p + 1) (rowsAt ws p s) := rfl
          have HR := Lib.hid hrow
          clear hrow
          have hrl := rowsAt_length ws p s
          rw [HM.out] at hrl
          have HRL := Lib.hid hrl
          clear hrl
          have hcell := fun i => HBD.out i s (by rw [HM.out]; exact hs)
          have HC := Lib.hid hcell
          clear hcell
          generalize ws.getD s 0 = n at *
          generalize rowsAt ws p s = l at *
          go_wp2
          go_loopw [10] (fun i wr => ∃ k : Nat, k ≤ p + 1 ∧ i = .int .i64 k ∧ OwnI wr wo.heap.size 3 (some ⟨wo.heap.size, 0, none⟩) (m + p) (m + p) (addK n s k l) ∧ Ext wo wr) (fun i _ => p + 1 - (intOf i).toNat)
          case atStart => exact ⟨0, Nat.zero_le _, rfl, hO1, hE1⟩
          case round =>
            clear hO1 hE1 hc
            obtain ⟨k, hk, rfl, hO1, hE1⟩ := hrel
            by_cases hkp : k ≤ p
            · have hil : s + k < (addK n s k l).length := by rw [addK_length, HRL.out]; omega
              obtain ⟨h1, h2⟩ := hO1.at0 (s + k) hil
              rw [getD_at] at h1
              have hg := addK_get n s k l (s + k)
              rw [if_neg (by omega), Int.add_zero] at hg
              have hb := HC.out (s + k)
              rw [hg] at h1
              have hO' := hO1.set (j := s + k) (l.getD (s + k) 0 + n)
              have hadd : (addK n s k l).set (s + k) (l.getD (s + k) 0 + n) = addK n s (k + 1) l := by rw [addK, hg]
              rw [hadd] at hO'
              clear hg hadd hil
              generalize l.getD (s + k) 0 = x at *
              have hf1 : 0 ≤ x + n := by omega
              have hf2 : x + n ≤ 20000000000000 := by omega
              go_wp2
              go_roundw
              case rel => exact ⟨k + 1, by omega, by go_num, hO', hE1.setCell (p := ⟨wo.heap.size, s + k, none⟩) (Nat.le_refl _) _⟩
              case measure => simp [intOf]; omega
            · obtain rfl : k = p + 1 := by omega
              rw [← HR.out] at hO1
              go_wp2
              go_roundw
              case rel => exact ⟨s + 1, by omega, by go_num, hO1, hE1⟩
              case measure => simp [intOf]; omega
        · obtain rfl : s = m := by omega
          rw [← HNX.out] at hO1
          go_wp2
          go_roundw
          case rel => exact ⟨j + 1, _, _, _, by omega, by go_num, rfl, hO1.more hwo, hE.trans hE1⟩
          case measure => simp [intOf]; omega
    · obtain rfl : j = o := by omega
      go_wp2
      go_ret
      exact ⟨_, _, _, rfl, hO, hE⟩

set_option maxRecDepth 100000 in
set_option maxHeartbeats 4000000 in
theorem countSums_any (a : Int) (o c d p : Nat) (w : World) (ho : o ≤ 8) (hp : p ≤ 5) (hd : d ≤ o * p) :
    Calls Try.prog 183 #[.agg #[.int .i64 a, .int .i64 o, .int .i64 c, .int .i64 d, .int .i64 p]] w fun e w' => e = .returned (.int .i64 (sumF (fun i => (scoresAt p o).getD i 0) c (d + 1))) ∧ Ext w w' := by
  have B0 := Blk.new w 94 #[.int .i64 a, .int .i64 o, .int .i64 c, .int .i64 d, .int .i64 p]
  have hO0 : OwnI ((w.alloc (.cells #[.int .i64 a, .int .i64 o, .int .i64 c, .int .i64 d, .int .i64 p] 94)).alloc (.cells #[.int .i64 1] 3)) w.heap.size 3 (some ⟨w.heap.size + 1, 0, none⟩) 1 1 [1] := ownI_lit (n := 1) [1] rfl (by simp) (by simp) (by unfold maxLen; simp)
  have hE0 : Ext w ((w.alloc (.cells #[.int .i64 a, .int .i64 o, .int .i64 c, .int .i64 d, .int .i64 p] 94)).alloc (.cells #[.int .i64 1] 3)) := ((Ext.refl w).alloc _).alloc _
  have B0' := B0.alloc (.cells #[.int .i64 1] 3)
  have C := B0'.cells
  have hdl : d + 1 ≤ 1 + o * p := by omega
  go_enter Try.func183, Try.ntmps183
  go_wp2
  go_loopw [3, 14] (fun v i wr => ∃ (j : Nat) (A' : Option Addr) (m c' : Nat), j ≤ o ∧ i = .int .i64 j ∧ v = .slice A' m c' ∧ OwnI wr w.heap.size 3 A' m c' (scoresAt p j) ∧ Ext w wr ∧ Blk wr w.heap.size 94 #[.int .i64 a, .int .i64 o, .int .i64 c, .int .i64 d, .int .i64 p]) (fun _ i _ => o - (intOf i).toNat)
  case atStart => exact ⟨0, _, 1, 1, Nat.zero_le _, rfl, rfl, hO0, hE0, B0'⟩
  case round =>
    clear hO0 hE0 B0' B0 C
    obtain ⟨j, A', m, c', hj, rfl, rfl, hO, hE, B⟩ := hrel
    obtain ⟨wo, rfl⟩ : ∃ wo : World, wo = wr := ⟨_, rfl⟩
    have C := B.cells
    have BB := Lib.hid B
    by_cases hlt : j < o
    · have hm := hO.len
      have hm41 := scoresAt_len (o := j) hp (by omega)
      rw [hm] at hm41
      have hbd := fun i s hs => @cells_bd p j s hp (by omega) hs i
      have hsb := fun i => scoresAt_bd hp j (by omega) i
      have hp41 := pow41 (n := j) (by omega)
      have hnext : scoresAt p (j + 1) = rowsAt (scoresAt p j) p m := by rw [scoresAt, hm]
      have HNX := Lib.hid hnext
      have HBD := Lib.hid hbd
      have HSB := Lib.hid hsb
      have HM := Lib.hid hm
      have HP := Lib.hid hp41
      clear hm hbd hsb hnext hp41
      generalize scoresAt p j = ws at *
      have hwo := hE.size
      go_wp2_with (at_make; refine wpList_mkI intSl rfl _ _ rfl _ _ _ _ (m + p) rfl rfl (by push_cast; rfl) (by push_cast; rfl) (by omega) wo.heap.size (Nat.le_refl _) ?_; intro w1 hO1 hE1 hz1)
      go_loopw [24] (fun i wr => ∃ s : Nat, s ≤ m ∧ i = .int .i64 s ∧ OwnI wr wo.heap.size 3 (some ⟨wo.heap.size, 0, none⟩) (m + p) (m + p) (rowsAt ws p s) ∧ Ext wo wr) (fun i _ => m - (intOf i).toNat)
      case atStart => exact ⟨0, Nat.zero_le _, rfl, by rw [rowsAt, HM.out]; exact hO1, hE1⟩
      case round =>
        clear hO1 hE1 hz1
        obtain ⟨s, hs, rfl, hO1, hE1⟩ := hrel
        obtain ⟨wi, rfl⟩ : ∃ wi : World, wi = wr := ⟨_, rfl⟩
        have C2 := (BB.out.ext hE1).cells
        by_cases hsl : s < m
        · obtain ⟨ad, rfl, hc⟩ := (hO.ext hE1).rd.at_ (show s < ws.length by rw [HM.out]; exact hsl)
          have hn1 := HSB.out s
          have hn2 := HP.out
          rw [getD_at] at hc
          have hrow : rowsAt ws p (s + 1) = addK (ws.getD s 0) s (p + 1) (rowsAt ws p s) := rfl
          have HR := Lib.hid hrow
          clear hrow
          have hrl := rowsAt_length ws p s
          rw [HM.out] at hrl
          have HRL := Lib.hid hrl
          clear hrl
          have hcell := fun i => HBD.out i s (by rw [HM.out]; exact hs)
          have HC := Lib.hid hcell
          clear hcell
          generalize ws.getD s 0 = n at *
          generalize rowsAt ws p s = l at *
          go_wp2
          go_loopw [32] (fun i wr => ∃ k : Nat, k ≤ p + 1 ∧ i = .int .i64 k ∧ OwnI wr wo.heap.size 3 (some ⟨wo.heap.size, 0, none⟩) (m + p) (m + p) (addK n s k l) ∧ Ext wo wr) (fun i _ => p + 1 - (intOf i).toNat)
          case atStart => exact ⟨0, Nat.zero_le _, rfl, hO1, hE1⟩
          case round =>
            clear hO1 hE1 hc C2
            obtain ⟨k, hk, rfl, hO1, hE1⟩ := hrel
            have C2 := (BB.out.ext hE1).cells
            by_cases hkp : k ≤ p
            · have hil : s + k < (addK n s k l).length := by rw [addK_length, HRL.out]; omega
              obtain ⟨h1, h2⟩ := hO1.at0 (s + k) hil
              rw [getD_at] at h1
              have hg := addK_get n s k l (s + k)
              rw [if_neg (by omega), Int.add_zero] at hg
              have hb := HC.out (s + k)
              rw [hg] at h1
              have hO' := hO1.set (j := s + k) (l.getD (s + k) 0 + n)
              have hadd : (addK n s k l).set (s + k) (l.getD (s + k) 0 + n) = addK n s (k + 1) l := by rw [addK, hg]
              rw [hadd] at hO'
              clear hg hadd hil
              generalize l.getD (s + k) 0 = x at *
              have hf1 : 0 ≤ x + n := by omega
              have hf2 : x + n ≤ 20000000000000 := by omega
              go_wp2
              go_roundw
              case rel => exact ⟨k + 1, by omega, by go_num, hO', hE1.setCell (p := ⟨wo.heap.size, s + k, none⟩) (Nat.le_refl _) _⟩
              case measure => simp [intOf]; omega
            · obtain rfl : k = p + 1 := by omega
              rw [← HR.out] at hO1
              go_wp2
              go_roundw
              case rel => exact ⟨s + 1, by omega, by go_num, hO1, hE1⟩
              case measure => simp [intOf]; omega
        · obtain rfl : s = m := by omega
          rw [← HNX.out] at hO1
          go_wp2
          go_roundw
          case rel => exact ⟨j + 1, _, _, _, by omega, by go_num, rfl, hO1.more hwo, hE.trans hE1, B.ext hE1⟩
          case measure => simp [intOf]; omega
    · obtain rfl : j = o := by omega
      have hm := hO.len
      have hm41 := scoresAt_len (o := j) hp ho
      have hml := scoresAt_length p j
      have hsb := fun i => scoresAt_bd hp j ho i
      have hp41 := pow41 (n := j) ho
      rw [hm] at hm41 hml
      have hfin := @sumF_cut (fun i => (scoresAt p j).getD i 0) c (d + 1) m (by omega)
      have HF := Lib.hid hfin
      have HSB := Lib.hid hsb
      have HM := Lib.hid hm
      have HP := Lib.hid hp41
      clear hm hsb hp41 hml hfin
      generalize hws : scoresAt p j = ws at *
      have HWS := Lib.hid hws
      clear hws
      go_wp2
      go_loop [8, 50] (fun q i => ∃ s : Nat, s ≤ m ∧ i = .int .i64 s ∧ q = .int .i64 (sumF (fun i => if i < d + 1 then ws.getD i 0 else 0) c s)) (fun _ i => m - (intOf i).toNat)
      case atStart => exact ⟨0, Nat.zero_le _, rfl, rfl⟩
      case round =>
        obtain ⟨s, hs, rfl, rfl⟩ := hrel
        by_cases hsl : s < m
        · obtain ⟨ad, rfl, hc⟩ := hO.rd.at_ (show s < ws.length by rw [HM.out]; exact hsl)
          have hn1 := HSB.out s
          have hn2 := HP.out
          rw [getD_at] at hc
          have hsum := sumF_bd (W := fun i => if i < d + 1 then ws.getD i 0 else 0) (M := 7984925229121) c s (fun i _ => by
            have h1 := HSB.out i
            have h2 := HP.out.1
            split <;> omega) (by omega)
          have hsm : (s : Int) * 7984925229121 ≤ 41 * 7984925229121 := by omega
          have hstep : sumF (fun i => if i < d + 1 then ws.getD i 0 else 0) c (s + 1) = sumF (fun i => if i < d + 1 then ws.getD i 0 else 0) c s + if c ≤ s then (if s < d + 1 then ws.getD s 0 else 0) else 0 := rfl
          have HST := Lib.hid hstep
          clear hstep
          generalize ws.getD s 0 = n at *
          generalize sumF (fun i => if i < d + 1 then ws.getD i 0 else 0) c s = q at *
          cases hin : inR (s : Int) c d
          · have hnn := inR_iff'.1 hin
            have hz : (if c ≤ s then (if s < d + 1 then n else 0) else 0) = 0 := by
              split
              · rw [if_neg (by omega)]
              · rfl
            have HZ := Lib.hid hz
            clear hz
            go_wp2_with fail
            refine (within_any _ _ _ _).mono ?_
            rintro e w1 ⟨he, rfl⟩
            rw [hin] at he; subst he
            go_wp2
            go_round
            case rel => exact ⟨s + 1, by omega, by go_num, by rw [HST.out, HZ.out, Int.add_zero]⟩
            case measure => simp [intOf]; omega
          · have hnn := inR_iff.1 hin
            have hz : (if c ≤ s then (if s < d + 1 then n else 0) else 0) = n := by rw [if_pos (by omega), if_pos (by omega)]
            have HZ := Lib.hid hz
            clear hz
            go_wp2_with fail
            refine (within_any _ _ _ _).mono ?_
            rintro e w1 ⟨he, rfl⟩
            rw [hin] at he; subst he
            go_wp2
            go_round
            case rel => exact ⟨s + 1, by omega, by go_num, by rw [HST.out, HZ.out]⟩
            case measure => simp [intOf]; omega
        · obtain rfl : s = m := by omega
          rw [HF.out]
          go_wp2
          go_ret
          exact ⟨ret_int (by rw [HWS.out]), hE⟩

set_option maxRecDepth 100000 in
set_option maxHeartbeats 4000000 in
theorem vCount1 (o c d p : Nat) (w : World) (ho : o ≤ 8) (hcd : c ≤ d) (hd : d ≤ o * 1) :
    Calls Try.prog 185 #[.agg #[.int .i64 1, .int .i64 o, .int .i64 c, .int .i64 d, .int .i64 p]] w fun e w' => e = .returned (.int .i64 (sumF (fun i => (scoresAt 1 o).getD i 0) c (d + 1))) ∧ Ext w w' := by
  have hE := (Ext.refl w).alloc (.cells #[.int .i64 1, .int .i64 o, .int .i64 c, .int .i64 d, .int .i64 p] 94)
  have C := (Blk.new w 94 #[.int .i64 1, .int .i64 o, .int .i64 c, .int .i64 d, .int .i64 p]).cells
  have hml := scoresAt_length 1 o
  have hm41 := scoresAt_len (o := o) (p := 1) (by omega) ho
  have hsb := fun i => scoresAt_bd (p := 1) (by omega) o ho i
  have hp41 := pow41 (n := o) ho
  generalize hws : scoresAt 1 o = ws at *
  have HWS := Lib.hid hws
  have HML := Lib.hid hml
  have HSB := Lib.hid hsb
  have HP := Lib.hid hp41
  clear hws hml hsb hp41
  have H41 := Lib.hid hm41
  clear hm41
  go_enter Try.func185, Try.ntmps185
  go_wp2
  go_region_held3 (fun w' => w'.cell? ⟨w.heap.size, 0, none⟩ = some (.int .i64 1) ∧ w'.cell? ⟨w.heap.size, 1, none⟩ = some (.int .i64 o) ∧ w'.cell? ⟨w.heap.size, 2, none⟩ = some (.int .i64 c) ∧ w'.cell? ⟨w.heap.size, 3, none⟩ = some (.int .i64 d) ∧ w'.cell? ⟨w.heap.size, 4, none⟩ = some (.int .i64 p))
    (first | exact ⟨C 0, C 1, C 2, C 3, C 4⟩ | exact ⟨hb.cell (C 0), hb.cell (C 1), hb.cell (C 2), hb.cell (C 3), hb.cell (C 4)⟩)
    (first | (go_at_call 233; refine (vScores_any o 1 _ ho (by omega)).mono ?_; rintro e w1 ⟨A', m, c', rfl, hO, hb⟩; rw [HWS.out] at hO; have hm1 : d + 1 ≤ m := (by have h1 := hO.len; have h2 := HML.out; omega); have hm2 := hO.cap.1; obtain ⟨g, hA, _⟩ := hO.v.addr (by omega); subst hA; have hck : (c' = c) = False := eq_false (by omega); have hm3 := hO.cap.2; unfold maxLen at hm3; have k0 : (0 : Int) ≤ (d : Int) + 1 := (by omega); have k1 : (c : Int) ≤ (d : Int) + 1 := (by omega); have k2 : (d : Int) + 1 ≤ (c' : Int) := (by omega); have k4 : IntKind.i64.wrap ((d : Int) + 1) = (d : Int) + 1 := IntWalk.i64_in _ (by have := HML.out; have := H41.out; omega); have k3 : ((d : Int) + 1).toNat = d + 1 := (by omega)))
  go_wp2
  clear k0 k1 k2 k3 k4 C
  have hsl : ((d + 1 - c : Nat) : Int) = (d : Int) + 1 - c := by omega
  go_loop [3, 48] (fun q i => ∃ t : Nat, t ≤ d + 1 - c ∧ i = .int .i64 t ∧ q = .int .i64 (sumF (fun i => ws.getD i 0) c (c + t))) (fun _ i => d + 1 - c - (intOf i).toNat)
  case atStart => exact ⟨0, Nat.zero_le _, rfl, by rw [sumF_low _ _ _ (by omega)]⟩
  case round =>
    obtain ⟨t, ht, rfl, rfl⟩ := hrel
    by_cases htl : t < d + 1 - c
    · obtain ⟨hc1, _⟩ := hO.at0 (c + t) (by have := hO.len; omega)
      rw [getD_at] at hc1
      have hn1 := HSB.out (c + t)
      have hn2 := HP.out
      have h41 := H41.out
      have hln := hO.len
      have hsum := sumF_bd (W := fun i => ws.getD i 0) (M := 7984925229121) c (c + t) (fun i _ => by
        have h1 := HSB.out i
        have h2 := HP.out.1
        omega) (by omega)
      have hsm : ((c + t : Nat) : Int) * 7984925229121 ≤ 41 * 7984925229121 := by omega
      have hstep : sumF (fun i => ws.getD i 0) c (c + (t + 1)) = sumF (fun i => ws.getD i 0) c (c + t) + if c ≤ c + t then ws.getD (c + t) 0 else 0 := rfl
      rw [if_pos (Nat.le_add_right _ _)] at hstep
      have HST := Lib.hid hstep
      have HLN := Lib.hid hln
      clear hstep hln
      generalize ws.getD (c + t) 0 = n at *
      generalize sumF (fun i => ws.getD i 0) c (c + t) = q at *
      have hq1 : 0 ≤ q := hsum.1
      have hq2 : q ≤ 400000000000000 := by omega
      have hn3 : n ≤ 7984925229121 := by omega
      clear hsum hsm h41
      go_wp2
      go_round
      case rel => exact ⟨t + 1, by omega, by go_num, by rw [HST.out]⟩
      case measure => simp [intOf]; omega
    · obtain rfl : t = d + 1 - c := by omega
      have he : c + (d + 1 - c) = d + 1 := by omega
      rw [he]
      clear he
      go_wp2
      go_ret
      exact ⟨rfl, hE.drew.trans hb⟩

set_option maxRecDepth 100000 in
set_option maxHeartbeats 4000000 in
theorem vCount2 (o c d p : Nat) (w : World) (ho : o ≤ 8) (hp : p ≤ 5) (hcd : c ≤ d) (hd : d ≤ o * p) :
    Calls Try.prog 185 #[.agg #[.int .i64 2, .int .i64 o, .int .i64 c, .int .i64 d, .int .i64 p]] w fun e w' => e = .returned (.int .i64 (sumF (fun i => (scoresAt p o).getD i 0) c (d + 1))) ∧ Ext w w' := by
  have hE := (Ext.refl w).alloc (.cells #[.int .i64 2, .int .i64 o, .int .i64 c, .int .i64 d, .int .i64 p] 94)
  have C := (Blk.new w 94 #[.int .i64 2, .int .i64 o, .int .i64 c, .int .i64 d, .int .i64 p]).cells
  have hml := scoresAt_length p o
  have hm41 := scoresAt_len (o := o) (p := p) (by omega) ho
  have hsb := fun i => scoresAt_bd (p := p) (by omega) o ho i
  have hp41 := pow41 (n := o) ho
  generalize hws : scoresAt p o = ws at *
  have HWS := Lib.hid hws
  have HML := Lib.hid hml
  have HSB := Lib.hid hsb
  have HP := Lib.hid hp41
  clear hws hml hsb hp41
  have H41 := Lib.hid hm41
  clear hm41
  go_enter Try.func185, Try.ntmps185
  go_wp2
  go_region_held3 (fun w' => w'.cell? ⟨w.heap.size, 0, none⟩ = some (.int .i64 2) ∧ w'.cell? ⟨w.heap.size, 1, none⟩ = some (.int .i64 o) ∧ w'.cell? ⟨w.heap.size, 2, none⟩ = some (.int .i64 c) ∧ w'.cell? ⟨w.heap.size, 3, none⟩ = some (.int .i64 d) ∧ w'.cell? ⟨w.heap.size, 4, none⟩ = some (.int .i64 p))
    (first | exact ⟨C 0, C 1, C 2, C 3, C 4⟩ | exact ⟨hb.cell (C 0), hb.cell (C 1), hb.cell (C 2), hb.cell (C 3), hb.cell (C 4)⟩)
    (first | (go_at_call 233; refine (vScores_any o p _ ho (by omega)).mono ?_; rintro e w1 ⟨A', m, c', rfl, hO, hb⟩; rw [HWS.out] at hO; have hm1 : d + 1 ≤ m := (by have h1 := hO.len; have h2 := HML.out; omega); have hm2 := hO.cap.1; obtain ⟨g, hA, _⟩ := hO.v.addr (by omega); subst hA; have hck : (c' = c) = False := eq_false (by omega); have hm3 := hO.cap.2; unfold maxLen at hm3; have k0 : (0 : Int) ≤ (d : Int) + 1 := (by omega); have k1 : (c : Int) ≤ (d : Int) + 1 := (by omega); have k2 : (d : Int) + 1 ≤ (c' : Int) := (by omega); have k4 : IntKind.i64.wrap ((d : Int) + 1) = (d : Int) + 1 := IntWalk.i64_in _ (by have := HML.out; have := H41.out; omega); have k3 : ((d : Int) + 1).toNat = d + 1 := (by omega)))
  go_wp2
  clear k0 k1 k2 k3 k4 C
  have hsl : ((d + 1 - c : Nat) : Int) = (d : Int) + 1 - c := by omega
  go_loop [3, 70] (fun q i => ∃ t : Nat, t ≤ d + 1 - c ∧ i = .int .i64 t ∧ q = .int .i64 (sumF (fun i => ws.getD i 0) c (c + t))) (fun _ i => d + 1 - c - (intOf i).toNat)
  case atStart => exact ⟨0, Nat.zero_le _, rfl, by rw [sumF_low _ _ _ (by omega)]⟩
  case round =>
    obtain ⟨t, ht, rfl, rfl⟩ := hrel
    by_cases htl : t < d + 1 - c
    · obtain ⟨hc1, _⟩ := hO.at0 (c + t) (by have := hO.len; omega)
      rw [getD_at] at hc1
      have hn1 := HSB.out (c + t)
      have hn2 := HP.out
      have h41 := H41.out
      have hln := hO.len
      have hsum := sumF_bd (W := fun i => ws.getD i 0) (M := 7984925229121) c (c + t) (fun i _ => by
        have h1 := HSB.out i
        have h2 := HP.out.1
        omega) (by omega)
      have hsm : ((c + t : Nat) : Int) * 7984925229121 ≤ 41 * 7984925229121 := by omega
      have hstep : sumF (fun i => ws.getD i 0) c (c + (t + 1)) = sumF (fun i => ws.getD i 0) c (c + t) + if c ≤ c + t then ws.getD (c + t) 0 else 0 := rfl
      rw [if_pos (Nat.le_add_right _ _)] at hstep
      have HST := Lib.hid hstep
      have HLN := Lib.hid hln
      clear hstep hln
      generalize ws.getD (c + t) 0 = n at *
      generalize sumF (fun i => ws.getD i 0) c (c + t) = q at *
      have hq1 : 0 ≤ q := hsum.1
      have hq2 : q ≤ 400000000000000 := by omega
      have hn3 : n ≤ 7984925229121 := by omega
      clear hsum hsm h41
      go_wp2
      go_round
      case rel => exact ⟨t + 1, by omega, by go_num, by rw [HST.out]⟩
      case measure => simp [intOf]; omega
    · obtain rfl : t = d + 1 - c := by omega
      have he : c + (d + 1 - c) = d + 1 := by omega
      rw [he]
      clear he
      go_wp2
      go_ret
      exact ⟨rfl, hE.drew.trans hb⟩

set_option maxRecDepth 100000 in
set_option maxHeartbeats 4000000 in
theorem vCount3 (o c d : Nat) (p : Int) (w : World) (ho : o ≤ 8) (hd : d ≤ o) :
    Calls Try.prog 185 #[.agg #[.int .i64 3, .int .i64 o, .int .i64 c, .int .i64 d, .int .i64 p]] w fun e w' => e = .returned (.int .i64 (sumF (rkW o) c (d + 1))) ∧ Ext w w' := by
  have hE := (Ext.refl w).alloc (.cells #[.int .i64 3, .int .i64 o, .int .i64 c, .int .i64 d, .int .i64 p] 94)
  have C := (Blk.new w 94 #[.int .i64 3, .int .i64 o, .int .i64 c, .int .i64 d, .int .i64 p]).cells
  go_enter Try.func185, Try.ntmps185
  go_wp2
  go_loop [3, 8, 9] (fun q n i => ∃ k : Nat, k ≤ d + 1 ∧ i = .int .i64 k ∧ n = .int .i64 ((rkW o) k) ∧ q = .int .i64 (sumF (rkW o) c k)) (fun _ _ i => d + 1 - (intOf i).toNat)
  case atStart => exact ⟨0, Nat.zero_le _, rfl, rfl, rfl⟩
  case round =>
    obtain ⟨k, hk, rfl, rfl, rfl⟩ := hrel
    by_cases hkd : k ≤ d
    · have hb1 := rkW_bd ho (show k ≤ o + 1 by omega)
      have hsum := sumF_bd (W := (rkW o)) (M := 1000000000) c k (fun i hi => by have := rkW_bd ho (show i ≤ o + 1 by omega); omega) (by omega)
      have hsm : (k : Int) * 1000000000 ≤ 10 * 1000000000 := by omega
      have hw : rkW o (k + 1) = rkW o k * ((o : Int) - k) := rfl
      have hst : sumF (rkW o) c (k + 1) = sumF (rkW o) c k + if c ≤ k then rkW o k else 0 := rfl
      have HW := Lib.hid hw
      clear hw
      have hm1 : 0 ≤ rkW o k * ((o : Int) - k) := Int.mul_nonneg hb1.1 (by omega)
      have hm2 : rkW o k * ((o : Int) - k) ≤ 100000 * 8 := Int.mul_le_mul hb1.2 (by omega) (by omega) (by omega)
      by_cases hck : c ≤ k
      · rw [if_pos hck] at hst
        have HST := Lib.hid hst
        clear hst
        generalize rkW o k = x at *
        generalize sumF (rkW o) c k = q at *
        have hq1 : 0 ≤ q := hsum.1
        have hq2 : q ≤ 10000000000 := by omega
        clear hsum hsm
        go_wp2
        go_round
        case rel => exact ⟨k + 1, by omega, by go_num, by rw [HW.out], by rw [HST.out]⟩
        case measure => simp [intOf]; omega
      · rw [if_neg hck, Int.add_zero] at hst
        have HST := Lib.hid hst
        clear hst
        generalize rkW o k = x at *
        generalize sumF (rkW o) c k = q at *
        clear hsum hsm
        go_wp2
        go_round
        case rel => exact ⟨k + 1, by omega, by go_num, by rw [HW.out], by rw [HST.out]⟩
        case measure => simp [intOf]; omega
    · obtain rfl : k = d + 1 := by omega
      go_wp2
      go_ret
      exact ⟨rfl, hE⟩

set_option maxRecDepth 100000 in
set_option maxHeartbeats 4000000 in
theorem vCount4 (o c d : Nat) (p : Int) (w : World) (hd : d ≤ 5) :
    Calls Try.prog 185 #[.agg #[.int .i64 4, .int .i64 o, .int .i64 c, .int .i64 d, .int .i64 p]] w fun e w' => e = .returned (.int .i64 (sumF wrW c (d + 1))) ∧ Ext w w' := by
  have hE := (Ext.refl w).alloc (.cells #[.int .i64 4, .int .i64 o, .int .i64 c, .int .i64 d, .int .i64 p] 94)
  have C := (Blk.new w 94 #[.int .i64 4, .int .i64 o, .int .i64 c, .int .i64 d, .int .i64 p]).cells
  go_enter Try.func185, Try.ntmps185
  go_wp2
  go_loop [3, 8, 9] (fun q n i => ∃ k : Nat, k ≤ d + 1 ∧ i = .int .i64 k ∧ n = .int .i64 (wrW k) ∧ q = .int .i64 (sumF wrW c k)) (fun _ _ i => d + 1 - (intOf i).toNat)
  case atStart => exact ⟨0, Nat.zero_le _, rfl, rfl, rfl⟩
  case round =>
    obtain ⟨k, hk, rfl, rfl, rfl⟩ := hrel
    by_cases hkd : k ≤ d
    · have hb1 := wrW_bd (show k ≤ 6 by omega)
      have hsum := sumF_bd (W := wrW) (M := 1000000000) c k (fun i hi => by have := wrW_bd (show i ≤ 6 by omega); omega) (by omega)
      have hsm : (k : Int) * 1000000000 ≤ 10 * 1000000000 := by omega
      have hw : wrW (k + 1) = wrW k * 26 := rfl
      have hst : sumF wrW c (k + 1) = sumF wrW c k + if c ≤ k then wrW k else 0 := rfl
      have HW := Lib.hid hw
      clear hw
      by_cases hck : c ≤ k
      · rw [if_pos hck] at hst
        have HST := Lib.hid hst
        clear hst
        generalize wrW k = x at *
        generalize sumF wrW c k = q at *
        have hq1 : 0 ≤ q := hsum.1
        have hq2 : q ≤ 10000000000 := by omega
        clear hsum hsm
        go_wp2
        go_round
        case rel => exact ⟨k + 1, by omega, by go_num, by rw [HW.out], by rw [HST.out]⟩
        case measure => simp [intOf]; omega
      · rw [if_neg hck, Int.add_zero] at hst
        have HST := Lib.hid hst
        clear hst
        generalize wrW k = x at *
        generalize sumF wrW c k = q at *
        clear hsum hsm
        go_wp2
        go_round
        case rel => exact ⟨k + 1, by omega, by go_num, by rw [HW.out], by rw [HST.out]⟩
        case measure => simp [intOf]; omega
    · obtain rfl : k = d + 1 := by omega
      go_wp2
      go_ret
      exact ⟨rfl, hE⟩
end Go.Proofs.Yticimniegecfeaa

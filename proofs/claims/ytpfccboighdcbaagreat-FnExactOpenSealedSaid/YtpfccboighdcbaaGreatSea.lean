/- Contracts for the greatest code of a contest's votes: the reference's and the program's. -/
import Derived.Test.YtpfccboighdcbaaGreatProg
import Derived.Test.YtpfccboighdcbaaGreatSeaP
import Derived.Test.YtpfccboighdcbaaGreatCnt2
namespace Go.Proofs.YtpfccboighdcbaaGreat
open Go.RowKit

theorem l1Least_min (x y : Int) (w : World) : Calls Tryz.prog 130 #[.int .i64 x, .int .i64 y] w fun e w' => e = .returned (.int .i64 (if x < y then x else y)) ∧ w = w' := by
  by_cases h : x < y
  · rw [if_pos h]
    go_enter Tryz.func130, Tryz.ntmps130
    go_wp2
    go_ret
    exact ⟨rfl, rfl⟩
  · rw [if_neg h]
    go_enter Tryz.func130, Tryz.ntmps130
    go_wp2
    go_ret
    exact ⟨rfl, rfl⟩
theorem rep26_succ (j : Nat) : List.replicate j (26 : Int) ++ [26] = List.replicate (j + 1) 26 := by rw [List.replicate_succ']

set_option maxRecDepth 100000 in
set_option maxHeartbeats 2000000 in
theorem sGreatest1 (b c d f : Nat) (w : World) (hb : b ≤ 8) (_hf : f ≤ 5) (hd : d ≤ b) (hv : validCt 1 b c d f = true) : Calls Tryz.prog 67 #[.agg #[.int .i64 1, .int .i64 b, .int .i64 c, .int .i64 d, .int .i64 f]] w fun e w' => e = .returned (.int .i64 (gCode 1 b d f)) ∧ Ext w w' := by
  have HP := Lib.hid (gv_parts (a := 1) (b := b) (d := d) (f := f) hb (fun _ => hd) (fun h => absurd h (by decide)) (fun h => absurd h (by decide)) (.inl rfl))
  have HV := Lib.hid hv
  clear hv
  have hE0 := (Ext.refl w).alloc (.cells #[.int .i64 1, .int .i64 b, .int .i64 c, .int .i64 d, .int .i64 f] 38)
  have B := Blk.new w 38 #[.int .i64 1, .int .i64 b, .int .i64 c, .int .i64 d, .int .i64 f]
  have C := B.cells
  go_enter Tryz.func67, Tryz.ntmps67
  go_wp2
  go_loopw [3, 4] (fun v i wr => ∃ (j : Nat) (A' : Option Addr) (c' : Nat), j ≤ d ∧ i = .int .i64 ((b : Int) - d + j) ∧ v = .slice A' j c' ∧ OwnI wr (w.heap.size + 1) 3 A' j c' (iota ((b : Int) - d) j) ∧ Ext w wr ∧ Blk wr w.heap.size 38 #[.int .i64 1, .int .i64 b, .int .i64 c, .int .i64 d, .int .i64 f]) (fun _ i _ => (b - intOf i).toNat)
  case atStart => exact ⟨0, _, _, Nat.zero_le _, by simp, rfl, OwnI.nil _ _ _, hE0, B⟩
  case round =>
    clear hE0 B C
    obtain ⟨j, A', c', hj, rfl, rfl, hO, hE, B⟩ := hrel
    have C := B.cells
    have hsz : w.heap.size + 1 ≤ wr.heap.size := B.lt
    by_cases hlt : j < d
    · go_wp2_with (at_builtin; refine wpList_app1 intSl rfl _ _ rfl hO rfl rfl (by omega) hsz ?_; intro A2 c2 w2 hO2 hbB)
      rw [← iota_succ] at hO2
      go_roundw
      case rel => exact ⟨j + 1, A2, c2, by omega, by go_num, rfl, hO2, hE.then hbB (Nat.le_succ _), B.below hbB (Nat.lt_succ_self _)⟩
      case measure => simp [intOf]; omega
    · obtain rfl : d = j := by omega
      go_wp2_with fail
      refine (vCode_w _ _ _ _ _ _ _ _ (iota ((b : Int) - d) d) _ HV.out HP.out hO.rd hO.len (by omega)).mono ?_
      rintro e w9 ⟨rfl, hb9⟩
      go_wp2
      go_ret
      exact ⟨rfl, hE.trans hb9⟩

set_option maxRecDepth 100000 in
set_option maxHeartbeats 2000000 in
theorem sGreatest2 (b c d f : Nat) (w : World) (hb : b ≤ 8) (_hf : f ≤ 5) (hd : d ≤ 40) (hv : validCt 2 b c d f = true) : Calls Tryz.prog 67 #[.agg #[.int .i64 2, .int .i64 b, .int .i64 c, .int .i64 d, .int .i64 f]] w fun e w' => e = .returned (.int .i64 (gCode 2 b d f)) ∧ Ext w w' := by
  have HP := Lib.hid (gv_parts (a := 2) (b := b) (d := d) (f := f) hb (fun h => absurd h (by decide)) (fun h => absurd h (by decide)) (fun h => absurd h (by decide)) (.inr (.inl rfl)))
  have HV := Lib.hid hv
  clear hv
  have hE0 := (Ext.refl w).alloc (.cells #[.int .i64 2, .int .i64 b, .int .i64 c, .int .i64 d, .int .i64 f] 38)
  have B := Blk.new w 38 #[.int .i64 2, .int .i64 b, .int .i64 c, .int .i64 d, .int .i64 f]
  have C := B.cells
  go_enter Tryz.func67, Tryz.ntmps67
  go_wp2_with (at_make; refine wpList_mkI intSl rfl _ _ rfl _ _ _ _ b rfl rfl rfl rfl (by omega) (w.heap.size + 1) (by simp) ?_; intro w1 hO hE1 hz; have C1 := (B.ext hE1).cells)
  have gg : (w.alloc (.cells #[.int .i64 2, .int .i64 b, .int .i64 c, .int .i64 d, .int .i64 f] 38)).heap.size = w.heap.size + 1 := by simp
  rw [gg] at hO
  clear hz
  have hEw := hE0.trans hE1
  have B1 := B.ext hE1
  clear C C1 B hE1 gg
  go_loopw [5, 6] (fun q i wr => ∃ j : Nat, j ≤ b ∧ i = .int .i64 ((b : Int) - 1 - j) ∧ q = .int .i64 (tkR f d j) ∧ OwnI wr (w.heap.size + 1) 3 (some ⟨w.heap.size + 1, 0, none⟩) b b (List.replicate (b - j) 0 ++ tkL f d j) ∧ Ext w wr ∧ Blk wr w.heap.size 38 #[.int .i64 2, .int .i64 b, .int .i64 c, .int .i64 d, .int .i64 f]) (fun _ i _ => (intOf i + 1).toNat)
  case atStart => exact ⟨0, Nat.zero_le _, by simp, rfl, by simpa [tkL] using hO, hEw, B1⟩
  case round =>
    clear hO hEw B1 hE0
    obtain ⟨j, hj, rfl, rfl, hO, hE, B⟩ := hrel
    have C := B.cells
    by_cases hlt : j < b
    · have e1 : (b : Int) - 1 - j = ((b - 1 - j : Nat) : Int) := by omega
      have hx := tkR_bd (f := (f : Int)) (c := (d : Int)) (by omega) (by omega) j
      have hlj : b - 1 - j < (List.replicate (b - j) (0 : Int) ++ tkL f d j).length := by rw [List.length_append, List.length_replicate]; omega
      obtain ⟨h1, h2⟩ := hO.at0 (b - 1 - j) hlj
      obtain ⟨z, hz⟩ : ∃ z, (List.replicate (b - j) (0 : Int) ++ tkL f d j)[b - 1 - j] = z := ⟨_, rfl⟩
      rw [hz] at h1
      clear hz
      have hO' := hO.set (j := b - 1 - j) (if tkR f d j < f then tkR f d j else f)
      rw [pad_top _ hlt] at hO'
      have hr : tkR f d (j + 1) = tkR f d j - (if tkR f d j < f then tkR f d j else f) := rfl
      have hl : (if tkR f d j < f then tkR f d j else f) :: tkL f d j = tkL f d (j + 1) := rfl
      rw [hl] at hO'
      have hmin : (if (f : Int) < tkR f d j then (f : Int) else tkR f d j) = (if tkR f d j < f then tkR f d j else f) := by split <;> split <;> omega
      have hmb : 0 ≤ (if tkR f d j < f then tkR f d j else f) ∧ (if tkR f d j < f then tkR f d j else f) ≤ tkR f d j := by split <;> omega
      generalize hmv : (if tkR f d j < f then tkR f d j else f) = mv at *
      have HM := Lib.hid hmv
      have HR := Lib.hid hr
      clear hmv hr hl hlj
      have hst := (hO.set (j := b - 1 - j) mv)
      have hcl := (hst.at0 (b - 1 - j) (by rw [List.length_set, List.length_append, List.length_replicate]; omega)).1
      rw [List.getElem_set_self] at hcl
      clear hst
      have hmeas : (((b : Int) - 1 - (j + 1 : Nat)) + 1).toNat < (((b : Int) - 1 - j) + 1).toNat := by omega
      have e2 : ((b - 1 - j : Nat) : Int) - 1 = (b : Int) - 1 - ((j + 1 : Nat) : Int) := by omega
      rw [e1]
      rw [e1] at hmeas
      have E2 := Lib.hid e2
      have HME := Lib.hid hmeas
      clear e1 e2 hmeas
      generalize tkR f d j = rv at *
      generalize hk : b - 1 - j = k at *
      have HK := Lib.hid hk
      have hkb : k < b := by omega
      clear hk
      go_wp2_with fail
      refine (l1Least_min _ _ _).mono ?_
      rintro e w9 ⟨he, rfl⟩
      rw [HM.out] at he; subst he
      go_wp2
      go_roundw
      case rel => exact ⟨j + 1, by omega, by rw [← E2.out], by rw [HR.out], hO', hE.setCell (p := ⟨w.heap.size + 1, k, none⟩) (by first | (simp; done) | (simp; omega)) _, B.far (p := ⟨w.heap.size + 1, k, none⟩) (by first | (simp; done) | (simp; omega)) _⟩
      case measure => simp only [intOf]; rw [E2.out]; exact HME.out
    · obtain rfl : b = j := by omega
      rw [Nat.sub_self, List.replicate_zero, List.nil_append] at hO
      go_wp2_with fail
      refine (vCode_w _ _ _ _ _ _ _ _ (tkL f d b) _ HV.out HP.out hO.rd hO.len (by omega)).mono ?_
      rintro e w9 ⟨rfl, hb9⟩
      go_wp2
      go_ret
      exact ⟨rfl, hE.trans hb9⟩

set_option maxRecDepth 100000 in
set_option maxHeartbeats 2000000 in
theorem sGreatest3 (b c d f : Nat) (w : World) (hb : b ≤ 8) (_hf : f ≤ 5) (hd : d ≤ b) (hv : validCt 3 b c d f = true) : Calls Tryz.prog 67 #[.agg #[.int .i64 3, .int .i64 b, .int .i64 c, .int .i64 d, .int .i64 f]] w fun e w' => e = .returned (.int .i64 (gCode 3 b d f)) ∧ Ext w w' := by
  have HP := Lib.hid (gv_parts (a := 3) (b := b) (d := d) (f := f) hb (fun h => absurd h (by decide)) (fun _ => hd) (fun h => absurd h (by decide)) (.inr (.inr (.inl rfl))))
  have HV := Lib.hid hv
  clear hv
  have hE0 := (Ext.refl w).alloc (.cells #[.int .i64 3, .int .i64 b, .int .i64 c, .int .i64 d, .int .i64 f] 38)
  have B := Blk.new w 38 #[.int .i64 3, .int .i64 b, .int .i64 c, .int .i64 d, .int .i64 f]
  have C := B.cells
  go_enter Tryz.func67, Tryz.ntmps67
  go_wp2
  go_loopw [3, 7] (fun v i wr => ∃ (j : Nat) (A' : Option Addr) (c' : Nat), j ≤ d ∧ i = .int .i64 ((b : Int) - d + j) ∧ v = .slice A' j c' ∧ OwnI wr (w.heap.size + 1) 3 A' j c' (iota ((b : Int) - d) j) ∧ Ext w wr ∧ Blk wr w.heap.size 38 #[.int .i64 3, .int .i64 b, .int .i64 c, .int .i64 d, .int .i64 f]) (fun _ i _ => (b - intOf i).toNat)
  case atStart => exact ⟨0, _, _, Nat.zero_le _, by simp, rfl, OwnI.nil _ _ _, hE0, B⟩
  case round =>
    clear hE0 B C
    obtain ⟨j, A', c', hj, rfl, rfl, hO, hE, B⟩ := hrel
    have C := B.cells
    have hsz : w.heap.size + 1 ≤ wr.heap.size := B.lt
    by_cases hlt : j < d
    · go_wp2_with (at_builtin; refine wpList_app1 intSl rfl _ _ rfl hO rfl rfl (by omega) hsz ?_; intro A2 c2 w2 hO2 hbB)
      rw [← iota_succ] at hO2
      go_roundw
      case rel => exact ⟨j + 1, A2, c2, by omega, by go_num, rfl, hO2, hE.then hbB (Nat.le_succ _), B.below hbB (Nat.lt_succ_self _)⟩
      case measure => simp [intOf]; omega
    · obtain rfl : d = j := by omega
      go_wp2_with fail
      refine (vCode_w _ _ _ _ _ _ _ _ (iota ((b : Int) - d) d) _ HV.out HP.out hO.rd hO.len (by omega)).mono ?_
      rintro e w9 ⟨rfl, hb9⟩
      go_wp2
      go_ret
      exact ⟨rfl, hE.trans hb9⟩

set_option maxRecDepth 100000 in
set_option maxHeartbeats 2000000 in
theorem sGreatest4 (b c d f : Nat) (w : World) (hb : b ≤ 8) (_hf : f ≤ 5) (hd : d ≤ 5) (hv : validCt 4 b c d f = true) : Calls Tryz.prog 67 #[.agg #[.int .i64 4, .int .i64 b, .int .i64 c, .int .i64 d, .int .i64 f]] w fun e w' => e = .returned (.int .i64 (gCode 4 b d f)) ∧ Ext w w' := by
  have HP := Lib.hid (gv_parts (a := 4) (b := b) (d := d) (f := f) hb (fun h => absurd h (by decide)) (fun h => absurd h (by decide)) (fun _ => hd) (.inr (.inr (.inr rfl))))
  have HV := Lib.hid hv
  clear hv
  have hE0 := (Ext.refl w).alloc (.cells #[.int .i64 4, .int .i64 b, .int .i64 c, .int .i64 d, .int .i64 f] 38)
  have B := Blk.new w 38 #[.int .i64 4, .int .i64 b, .int .i64 c, .int .i64 d, .int .i64 f]
  have C := B.cells
  go_enter Tryz.func67, Tryz.ntmps67
  go_wp2
  go_loopw [3, 8] (fun v i wr => ∃ (j : Nat) (A' : Option Addr) (c' : Nat), j ≤ d ∧ i = .int .i64 ((j : Int)) ∧ v = .slice A' j c' ∧ OwnI wr (w.heap.size + 1) 3 A' j c' (List.replicate j 26) ∧ Ext w wr ∧ Blk wr w.heap.size 38 #[.int .i64 4, .int .i64 b, .int .i64 c, .int .i64 d, .int .i64 f]) (fun _ i _ => d - (intOf i).toNat)
  case atStart => exact ⟨0, _, _, Nat.zero_le _, rfl, rfl, OwnI.nil _ _ _, hE0, B⟩
  case round =>
    clear hE0 B C
    obtain ⟨j, A', c', hj, rfl, rfl, hO, hE, B⟩ := hrel
    have C := B.cells
    have hsz : w.heap.size + 1 ≤ wr.heap.size := B.lt
    by_cases hlt : j < d
    · go_wp2_with (at_builtin; refine wpList_app1 intSl rfl _ _ rfl hO rfl rfl (by omega) hsz ?_; intro A2 c2 w2 hO2 hbB)
      rw [rep26_succ] at hO2
      go_roundw
      case rel => exact ⟨j + 1, A2, c2, by omega, by go_num, rfl, hO2, hE.then hbB (Nat.le_succ _), B.below hbB (Nat.lt_succ_self _)⟩
      case measure => simp [intOf]; omega
    · obtain rfl : d = j := by omega
      go_wp2_with fail
      refine (vCode_w _ _ _ _ _ _ _ _ (List.replicate d 26) _ HV.out HP.out hO.rd hO.len (by omega)).mono ?_
      rintro e w9 ⟨rfl, hb9⟩
      go_wp2
      go_ret
      exact ⟨rfl, hE.trans hb9⟩

set_option maxRecDepth 100000 in
set_option maxHeartbeats 2000000 in
theorem iGreatest1 (b c d f : Nat) (w : World) (hb : b ≤ 8) (hf : f ≤ 5) (hd : d ≤ b) (hv : validCt 1 b c d f = true) : Calls Tryz.prog 79 #[.agg #[.int .i64 1, .int .i64 b, .int .i64 c, .int .i64 d, .int .i64 f]] w fun e w' => e = .returned (.int .i64 (gCode 1 b d f)) ∧ Ext w w' := by
  obtain ⟨d1, d2, d3, d4, d5⟩ := dg_facts (a := 1) (b := b) (d := d) (f := f) hb hf (fun _ => hd) (fun h => absurd h (by decide)) (fun h => absurd h (by decide)) (.inl rfl)
  have D1 := Lib.hid d1
  have D2 := Lib.hid d2
  have D3 := Lib.hid d3
  have D4 := Lib.hid d4
  have D5 := Lib.hid d5
  clear d1 d2 d3 d4 d5
  have HV := Lib.hid hv
  clear hv
  have hE0 := (Ext.refl w).alloc (.cells #[.int .i64 1, .int .i64 b, .int .i64 c, .int .i64 d, .int .i64 f] 38)
  have B := Blk.new w 38 #[.int .i64 1, .int .i64 b, .int .i64 c, .int .i64 d, .int .i64 f]
  have C := B.cells
  go_enter Tryz.func79, Tryz.ntmps79
  go_wp2
  go_loopw [3, 24] (fun v i wr => ∃ (j : Nat) (A' : Option Addr) (c' : Nat), j ≤ b ∧ i = .int .i64 ((j : Int)) ∧ v = .slice A' j c' ∧ OwnI wr (w.heap.size + 1) 3 A' j c' (dgA b d j) ∧ Ext w wr ∧ Blk wr w.heap.size 38 #[.int .i64 1, .int .i64 b, .int .i64 c, .int .i64 d, .int .i64 f]) (fun _ i _ => b - (intOf i).toNat)
  case atStart => exact ⟨0, _, _, Nat.zero_le _, rfl, rfl, ownI_lit [] rfl (by simp) (by simp) (Nat.zero_le _), hE0.alloc _, B.alloc _⟩
  case round =>
    clear hE0 B C
    obtain ⟨j, A', c', hj, rfl, rfl, hO, hE, B⟩ := hrel
    have C := B.cells
    have hsz : w.heap.size + 1 ≤ wr.heap.size := B.lt
    by_cases hlt : j < b
    · by_cases hge : (b : Int) - d ≤ (j : Int)
      · have hds : dgA b d j ++ [(1 : Int)] = dgA b d (j + 1) := by rw [dgA_succ, if_pos hge]
        have HDS := Lib.hid hds
        clear hds
        go_wp2_with (at_builtin; refine wpList_app1 intSl rfl _ _ rfl hO rfl rfl (by omega) hsz ?_; intro A2 c2 w2 hO2 hbB)
        rw [HDS.out] at hO2
        go_roundw
        case rel => exact ⟨j + 1, A2, c2, by omega, by go_num, rfl, hO2, hE.then hbB (Nat.le_succ _), B.below hbB (Nat.lt_succ_self _)⟩
        case measure => simp [intOf]; omega
      · have hds : dgA b d j ++ [(0 : Int)] = dgA b d (j + 1) := by rw [dgA_succ, if_neg hge]
        have HDS := Lib.hid hds
        clear hds
        go_wp2_with (at_builtin; refine wpList_app1 intSl rfl _ _ rfl hO rfl rfl (by omega) hsz ?_; intro A2 c2 w2 hO2 hbB)
        rw [HDS.out] at hO2
        go_roundw
        case rel => exact ⟨j + 1, A2, c2, by omega, by go_num, rfl, hO2, hE.then hbB (Nat.le_succ _), B.below hbB (Nat.lt_succ_self _)⟩
        case measure => simp [intOf]; omega
    · obtain rfl : b = j := by omega
      go_wp2_with fail
      refine (base_any _ _ _ _ _ _ HV.out).mono ?_
      rintro e w8 ⟨rfl, hb8⟩
      go_wp2_with fail
      refine (codeOf_any _ _ _ (dgA b d b) _ _ (hO.ext hb8).rd hO.len (by have h1 := hO.len; have h2 := D1.out; omega) D2.out D3.out D4.out).mono ?_
      rintro e w9 ⟨rfl, rfl⟩
      go_wp2
      go_ret
      exact ⟨ret_int D5.out, hE.trans hb8⟩

set_option maxRecDepth 100000 in
set_option maxHeartbeats 2000000 in
theorem iGreatest2 (b c d f : Nat) (w : World) (hb : b ≤ 8) (hf : f ≤ 5) (hd : d ≤ 40) (hv : validCt 2 b c d f = true) : Calls Tryz.prog 79 #[.agg #[.int .i64 2, .int .i64 b, .int .i64 c, .int .i64 d, .int .i64 f]] w fun e w' => e = .returned (.int .i64 (gCode 2 b d f)) ∧ Ext w w' := by
  obtain ⟨d1, d2, d3, d4, d5⟩ := dg_facts (a := 2) (b := b) (d := d) (f := f) hb hf (fun h => absurd h (by decide)) (fun h => absurd h (by decide)) (fun h => absurd h (by decide)) (.inr (.inl rfl))
  have D1 := Lib.hid d1
  have D2 := Lib.hid d2
  have D3 := Lib.hid d3
  have D4 := Lib.hid d4
  have D5 := Lib.hid d5
  clear d1 d2 d3 d4 d5
  have HV := Lib.hid hv
  clear hv
  have hE0 := (Ext.refl w).alloc (.cells #[.int .i64 2, .int .i64 b, .int .i64 c, .int .i64 d, .int .i64 f] 38)
  have B := Blk.new w 38 #[.int .i64 2, .int .i64 b, .int .i64 c, .int .i64 d, .int .i64 f]
  have C := B.cells
  go_enter Tryz.func79, Tryz.ntmps79
  go_wp2_with (at_make; refine wpList_mkI intSl rfl _ _ rfl _ _ _ _ b rfl rfl rfl rfl (by omega) (w.heap.size + 1 + 1) (by simp) ?_; intro w1 hO hE1 hz; have C1 := ((B.alloc (.cells #[] 3)).ext hE1).cells)
  have gg : ((w.alloc (.cells #[.int .i64 2, .int .i64 b, .int .i64 c, .int .i64 d, .int .i64 f] 38)).alloc (.cells #[] 3)).heap.size = w.heap.size + 1 + 1 := by simp
  rw [gg] at hO
  clear hz
  have hEw := (hE0.alloc (.cells #[] 3)).trans hE1
  have B1 := (B.alloc (.cells #[] 3)).ext hE1
  clear C C1 B hE1 gg
  go_loopw [6, 7] (fun q i wr => ∃ j : Nat, j ≤ b ∧ i = .int .i64 ((b : Int) - 1 - j) ∧ q = .int .i64 (tkR f d j) ∧ OwnI wr (w.heap.size + 1 + 1) 3 (some ⟨w.heap.size + 1 + 1, 0, none⟩) b b (List.replicate (b - j) 0 ++ tkL f d j) ∧ Ext w wr ∧ Blk wr w.heap.size 38 #[.int .i64 2, .int .i64 b, .int .i64 c, .int .i64 d, .int .i64 f]) (fun _ i _ => (intOf i + 1).toNat)
  case atStart => exact ⟨0, Nat.zero_le _, by simp, rfl, by simpa [tkL] using hO, hEw, B1⟩
  case round =>
    clear hO hEw B1 hE0
    obtain ⟨j, hj, rfl, rfl, hO, hE, B⟩ := hrel
    have C := B.cells
    by_cases hlt : j < b
    · have e1 : (b : Int) - 1 - j = ((b - 1 - j : Nat) : Int) := by omega
      have hx := tkR_bd (f := (f : Int)) (c := (d : Int)) (by omega) (by omega) j
      have hlj : b - 1 - j < (List.replicate (b - j) (0 : Int) ++ tkL f d j).length := by rw [List.length_append, List.length_replicate]; omega
      obtain ⟨h1, h2⟩ := hO.at0 (b - 1 - j) hlj
      obtain ⟨z, hz⟩ : ∃ z, (List.replicate (b - j) (0 : Int) ++ tkL f d j)[b - 1 - j] = z := ⟨_, rfl⟩
      rw [hz] at h1
      clear hz
      have hO' := hO.set (j := b - 1 - j) (if tkR f d j < f then tkR f d j else f)
      rw [pad_top _ hlt] at hO'
      have hr : tkR f d (j + 1) = tkR f d j - (if tkR f d j < f then tkR f d j else f) := rfl
      have hl : (if tkR f d j < f then tkR f d j else f) :: tkL f d j = tkL f d (j + 1) := rfl
      rw [hl] at hO'
      have hmin : (if (f : Int) < tkR f d j then (f : Int) else tkR f d j) = (if tkR f d j < f then tkR f d j else f) := by split <;> split <;> omega
      have hmb : 0 ≤ (if tkR f d j < f then tkR f d j else f) ∧ (if tkR f d j < f then tkR f d j else f) ≤ tkR f d j := by split <;> omega
      generalize hmv : (if tkR f d j < f then tkR f d j else f) = mv at *
      have HM := Lib.hid hmv
      have HR := Lib.hid hr
      clear hmv hr hl hlj
      have hst := (hO.set (j := b - 1 - j) mv)
      have hcl := (hst.at0 (b - 1 - j) (by rw [List.length_set, List.length_append, List.length_replicate]; omega)).1
      rw [List.getElem_set_self] at hcl
      clear hst
      have hmeas : (((b : Int) - 1 - (j + 1 : Nat)) + 1).toNat < (((b : Int) - 1 - j) + 1).toNat := by omega
      have e2 : ((b - 1 - j : Nat) : Int) - 1 = (b : Int) - 1 - ((j + 1 : Nat) : Int) := by omega
      rw [e1]
      rw [e1] at hmeas
      have E2 := Lib.hid e2
      have HME := Lib.hid hmeas
      clear e1 e2 hmeas
      generalize tkR f d j = rv at *
      generalize hk : b - 1 - j = k at *
      have HK := Lib.hid hk
      have hkb : k < b := by omega
      clear hk
      go_wp2
      go_roundw
      case rel => exact ⟨j + 1, by omega, by rw [← E2.out], by rw [HR.out], hO', hE.setCell (p := ⟨w.heap.size + 1 + 1, k, none⟩) (by first | (simp; done) | (simp; omega)) _, B.far (p := ⟨w.heap.size + 1 + 1, k, none⟩) (by first | (simp; done) | (simp; omega)) _⟩
      case measure => simp only [intOf]; rw [E2.out]; exact HME.out
    · obtain rfl : b = j := by omega
      rw [Nat.sub_self, List.replicate_zero, List.nil_append] at hO
      go_wp2_with fail
      refine (base_any _ _ _ _ _ _ HV.out).mono ?_
      rintro e w8 ⟨rfl, hb8⟩
      go_wp2_with fail
      refine (codeOf_any _ _ _ (tkL f d b) _ _ (hO.ext hb8).rd hO.len (by have h1 := hO.len; have h2 := D1.out; omega) D2.out D3.out D4.out).mono ?_
      rintro e w9 ⟨rfl, rfl⟩
      go_wp2
      go_ret
      exact ⟨ret_int D5.out, hE.trans hb8⟩

set_option maxRecDepth 100000 in
set_option maxHeartbeats 2000000 in
theorem iGreatest3 (b c d f : Nat) (w : World) (hb : b ≤ 8) (hf : f ≤ 5) (hd : d ≤ b) (hv : validCt 3 b c d f = true) : Calls Tryz.prog 79 #[.agg #[.int .i64 3, .int .i64 b, .int .i64 c, .int .i64 d, .int .i64 f]] w fun e w' => e = .returned (.int .i64 (gCode 3 b d f)) ∧ Ext w w' := by
  obtain ⟨d1, d2, d3, d4, d5⟩ := dg_facts (a := 3) (b := b) (d := d) (f := f) hb hf (fun h => absurd h (by decide)) (fun _ => hd) (fun h => absurd h (by decide)) (.inr (.inr (.inl rfl)))
  have D1 := Lib.hid d1
  have D2 := Lib.hid d2
  have D3 := Lib.hid d3
  have D4 := Lib.hid d4
  have D5 := Lib.hid d5
  clear d1 d2 d3 d4 d5
  have HV := Lib.hid hv
  clear hv
  have hE0 := (Ext.refl w).alloc (.cells #[.int .i64 3, .int .i64 b, .int .i64 c, .int .i64 d, .int .i64 f] 38)
  have B := Blk.new w 38 #[.int .i64 3, .int .i64 b, .int .i64 c, .int .i64 d, .int .i64 f]
  have C := B.cells
  go_enter Tryz.func79, Tryz.ntmps79
  go_wp2
  go_loopw [3, 70] (fun v i wr => ∃ (j : Nat) (A' : Option Addr) (c' : Nat), j ≤ d ∧ i = .int .i64 ((j : Int)) ∧ v = .slice A' j c' ∧ OwnI wr (w.heap.size + 1) 3 A' j c' (iota ((b : Int) - d + 1) j) ∧ Ext w wr ∧ Blk wr w.heap.size 38 #[.int .i64 3, .int .i64 b, .int .i64 c, .int .i64 d, .int .i64 f]) (fun _ i _ => d - (intOf i).toNat)
  case atStart => exact ⟨0, _, _, Nat.zero_le _, rfl, rfl, ownI_lit [] rfl (by simp) (by simp) (Nat.zero_le _), hE0.alloc _, B.alloc _⟩
  case round =>
    clear hE0 B C
    obtain ⟨j, A', c', hj, rfl, rfl, hO, hE, B⟩ := hrel
    have C := B.cells
    have hsz : w.heap.size + 1 ≤ wr.heap.size := B.lt
    by_cases hlt : j < d
    · have hds : iota ((b : Int) - d + 1) j ++ [(b : Int) - d + 1 + j] = iota ((b : Int) - d + 1) (j + 1) := (iota_succ _ _).symm
      have HDS := Lib.hid hds
      clear hds
      go_wp2_with (at_builtin; refine wpList_app1 intSl rfl _ _ rfl hO rfl rfl (by omega) hsz ?_; intro A2 c2 w2 hO2 hbB)
      rw [HDS.out] at hO2
      go_roundw
      case rel => exact ⟨j + 1, A2, c2, by omega, by go_num, rfl, hO2, hE.then hbB (Nat.le_succ _), B.below hbB (Nat.lt_succ_self _)⟩
      case measure => simp [intOf]; omega
    · obtain rfl : d = j := by omega
      go_wp2_with fail
      refine (base_any _ _ _ _ _ _ HV.out).mono ?_
      rintro e w8 ⟨rfl, hb8⟩
      go_wp2_with fail
      refine (codeOf_any _ _ _ (iota ((b : Int) - d + 1) d) _ _ (hO.ext hb8).rd hO.len (by have h1 := hO.len; have h2 := D1.out; omega) D2.out D3.out D4.out).mono ?_
      rintro e w9 ⟨rfl, rfl⟩
      go_wp2
      go_ret
      exact ⟨ret_int D5.out, hE.trans hb8⟩

set_option maxRecDepth 100000 in
set_option maxHeartbeats 2000000 in
theorem iGreatest4 (b c d f : Nat) (w : World) (hb : b ≤ 8) (hf : f ≤ 5) (hd : d ≤ 5) (hv : validCt 4 b c d f = true) : Calls Tryz.prog 79 #[.agg #[.int .i64 4, .int .i64 b, .int .i64 c, .int .i64 d, .int .i64 f]] w fun e w' => e = .returned (.int .i64 (gCode 4 b d f)) ∧ Ext w w' := by
  obtain ⟨d1, d2, d3, d4, d5⟩ := dg_facts (a := 4) (b := b) (d := d) (f := f) hb hf (fun h => absurd h (by decide)) (fun h => absurd h (by decide)) (fun _ => hd) (.inr (.inr (.inr rfl)))
  have D1 := Lib.hid d1
  have D2 := Lib.hid d2
  have D3 := Lib.hid d3
  have D4 := Lib.hid d4
  have D5 := Lib.hid d5
  clear d1 d2 d3 d4 d5
  have HV := Lib.hid hv
  clear hv
  have hE0 := (Ext.refl w).alloc (.cells #[.int .i64 4, .int .i64 b, .int .i64 c, .int .i64 d, .int .i64 f] 38)
  have B := Blk.new w 38 #[.int .i64 4, .int .i64 b, .int .i64 c, .int .i64 d, .int .i64 f]
  have C := B.cells
  go_enter Tryz.func79, Tryz.ntmps79
  go_wp2
  go_loopw [3, 14] (fun v i wr => ∃ (j : Nat) (A' : Option Addr) (c' : Nat), j ≤ d ∧ i = .int .i64 ((j : Int)) ∧ v = .slice A' j c' ∧ OwnI wr (w.heap.size + 1) 3 A' j c' (List.replicate j 26) ∧ Ext w wr ∧ Blk wr w.heap.size 38 #[.int .i64 4, .int .i64 b, .int .i64 c, .int .i64 d, .int .i64 f]) (fun _ i _ => d - (intOf i).toNat)
  case atStart => exact ⟨0, _, _, Nat.zero_le _, rfl, rfl, ownI_lit [] rfl (by simp) (by simp) (Nat.zero_le _), hE0.alloc _, B.alloc _⟩
  case round =>
    clear hE0 B C
    obtain ⟨j, A', c', hj, rfl, rfl, hO, hE, B⟩ := hrel
    have C := B.cells
    have hsz : w.heap.size + 1 ≤ wr.heap.size := B.lt
    by_cases hlt : j < d
    · go_wp2_with (at_builtin; refine wpList_app1 intSl rfl _ _ rfl hO rfl rfl (by omega) hsz ?_; intro A2 c2 w2 hO2 hbB)
      rw [rep26_succ] at hO2
      go_roundw
      case rel => exact ⟨j + 1, A2, c2, by omega, by go_num, rfl, hO2, hE.then hbB (Nat.le_succ _), B.below hbB (Nat.lt_succ_self _)⟩
      case measure => simp [intOf]; omega
    · obtain rfl : d = j := by omega
      go_wp2_with fail
      refine (base_any _ _ _ _ _ _ HV.out).mono ?_
      rintro e w8 ⟨rfl, hb8⟩
      go_wp2_with fail
      refine (codeOf_any _ _ _ (List.replicate d 26) _ _ (hO.ext hb8).rd hO.len (by have h1 := hO.len; have h2 := D1.out; omega) D2.out D3.out D4.out).mono ?_
      rintro e w9 ⟨rfl, rfl⟩
      go_wp2
      go_ret
      exact ⟨ret_int D5.out, hE.trans hb8⟩

theorem bGreatest_any (a : Int) (b c d f : Nat) (w : World) (h : validCt a b c d f = true) : Calls Tryz.prog 67 #[.agg #[.int .i64 a, .int .i64 b, .int .i64 c, .int .i64 d, .int .i64 f]] w fun e w' => e = .returned (.int .i64 (gCode a b d f)) ∧ Ext w w' := by
  obtain ⟨h0, _, _, _, _, _, _, _, hd40⟩ := valid_kind h
  obtain ⟨h1, h2, h3, h4, h5, h6, h7⟩ := valid_more h
  rcases h0 with rfl | rfl | rfl | rfl
  · exact sGreatest1 b c d f w h2 h3 (h4 rfl) h
  · exact sGreatest2 b c d f w h2 h3 (by omega) h
  · exact sGreatest3 b c d f w h2 h3 (h6 rfl) h
  · exact sGreatest4 b c d f w h2 h3 (h7 rfl) h
theorem greatest_any (a : Int) (b c d f : Nat) (w : World) (h : validCt a b c d f = true) : Calls Tryz.prog 79 #[.agg #[.int .i64 a, .int .i64 b, .int .i64 c, .int .i64 d, .int .i64 f]] w fun e w' => e = .returned (.int .i64 (gCode a b d f)) ∧ Ext w w' := by
  obtain ⟨h0, _, _, _, _, _, _, _, hd40⟩ := valid_kind h
  obtain ⟨h1, h2, h3, h4, h5, h6, h7⟩ := valid_more h
  rcases h0 with rfl | rfl | rfl | rfl
  · exact iGreatest1 b c d f w h2 h3 (h4 rfl) h
  · exact iGreatest2 b c d f w h2 h3 (by omega) h
  · exact iGreatest3 b c d f w h2 h3 (h6 rfl) h
  · exact iGreatest4 b c d f w h2 h3 (h7 rfl) h
theorem bRows_any (a b c d f : Int) (w : World) : Calls Tryz.prog 68 #[.agg #[.int .i64 a, .int .i64 b, .int .i64 c, .int .i64 d, .int .i64 f]] w fun e w' => e = .returned (.bool (decide (a = 1 ∨ a = 2))) ∧ Ext w w' := by
  have hE := (Ext.refl w).alloc (.cells #[.int .i64 a, .int .i64 b, .int .i64 c, .int .i64 d, .int .i64 f] 38)
  by_cases h1 : a = 1
  · subst h1
    go_enter Tryz.func68, Tryz.ntmps68
    go_wp2
    go_ret
    exact ⟨rfl, hE⟩
  · have hz : (a == 1) = false := by simp [h1]
    by_cases h2 : a = 2
    · subst h2
      go_enter Tryz.func68, Tryz.ntmps68
      go_wp2
      go_ret
      exact ⟨rfl, hE⟩
    · have hz2 : (a == 2) = false := by simp [h2]
      go_enter Tryz.func68, Tryz.ntmps68
      go_wp2
      go_ret
      exact ⟨ret_bool (by simp [h1, h2]), hE⟩
theorem isForm_any (a b c d f : Int) (w : World) : Calls Tryz.prog 43 #[.agg #[.int .i64 a, .int .i64 b, .int .i64 c, .int .i64 d, .int .i64 f]] w fun e w' => e = .returned (.bool (decide (a = 1 ∨ a = 2))) ∧ Ext w w' := by
  have hE := (Ext.refl w).alloc (.cells #[.int .i64 a, .int .i64 b, .int .i64 c, .int .i64 d, .int .i64 f] 38)
  by_cases h1 : a = 1
  · subst h1
    go_enter Tryz.func43, Tryz.ntmps43
    go_wp2
    go_ret
    exact ⟨rfl, hE⟩
  · have hz : (a == 1) = false := by simp [h1]
    by_cases h2 : a = 2
    · subst h2
      go_enter Tryz.func43, Tryz.ntmps43
      go_wp2
      go_ret
      exact ⟨rfl, hE⟩
    · have hz2 : (a == 2) = false := by simp [h2]
      go_enter Tryz.func43, Tryz.ntmps43
      go_wp2
      go_ret
      exact ⟨ret_bool (by simp [h1, h2]), hE⟩
end Go.Proofs.YtpfccboighdcbaaGreat

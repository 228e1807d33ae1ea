/- The sides of a list of ciphertexts, the reference's. -/
import Derived.Test.YtnhdohjlbchniaaGreatProg
import Derived.Test.YtnhdohjlbchniaaGreatLies
import Derived.Test.YtnhdohjlbchniaaGreatCiph
namespace Go.Proofs.YtnhdohjlbchniaaGreat
open Go.RowKit
set_option linter.unusedVariables false
set_option linter.unusedSimpArgs false

theorem side_take {l : List (Int × Int)} {j : Nat} (h : j < l.length) : (l.take (j + 1)).map Prod.fst = (l.take j).map Prod.fst ++ [l[j].1] ∧ (l.take (j + 1)).map Prod.snd = (l.take j).map Prod.snd ++ [l[j].2] := by
  constructor <;> (rw [List.take_succ_eq_append_getElem h, List.map_append]; rfl)
set_option maxHeartbeats 2000000 in
theorem mSides_any (A : Option Addr) (n c : Nat) (l : List (Int × Int)) (w : World) (ha : RdC w A l) (hl : l.length = n) (hn : n ≤ 1000000) :
    Calls Tryz.prog 44 #[.slice A n c] w fun e w' => ∃ (U : Option Addr) (c1 : Nat) (V : Option Addr) (c2 : Nat), e = .returned (.tuple #[.slice U n c1, .slice V n c2]) ∧ OwnI w' w.heap.size 3 U n c1 (l.map Prod.fst) ∧ OwnI w' w.heap.size 3 V n c2 (l.map Prod.snd) ∧ Apart (fpI U) (fpI V) ∧ Ext w w' := by
  have HL := Lib.hid hl
  clear hl
  have hn9 : n ≤ 9223372036854775807 := by omega
  go_enter Tryz.func44, Tryz.ntmps44
  go_wp2
  go_loopw [4, 5, 10] (fun x y i wr => ∃ (j : Nat) (U V : Option Addr) (c1 c2 : Nat), j ≤ n ∧ i = .int .i64 j ∧ x = .slice U j c1 ∧ y = .slice V j c2 ∧ OwnI wr w.heap.size 3 U j c1 ((l.take j).map Prod.fst) ∧ OwnI wr w.heap.size 3 V j c2 ((l.take j).map Prod.snd) ∧ Apart (fpI U) (fpI V) ∧ Ext w wr) (fun _ _ i _ => n - (intOf i).toNat)
  case atStart => exact ⟨0, none, none, 0, 0, Nat.zero_le _, rfl, rfl, rfl, OwnI.nil _ _ _, OwnI.nil _ _ _, (fun b hb => by simp [fpI] at hb), Ext.refl _⟩
  case round =>
    obtain ⟨j, U, V, c1, c2, hj, rfl, rfl, rfl, hU, hV, hap, E⟩ := hrel
    by_cases hlt : j < n
    · have hlt' : j < l.length := by rw [HL.out]; exact hlt
      obtain ⟨ad, rfl, hc, hd⟩ := (ha.ext E).at_ hlt'
      have htk := side_take hlt'
      generalize l[j] = y at *
      obtain ⟨y1, y2⟩ := y
      simp only at hc hd htk
      have HT1 := Lib.hid htk.1
      have HT2 := Lib.hid htk.2
      clear htk
      have hX := (Ext.refl wr).alloc (.cells #[.int .i64 y1, .int .i64 y2] 54)
      have BX := Blk.new wr 54 #[.int .i64 y1, .int .i64 y2]
      have E1 := E.trans hX
      have hU1 := hU.ext hX
      have hV1 := hV.ext hX
      have CX := BX.cells
      have hsz1 := E1.size
      have hsz := E.size
      go_wp2_with (at_builtin; first | (refine wpList_app1F intSl rfl _ _ rfl hU1 rfl rfl (by first | rfl | (simp; done)) (by omega) hsz1 ?_; intro U2 d1 w2 hU2 hon hlies; have hV2 := hV1.only hon hap.symm; have hap2 : Apart (fpI U2) (fpI V) := hap.app hV1.low hlies; have E2 := E1.only hon hU1.high; have BX2 := BX.only hon (fun hh => by have := hU.low _ hh; omega); have CX2 := BX2.cells; have hsz2 := E2.size; clear CX) | (refine wpList_app1F intSl rfl _ _ rfl hV2 rfl rfl (by first | rfl | (simp; done)) (by omega) hsz2 ?_; intro V2 d2 w3 hV3 hon2 hlies2))
      have hU3 := hU2.only hon2 hap2
      have hap3 : Apart (fpI V2) (fpI U2) := hap2.symm.app hU2.low hlies2
      rw [← HT1.out] at hU3
      rw [← HT2.out] at hV3
      go_roundw
      case rel => exact ⟨j + 1, U2, V2, d1, d2, by omega, by go_num, rfl, rfl, hU3, hV3, hap3.symm, E2.only hon2 hV2.high⟩
      case measure => first | (simp [intOf]; done) | (simp [intOf]; omega)
    · obtain rfl : j = n := by omega
      rw [List.take_of_length_le (by rw [HL.out]; exact Nat.le_refl _)] at hU hV
      go_wp2
      go_ret2
      exact ⟨U, c1, V, c2, rfl, hU, hV, hap, E⟩
-- MLISTED (printed by tools/gen_sid.py)
def fl2 : List (Int × Int) → List Int
  | [] => []
  | y :: t => y.1 :: y.2 :: fl2 t
theorem fl2_append (a b : List (Int × Int)) : fl2 (a ++ b) = fl2 a ++ fl2 b := by
  induction a with
  | nil => rfl
  | cons y t ih => simp [fl2, ih]
theorem fl2_take {l : List (Int × Int)} {j : Nat} (h : j < l.length) : fl2 (l.take (j + 1)) = fl2 (l.take j) ++ [l[j].1, l[j].2] := by
  rw [List.take_succ_eq_append_getElem h, fl2_append]
  rfl
/-- The list that the challenges of a matrix proof hash. -/
def mlL (key : Int) (a b : List (Int × Int)) (r : List Int) : List Int := [key] ++ fl2 a ++ fl2 b ++ r
set_option maxHeartbeats 4000000 in
theorem mListed_any (key : Int) (A : Option Addr) (n c : Nat) (B : Option Addr) (m d : Nat) (R : Option Addr) (s e : Nat) (a b : List (Int × Int)) (r : List Int) (w : World) (ha : RdC w A a) (hla : a.length = n) (hb : RdC w B b) (hlb : b.length = m) (hr : RdI w R r) (hlr : r.length = s) (hn : n ≤ 1000000) (hm : m ≤ 1000000) (hs : s ≤ 1000000) :
    Calls Tryz.prog 83 #[.int .i64 key, .slice A n c, .slice B m d, .slice R s e] w fun en w' => ∃ (U : Option Addr) (k c1 : Nat), en = .returned (.slice U k c1) ∧ OwnI w' w.heap.size 3 U k c1 (mlL key a b r) ∧ Ext w w' := by
  have HA := Lib.hid hla
  have HB := Lib.hid hlb
  have HR := Lib.hid hlr
  clear hla hlb hlr
  have hn9 : n ≤ 9223372036854775807 := by omega
  have hm9 : m ≤ 9223372036854775807 := by omega
  have h0 := ownI_lit (w := w) (e := 3) [key] rfl rfl (Nat.le_refl _) (by simp only [List.length_cons, List.length_nil]; unfold maxLen; omega)
  have e0 := (Ext.refl w).alloc (.cells #[.int .i64 key] 3)
  go_enter Tryz.func83, Tryz.ntmps83
  go_wp2
  go_loopw [9, 18] (fun x i wr => ∃ (j : Nat) (U : Option Addr) (c1 : Nat), j ≤ n ∧ i = .int .i64 j ∧ x = .slice U (1 + 2 * j) c1 ∧ OwnI wr w.heap.size 3 U (1 + 2 * j) c1 ([key] ++ fl2 (a.take j)) ∧ Ext w wr) (fun _ i _ => n - (intOf i).toNat)
  case atStart => exact ⟨0, _, _, Nat.zero_le _, rfl, rfl, h0, e0⟩
  case round =>
    obtain ⟨j, U, c1, hj, rfl, rfl, hU, E⟩ := hrel
    by_cases hlt : j < n
    · have hlt' : j < a.length := by rw [HA.out]; exact hlt
      obtain ⟨ad, rfl, hc, hd⟩ := (ha.ext E).at_ hlt'
      have htk := fl2_take hlt'
      generalize a[j] = y at *
      obtain ⟨y1, y2⟩ := y
      simp only at hc hd htk
      have HT := Lib.hid htk
      clear htk
      have hX := ((Ext.refl wr).alloc (.cells #[.int .i64 y1, .int .i64 y2] 54)).alloc (.cells #[.int .i64 y1, .int .i64 y2] 3)
      have hlit := ownI_lit (w := wr.alloc (.cells #[.int .i64 y1, .int .i64 y2] 54)) (e := 3) [y1, y2] rfl rfl (Nat.le_refl _) (by simp only [List.length_cons, List.length_nil]; unfold maxLen; omega)
      simp only [World.size_alloc] at hlit
      have E1 := E.trans hX
      have hU1 := hU.ext hX
      have CX := (Blk.new wr 54 #[.int .i64 y1, .int .i64 y2]).cells
      have hsz1 := E1.size
      go_wp2_with (at_builtin; refine wpList_appL (m := 2) intSl rfl _ _ rfl hU1 rfl hlit.rd rfl rfl (by omega) hsz1 ?_; intro U2 d1 w2 hU2 hb2)
      rw [List.append_assoc, ← HT.out] at hU2
      go_roundw
      case rel => exact ⟨j + 1, U2, d1, by omega, by go_num, rfl, hU2, E1.then hb2 (Nat.le_refl _)⟩
      case measure => first | (simp [intOf]; done) | (simp [intOf]; omega)
    · obtain rfl : j = n := by omega
      rw [List.take_of_length_le (by rw [HA.out]; exact Nat.le_refl _)] at hU
      have hUin := hU
      have Ein := E
      clear hU E
      go_wp2
      go_loopw [9, 32] (fun x i wr => ∃ (k2 : Nat) (U : Option Addr) (c1 : Nat), k2 ≤ m ∧ i = .int .i64 k2 ∧ x = .slice U (1 + 2 * j + 2 * k2) c1 ∧ OwnI wr w.heap.size 3 U (1 + 2 * j + 2 * k2) c1 (([key] ++ fl2 a) ++ fl2 (b.take k2)) ∧ Ext w wr) (fun _ i _ => m - (intOf i).toNat)
      case atStart => exact ⟨0, U, c1, Nat.zero_le _, rfl, rfl, by simpa [fl2] using hUin, Ein⟩
      case round =>
        obtain ⟨k2, U, c1, hj, rfl, rfl, hU, E⟩ := hrel
        by_cases hlt : k2 < m
        · have hlt' : k2 < b.length := by rw [HB.out]; exact hlt
          obtain ⟨ad, rfl, hc, hd⟩ := (hb.ext E).at_ hlt'
          have htk := fl2_take hlt'
          generalize b[k2] = y at *
          obtain ⟨y1, y2⟩ := y
          simp only at hc hd htk
          have HT := Lib.hid htk
          clear htk
          have hX := ((Ext.refl wr).alloc (.cells #[.int .i64 y1, .int .i64 y2] 54)).alloc (.cells #[.int .i64 y1, .int .i64 y2] 3)
          have hlit := ownI_lit (w := wr.alloc (.cells #[.int .i64 y1, .int .i64 y2] 54)) (e := 3) [y1, y2] rfl rfl (Nat.le_refl _) (by simp only [List.length_cons, List.length_nil]; unfold maxLen; omega)
          simp only [World.size_alloc] at hlit
          have E1 := E.trans hX
          have hU1 := hU.ext hX
          have CX := (Blk.new wr 54 #[.int .i64 y1, .int .i64 y2]).cells
          have hsz1 := E1.size
          go_wp2_with (at_builtin; refine wpList_appL (m := 2) intSl rfl _ _ rfl hU1 rfl hlit.rd rfl rfl (by omega) hsz1 ?_; intro U2 d1 w2 hU2 hb2)
          rw [List.append_assoc, ← HT.out] at hU2
          go_roundw
          case rel => exact ⟨k2 + 1, U2, d1, by omega, by go_num, rfl, hU2, E1.then hb2 (Nat.le_refl _)⟩
          case measure => first | (simp [intOf]; done) | (simp [intOf]; omega)
        · obtain rfl : k2 = m := by omega
          rw [List.take_of_length_le (by rw [HB.out]; exact Nat.le_refl _)] at hU
          have hsz3 := E.size
          go_wp2_with (at_builtin; refine wpList_appL (m := s) intSl rfl _ _ rfl hU rfl (hr.ext E) HR.out rfl (by omega) hsz3 ?_; intro U2 d1 w2 hU2 hb2)
          go_ret
          exact ⟨U2, _, d1, rfl, hU2, E.then hb2 (Nat.le_refl _)⟩
end Go.Proofs.YtnhdohjlbchniaaGreat

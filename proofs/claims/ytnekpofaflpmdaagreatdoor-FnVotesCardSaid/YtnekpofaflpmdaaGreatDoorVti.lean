/- Contracts for VoteText: the program's text of a vote. -/
import Derived.Test.YtnekpofaflpmdaaGreatDoorProg
import Derived.Test.YtnekpofaflpmdaaGreatDoorVtt
namespace Go.Proofs.YtnekpofaflpmdaaGreatDoor
open Go.RowKit
def wrdT (a k : Int) : ByteArray := if a = 4 then chrS (byI (97 + k - 1)) else chrS (byI (48 + k))
def sepT (a : Int) : List UInt8 := if a = 4 then [] else [44]
def sepJ (a : Int) (j : Nat) : ByteArray := if j = 0 ∨ a ≠ 4 then ⟨#[44]⟩ else ⟨#[]⟩
theorem join_vt (a : Int) : ∀ v : List Int, Lib.join (v.map fun k => (wrdT a k).data.toList) (sepT a) = vtJ a v
  | [] => rfl
  | [x] => by
    rw [List.map_cons, List.map_nil, Lib.join_one]
    by_cases h : a = 4 <;> simp [vtJ, wrdT, h, chrS]
  | x :: y :: l => by
    have ih := join_vt a (y :: l)
    rw [List.map_cons, Lib.join_cons] at ih ⊢
    rw [List.map_cons, Lib.joinTail, List.map_cons, List.flatten_cons]
    rw [show vtJ a (x :: y :: l) = (wrdT a x).data.toList ++ (sepT a ++ vtJ a (y :: l)) by by_cases h : a = 4 <;> simp [vtJ, wrdT, sepT, h, chrS], ← ih]
    simp [Lib.joinTail]
set_option maxHeartbeats 1000000 in
set_option maxRecDepth 100000 in
theorem voteText_any (a b c d f : Int) (A : Option Addr) (n k : Nat) (v : List Int) (w : World) (ha : RdI w A v) (hl : v.length = n) (hn : n ≤ 1048576) (hk : n ≤ k ∧ k ≤ maxLen) (hv : vtOK a v) :
    Calls Tryz.prog 24 #[.agg #[.int .i64 a, .int .i64 b, .int .i64 c, .int .i64 d, .int .i64 f], .slice A n k] w fun e w' => e = .returned (.string (vtT a v)) ∧ Ext w w' := by
  have HL := Lib.hid hl
  clear hl
  have B0 := Blk.new w 25 #[.int .i64 a, .int .i64 b, .int .i64 c, .int .i64 d, .int .i64 f]
  have E0 := (Ext.refl w).alloc (.cells #[.int .i64 a, .int .i64 b, .int .i64 c, .int .i64 d, .int .i64 f] 25)
  have hX0 : OwnW 1 ((w.alloc (.cells #[.int .i64 a, .int .i64 b, .int .i64 c, .int .i64 d, .int .i64 f] 25)).alloc (.cells #[] 9)) (w.heap.size + 1) 9 (some ⟨w.heap.size + 1, 0, none⟩) 0 0 (strV []) := by
    have h := World.ownsRow_lit (base := w.heap.size + 1) (e := 9) (size := 1) (w.alloc (.cells #[.int .i64 a, .int .i64 b, .int .i64 c, .int .i64 d, .int .i64 f] 25)) #[] 0 (by simp) (by unfold maxLen; omega) rfl
    rw [World.size_alloc] at h
    exact h
  go_enter Tryz.func24, Tryz.ntmps24
  go_wp2
  generalize hW : w.alloc _ = W at *
  have E1 := (Ext.refl W).alloc (.cells #[] 9)
  generalize hV : W.alloc _ = V at *
  go_loopw [5, 6, 13] (fun s y i wr => ∃ (j : Nat) (X : Option Addr) (e : Nat), j ≤ n ∧ i = .int .i64 j ∧ s = .slice X j e ∧ y = .string (sepJ a j) ∧ OwnW 1 wr (w.heap.size + 1) 9 X j e (strV ((v.take j).map (wrdT a))) ∧ Ext W wr) (fun _ _ i _ => n - (intOf i).toNat)
  case atStart => exact ⟨0, _, _, Nat.zero_le _, rfl, rfl, by simp [sepJ], hX0, E1⟩
  case round =>
    obtain ⟨j, X, q, hj, rfl, rfl, rfl, hX, E⟩ := hrel
    have B := B0.ext E
    have C := B.cells
    have hsz := E.size
    have hszW : W.heap.size = w.heap.size + 1 := by rw [← hW]; simp
    by_cases hlt : j < n
    · have hjv : j < v.length := by rw [HL.out]; exact hlt
      obtain ⟨ad, rfl, hc⟩ := (ha.ext (E0.trans E)).at_ hjv
      have hx := hv _ (List.getElem_mem hjv)
      have hs : (v.take j).map (wrdT a) ++ [wrdT a v[j]] = (v.take (j + 1)).map (wrdT a) := by
        rw [show v.take (j + 1) = v.take j ++ [v[j]] by simp, List.map_append]; rfl
      generalize v[j] = x at *
      obtain ⟨m, rfl⟩ : ∃ m : Nat, x = (m : Int) := ⟨x.toNat, by split at hx <;> omega⟩
      by_cases h4 : a = 4
      · subst h4
        rw [if_pos rfl] at hx
        have HS := Lib.hid hs
        clear hs
        have HC := Lib.hid (run_chr (b := byI (97 + (m : Int) - 1)) (c := 1) wr (y := 97 + (m : Int) - 1) (byI_eq (by omega) (by omega)) rfl)
        have E2 := E.alloc (.cells #[.int .u8 (97 + (m : Int) - 1)] 5)
        have hsz2 := E2.size
        go_wp2_with fail
        refine (Tryz.strconv_Itoa_small m (by omega) _).mono ?_
        rintro e w1 ⟨rfl, rfl⟩
        go_wp2_with fail
        rw [HC.out]
        simp only [Result.andThen]
        rw [Oper.upon_value]
        go_wp2_with (at_builtin; refine wpList_app1S (b := chrS (byI (97 + (m : Int) - 1))) strSl rfl _ _ rfl (hX.ext ((Ext.refl _).alloc _)) rfl rfl (by simp) (by omega) (by omega) ?_; intro A2 d2 w2 hO2 hb2)
        go_roundw
        case rel => exact ⟨j + 1, A2, d2, by omega, by go_num, rfl, by simp [sepJ], by rw [← HS.out]; simpa [wrdT] using hO2, E2.then hb2 (by omega)⟩
        case measure => simp [intOf]; omega
      · rw [if_neg h4] at hx
        have hB4 : (a == 4) = false := by simpa using h4
        have hd : (⟨(Lib.decDigits m).toArray⟩ : ByteArray) = wrdT a m := by
          rw [wrdT, if_neg h4, Lib.decDigits, dif_pos (by omega), chrS, byI, show (48 + (m : Int)).toNat = 48 + m by omega]
        have HS := Lib.hid hs
        clear hs
        have HJ := Lib.hid (show sepJ a (j + 1) = sepJ a j by simp [sepJ, h4])
        go_wp2_with fail
        refine (Tryz.strconv_Itoa_small m (by omega) _).mono ?_
        rintro e w1 ⟨rfl, rfl⟩
        rw [hd]
        generalize wrdT a m = z at *
        go_wp2_with (at_builtin; refine wpList_app1S (b := z) strSl rfl _ _ rfl hX rfl rfl rfl (by omega) (by omega) ?_; intro A2 d2 w2 hO2 hb2)
        go_roundw
        case rel => exact ⟨j + 1, A2, d2, by omega, by go_num, rfl, by rw [HJ.out], by rw [← HS.out]; exact hO2, E.then hb2 (by omega)⟩
        case measure => simp [intOf]; omega
    · obtain rfl : j = n := by omega
      have htk : v.take j = v := List.take_of_length_le (by rw [HL.out]; exact Nat.le_refl _)
      rw [htk] at hX
      clear htk
      by_cases h0 : j = 0
      · subst h0
        obtain rfl : v = [] := List.eq_nil_of_length_eq_zero HL.out
        go_wp2
        go_ret
        exact ⟨rfl, E0.trans E⟩
      · obtain ⟨g, rfl, hg⟩ := hX.addr (by omega)
        have hB0 : ((j : Int) == 0) = false := by simp; omega
        have hsp : sepJ a j = ⟨(sepT a).toArray⟩ := by
          by_cases h4 : a = 4 <;> simp [sepJ, sepT, h4, h0]
        have HJ : Lib.join ((v.map (wrdT a)).map (·.data.toList)) (⟨(sepT a).toArray⟩ : ByteArray).data.toList = vtJ a v := by
          rw [← join_vt a v, List.map_map]; rfl
        have hne : v ≠ [] := by rintro rfl; exact h0 HL.out.symm
        have hV : vtT a v = ⟨(vtJ a v).toArray⟩ := by rw [vtT, if_neg hne]
        have hml : (v.map (wrdT a)).length = j := by rw [List.length_map]; exact HL.out
        have hq := hX.cap
        have hJn := Tryz.strings_Join g 0 q (v.map (wrdT a)) ⟨(sepT a).toArray⟩ wr (fun i x hi => by
            obtain ⟨hi1, hi2⟩ := List.getElem?_eq_some_iff.1 hi
            have h1 := (hX.at0 i (by simpa [strV] using hi1)).1
            rw [Nat.zero_add, h1]; simp [strV] at hi2 ⊢; exact hi2)
          (hX.lt _ rfl).2 (by omega) (by omega) (by rw [HJ]; have := vtJ_len a v; have := HL.out; omega)
        rw [hml, HJ, ← hV] at hJn
        have HJn := Lib.hid hJn
        rw [hsp]
        clear hJn HJ hV hml hsp hne
        go_wp2_with fail
        refine HJn.out.mono ?_
        rintro e w1 ⟨rfl, hb⟩
        go_wp2
        go_ret
        exact ⟨rfl, E0.trans (E.then hb hsz)⟩
set_option maxHeartbeats 1000000 in
theorem iVoteText_any (a b c d f : Int) (A : Option Addr) (n k : Nat) (v : List Int) (w : World) (ha : RdI w A v) (hl : v.length = n) (hn : n ≤ 1048576) (hk : n ≤ k ∧ k ≤ maxLen) :
    Calls Tryz.prog 9 #[.agg #[.int .i64 a, .int .i64 b, .int .i64 c, .int .i64 d, .int .i64 f], .slice A n k] w fun e w' => e = .returned (.tuple #[.string (if ivB a b c d f v = true then vtT a v else ⟨#[]⟩), .bool (ivB a b c d f v)]) ∧ Ext w w' := by
  have E0 := (Ext.refl w).alloc (.cells #[.int .i64 a, .int .i64 b, .int .i64 c, .int .i64 d, .int .i64 f] 25)
  cases h : ivB a b c d f v
  · go_enter Tryz.func9, Tryz.ntmps9
    go_wp2_with fail
    refine (areVote_any _ _ _ _ _ _ _ _ v _ (ha.ext (by assumption)) hl hn hk).mono ?_
    rintro e w1 ⟨he, hb⟩
    rw [h] at he; subst he
    go_wp2
    go_ret2
    exact ⟨rfl, E0.trans hb⟩
  · have hO := ivB_vtOK h
    go_enter Tryz.func9, Tryz.ntmps9
    go_wp2_with fail
    refine (areVote_any _ _ _ _ _ _ _ _ v _ (ha.ext (by assumption)) hl hn hk).mono ?_
    rintro e w1 ⟨he, hb⟩
    rw [h] at he; subst he
    have E1 := E0.trans hb
    have B := (Blk.new w 25 _).ext hb
    have C := B.cells
    go_wp2_with fail
    refine (voteText_any _ _ _ _ _ _ _ _ v _ (ha.ext (by assumption)) hl hn hk hO).mono ?_
    rintro e w2 ⟨rfl, hb2⟩
    go_wp2
    go_ret2
    exact ⟨rfl, E1.trans hb2⟩
end Go.Proofs.YtnekpofaflpmdaaGreatDoor

/- Contracts for PermutationOf: the program's and the reference's. -/
import Derived.Test.YticimniegecfeaaProg
import Derived.Test.YticimniegecfeaaUnrP
import Derived.Test.YticimniegecfeaaOwn
import Derived.Test.YticimniegecfeaaLies
import Derived.Test.YticimniegecfeaaOpen
import Derived.Shelf.Slices.Delete
import Derived.Lib.OwnBridge
import Derived.Deep.CutRange
import Derived.RegionTactic
import Derived.ChangeAlike
import Derived.Deep.RegionHeld3
import Derived.IntWalk
namespace Go.Proofs.Yticimniegecfeaa
open Go.RowKit

def delRen : Go.Shelf.Ren := ⟨fun | 23 => 108 | x => x, fun | 0 => 0 | 3 => 3 | 4 => 4 | 22 => 22 | x => x, fun x => x⟩
theorem delLays : Go.Proofs.Lays2.n23 Try.prog delRen where
  mixed := by kernel_rfl
  f23 := by kernel_rfl
  t0 := Try.underlying0
  a0 := Try.isAgg0
  z0 := Try.sizeOf0
  v0 := Try.zeroValue0
  t3 := Try.underlying3
  a3 := Try.isAgg3
  z3 := Try.sizeOf3
  v3 := Try.zeroValue3
  t4 := Try.underlying4
  a4 := Try.isAgg4
  z4 := Try.sizeOf4
  v4 := Try.zeroValue4
  t22 := Try.underlying22
  a22 := Try.isAgg22
  z22 := Try.sizeOf22
  v22 := Try.zeroValue22
  i3 := by kernel_rfl

theorem only_putRow {w : World} {g q : Nat} {d : Array Int} : Only [g] w (Go.Sort.putRow (Value.int .i64) (Go.Sort.ahead w q) g 0 d) :=
  ⟨rfl, rfl, rfl, by simp [Go.Sort.putRow, Go.Sort.mapBlock, Go.Sort.ahead], fun k _ hk => by
    simp only [List.mem_singleton] at hk
    simp [Go.Sort.putRow, Go.Sort.mapBlock, Go.Sort.ahead, Array.getElem?_modify, show g ≠ k by omega]⟩
/-- slices.Delete of one element of a slice of the call's own. -/
theorem Delete_own {w : World} {base : Nat} {A : Option Addr} {n c : Nat} {l : List Int} (h : OwnI w base 3 A n c l) (k : Nat) (hk : k < n) :
    Calls Try.prog 108 #[.slice A n c, .int .i64 k, .int .i64 ((k : Int) + 1)] w fun e w' => e = .returned (.slice A (n - 1) c) ∧ OwnI w' base 3 A (n - 1) c (l.eraseIdx k) ∧ Only (fpI A) w w' := by
  have hne : (.slice A n c : Value) ≠ .slice none 0 0 := by
    intro e; injection e with _ e2 _; omega
  obtain ⟨g, cap, hv, hb, hlt, hnc, hcm, hl, hH⟩ := Go.Lib.holds_of_ownsRow (show w.ownsRow base 3 1 (.slice A n c) n (l.map (Value.int .i64)) from h) hne
  injection hv with hA _ hc
  subst hA; subst hc
  have hd := Any.slices_Delete_int delLays g 0 c k (k + 1) l w hH (by omega) (by unfold maxLen at hcm; omega) (by omega) (by omega)
  have e1 : ((k + 1 : Nat) : Int) = (k : Int) + 1 := by push_cast; rfl
  rw [e1, hl] at hd
  refine hd.mono ?_
  rintro e w' ⟨he, q, rfl⟩
  refine ⟨by rw [he]; simp, ?_, only_putRow⟩
  have hy : (l.take k ++ l.drop (k + 1) ++ List.replicate (k + 1 - k) 0).length = n := by simp; omega
  have h2 := Go.Lib.ownsRow_putRow (q := q) (k := n - 1) (ys := l.take k ++ l.drop (k + 1) ++ List.replicate (k + 1 - k) 0) (show w.ownsRow base 3 1 (.slice (some ⟨g, 0, none⟩) n c) n (l.map (Value.int .i64)) from h) hy (by omega)
  have h3 : (l.take k ++ l.drop (k + 1) ++ List.replicate (k + 1 - k) 0).take (n - 1) = l.eraseIdx k := by
    rw [List.take_append_of_le_length (by simp; omega), List.take_of_length_le (by simp; omega), List.eraseIdx_eq_take_drop_succ]
  rw [h3] at h2
  exact h2

def lenU : Value → Nat
  | .slice _ n _ => n
  | _ => 0
theorem lessL_take {n r j : Nat} (hj : j < n) : (lessL n r).take (j + 1) = (lessL n r).take j ++ [lessD n r j] := by
  rw [List.take_succ_eq_append_getElem (by rw [lessL_length]; exact hj), lessL_get hj]
theorem iota0_snoc (j : Nat) : iota 0 (j + 1) = iota 0 j ++ [(j : Int)] := by rw [iota_succ]; simp
set_option maxRecDepth 100000 in
set_option maxHeartbeats 4000000 in
theorem unr_yes (N R : Nat) (w : World) (hN : N ≤ 12) (hR : R < factN N) :
    Calls Try.prog 17 #[.int .i64 N, .int .i64 R] w fun e w' => ResI 3 w (some (unrL N R)) e w' := by
  have hfN : factN N ≤ 479001600 := by have := factN_mono hN; rw [factN_12] at this; exact this
  have h1 : inR (N : Int) 0 12 = true := inR_iff.2 ⟨by omega, by omega⟩
  have h2 : inR (R : Int) 0 ((factN N : Nat) - 1) = true := inR_iff.2 ⟨by omega, by omega⟩
  have HRR := Lib.hid (Nat.mod_eq_of_lt hR)
  have H1 := Lib.hid h1
  have H2 := Lib.hid h2
  clear h1 h2 hR
  go_enter Try.func17, Try.ntmps17
  go_wp2_with fail
  refine (within_any _ _ _ _).mono ?_
  rintro e w1 ⟨he, rfl⟩
  rw [H1.out] at he; subst he
  go_wp2_with fail
  refine (factorial_any N _ hN).mono ?_
  rintro e w1 ⟨rfl, rfl⟩
  go_wp2_with fail
  refine (within_any _ _ _ _).mono ?_
  rintro e w1 ⟨he, rfl⟩
  rw [H2.out] at he; subst he
  have hE := (((Ext.refl w).alloc (.cells #[] 3)).alloc (.cells #[] 3))
  have hP : OwnI ((w.alloc (.cells #[] 3)).alloc (.cells #[] 3)) w.heap.size 3 (some ⟨w.heap.size + 1, 0, none⟩) 0 0 [] := ownI_lit [] rfl (by simp) (by simp) (Nat.zero_le _)
  have hO : OwnI ((w.alloc (.cells #[] 3)).alloc (.cells #[] 3)) w.heap.size 3 (some ⟨w.heap.size, 0, none⟩) 0 0 [] := OwnI.ext (ownI_lit [] rfl rfl (by simp) (Nat.zero_le _)) ((Ext.refl _).alloc _)
  go_wp2
  go_loopw [6, 25] (fun v i wr => ∃ (j : Nat) (A : Option Addr) (c : Nat), j ≤ N ∧ i = .int .i64 j ∧ v = .slice A j c ∧ OwnI wr w.heap.size 3 A j c (iota 0 j) ∧ OwnI wr w.heap.size 3 (some ⟨w.heap.size + 1, 0, none⟩) 0 0 [] ∧ Apart (fpI A) [w.heap.size + 1] ∧ Ext w wr) (fun _ i _ => N - (intOf i).toNat)
  case atStart => exact ⟨0, _, _, Nat.zero_le _, rfl, rfl, hO, hP, (fun b hb hb' => by simp only [fpI, List.mem_singleton] at hb hb'; omega), hE⟩
  case round =>
    clear hE hP hO
    obtain ⟨j, A, c, hj, rfl, rfl, hO, hP, hap, hE⟩ := hrel
    have hsz := hE.size
    have hlow := hP.low
    by_cases hlt : j < N
    · go_wp2_with (at_builtin; refine wpList_app1F intSl rfl _ _ rfl hO rfl rfl rfl (by omega) hsz ?_; intro A2 c2 w2 hO2 hon hlies)
      rw [← iota0_snoc] at hO2
      go_roundw
      case rel => exact ⟨j + 1, A2, c2, by omega, by go_num, rfl, hO2, hP.only hon hap.symm, hap.app hlow hlies, hE.only hon hO.high⟩
      case measure => simp [intOf]; omega
    · obtain rfl : j = N := by omega
      clear hlow hlt
      go_wp2_with fail
      go_loopw [6, 7, 1] (fun v o r wr => ∃ (i m : Nat) (A B : Option Addr) (c d : Nat), i + m = j ∧ v = .slice A m c ∧ o = .slice B i d ∧ r = .int .i64 ((R % factN m : Nat) : Int) ∧ OwnI wr w.heap.size 3 A m c (pickR ((lessL j R).take i) (iota 0 j)) ∧ OwnI wr w.heap.size 3 B i d (pickL ((lessL j R).take i) (iota 0 j)) ∧ Apart (fpI A) (fpI B) ∧ Ext w wr) (fun v _ _ _ => lenU v)
      case atStart => exact ⟨0, j, A, _, c, 0, by omega, rfl, rfl, by rw [HRR.out], by simpa [pickR] using hO, by simpa [pickL] using hP, hap, hE⟩
      case round =>
        clear hO hP hap hE hsz hj HRR
        obtain ⟨i, m, A, B, c, d, him, rfl, rfl, rfl, hO, hP, hap, hE⟩ := hrel
        have hsz := hE.size
        by_cases hm0 : m = 0
        · subst hm0
          obtain rfl : i = j := by omega
          have htk : (lessL i R).take i = lessL i R := List.take_of_length_le (by rw [lessL_length]; omega)
          rw [htk] at hP
          clear htk
          go_wp2
          go_ret2
          exact ⟨_, _, _, rfl, hP, hE⟩
        · obtain ⟨t, rfl⟩ : ∃ t, m = t + 1 := ⟨m - 1, by omega⟩
          have hij : i < j := by omega
          have hji : j - i = t + 1 := by omega
          have hdv := less_div (n := j) (r := R) hij
          have hmd := less_mod (n := j) (r := R) hij
          have hD := lessD_lt (n := j) (r := R) hij
          have hst := lessL_take (r := R) hij
          have hf0 := factN_pos t
          have hft : factN t ≤ 479001600 := by have := factN_mono (show t ≤ 12 by omega); rw [factN_12] at this; exact this
          have hXb : R % factN (t + 1) ≤ R := Nat.mod_le _ _
          rw [show j - (i + 1) = t by omega] at hmd
          rw [hji] at hdv hmd hD
          rw [Nat.add_sub_cancel] at hdv hmd
          obtain ⟨k, hk⟩ : ∃ k, lessD j R i = k := ⟨_, rfl⟩
          obtain ⟨Y, hY⟩ : ∃ Y, R % factN t = Y := ⟨_, rfl⟩
          rw [hk] at hdv hD hst
          rw [hY] at hmd
          obtain ⟨F, hF⟩ : ∃ F, factN t = F := ⟨_, rfl⟩
          have HFC : Hid (∀ w, Calls Try.prog 107 #[.int .i64 t] w fun e w' => e = .returned (.int .i64 (F : Int)) ∧ w = w') := Lib.hid (fun w => by rw [← hF]; exact factorial_any t w (by omega))
          generalize R % factN (t + 1) = X at *
          have hq : (X : Int) / (factN t : Int) = (k : Int) := by rw [← hdv]; simp
          have hr : (X : Int) % (factN t : Int) = (Y : Int) := by rw [← hmd]; simp
          rw [hF] at hq hr hf0 hft
          have HY := Lib.hid hY
          have HK := Lib.hid hk
          have HST := Lib.hid hst
          have e1 : ((t + 1 : Nat) : Int) - 1 = (t : Int) := by omega
          have hFz : ((F : Int) == 0) = false := by simp; omega
          have hlen := hO.len
          obtain ⟨ad, rfl, hc⟩ := hO.rd.at_ (k := k) (by rw [hlen]; exact hD)
          have HX2 := Lib.hid (pickL_snoc k ((lessL j R).take i) (iota 0 j))
          have HX3 := Lib.hid (pickR_snoc k ((lessL j R).take i) (iota 0 j))
          generalize hLL : pickR ((lessL j R).take i) (iota 0 j) = L at *
          generalize pickL ((lessL j R).take i) (iota 0 j) = Pl at *
          obtain ⟨x, hx⟩ : ∃ x, L.getD k 0 = x := ⟨_, rfl⟩
          have HG := Lib.hid hx
          have hcx : wr.cell? (ad.add k) = some (.int .i64 x) := by rw [← hx, hc]; simp [List.getD, show k < L.length by omega]
          have HLEN := Lib.hid hlen
          clear hc hx hdv hmd hY hk hF hst hlen hXb hLL hm0 hji
          go_wp2_with fail
          refine (HFC.out _).mono ?_
          rintro e w1 ⟨rfl, rfl⟩
          go_wp2_with (at_builtin; refine wpList_app1F intSl rfl _ _ rfl hP rfl rfl rfl (by omega) hsz ?_; intro B2 d2 w2 hP2 hon hlies)
          have hO2 := hO.only hon hap
          have hap2 : Apart (fpI B2) (fpI (some ad)) := hap.symm.app hO.low hlies
          have hdel := Delete_own hO2 k hD
          rw [Nat.add_sub_cancel] at hdel
          refine hdel.mono ?_
          rintro e w3 ⟨rfl, hO3, hon3⟩
          have hw2 := hE.only hon hP.high
          have hP3 := hP2.only hon3 hap2
          rw [← HG.out, ← HX2.out, ← HST.out] at hP3
          rw [← HX3.out, ← HST.out] at hO3
          go_wp2
          go_roundw
          case rel => exact ⟨i + 1, t, some ad, B2, c, d2, by omega, rfl, rfl, by rw [HY.out], hO3, hP3, hap2.symm, hw2.only hon3 hO2.high⟩
          case measure => simp [lenU]
theorem unrR_yes {n r : Int} {N R : Nat} (hn : n = N) (hr : r = R) (hN : N ≤ 12) (hR : R < factN N) : unrR n r = some (unrL N R) := by
  subst hn; subst hr
  unfold unrR
  rw [if_pos, Int.toNat_natCast, Int.toNat_natCast]
  rw [Bool.and_eq_true, Int.toNat_natCast]
  exact ⟨inR_iff.2 ⟨by omega, by omega⟩, inR_iff.2 ⟨by omega, by omega⟩⟩
theorem iPermutationOf_any (n rank : Int) (w : World) (_f1 : Fits n) (_f2 : Fits rank) :
    Calls Try.prog 17 #[.int .i64 n, .int .i64 rank] w fun e w' => ResI 3 w (unrR n rank) e w' := by
  cases h1 : inR n 0 12
  · have hr : unrR n rank = none := by simp [unrR, h1]
    rw [hr]; clear hr
    go_enter Try.func17, Try.ntmps17
    go_wp2_with fail
    refine (within_any _ _ _ _).mono ?_
    rintro e w1 ⟨he, rfl⟩
    rw [h1] at he; subst he
    go_wp2
    go_ret2
    exact ⟨_, _, _, rfl, OwnI.nil _ _ _, Ext.refl _⟩
  have hb := inR_iff.1 h1
  obtain ⟨N, rfl⟩ := Int.eq_ofNat_of_zero_le hb.1
  have hN : N ≤ 12 := by omega
  cases h2 : inR rank 0 ((factN N : Nat) - 1)
  · have hr : unrR N rank = none := by simp [unrR, h1, h2]
    have hfN : factN N ≤ 479001600 := by have := factN_mono hN; rw [factN_12] at this; exact this
    have H1 := Lib.hid h1
    have H2 := Lib.hid h2
    rw [hr]; clear hr h1 h2
    go_enter Try.func17, Try.ntmps17
    go_wp2_with fail
    refine (within_any _ _ _ _).mono ?_
    rintro e w1 ⟨he, rfl⟩
    rw [H1.out] at he; subst he
    go_wp2_with fail
    refine (factorial_any N _ hN).mono ?_
    rintro e w1 ⟨rfl, rfl⟩
    go_wp2_with fail
    refine (within_any _ _ _ _).mono ?_
    rintro e w1 ⟨he, rfl⟩
    rw [H2.out] at he; subst he
    go_wp2
    go_ret2
    exact ⟨_, _, _, rfl, OwnI.nil _ _ _, Ext.refl _⟩
  · have hb2 := inR_iff.1 h2
    obtain ⟨R, rfl⟩ := Int.eq_ofNat_of_zero_le hb2.1
    rw [unrR_yes rfl rfl hN (by omega)]
    exact unr_yes N R w hN (by omega)

def natI (l : List Nat) : List Int := l.map fun k : Nat => (k : Int)
theorem natI_get {l : List Nat} {i : Nat} (h : i < l.length) : (natI l)[i]'(by simpa [natI] using h) = (l[i] : Int) := by simp [natI]
theorem natI_length (l : List Nat) : (natI l).length = l.length := by simp [natI]
theorem less_set {n r i : Nat} (h : i < n) : (List.replicate (i + 1) (0 : Int) ++ (natI (lessL n r)).drop (i + 1)).set i (lessD n r i : Nat) = List.replicate i 0 ++ (natI (lessL n r)).drop i := by
  have hl : i < (natI (lessL n r)).length := by rw [natI_length, lessL_length]; exact h
  rw [List.drop_eq_getElem_cons hl, natI_get (by rw [lessL_length]; exact h), lessL_get h, List.replicate_succ', List.append_assoc, List.set_append_right _ _ (by simp)]
  simp
set_option maxRecDepth 100000 in
set_option maxHeartbeats 4000000 in
theorem sunr_yes (N R : Nat) (w : World) (hN : N ≤ 12) (hR : R ≤ 9223372036854775807) :
    Calls Try.prog 16 #[.int .i64 N, .int .i64 R] w fun e w' => ResI 3 w (if R < factN N then some (unrL N R) else none) e w' := by
  have h1 : inR (N : Int) 0 12 = true := inR_iff.2 ⟨by omega, by omega⟩
  have H1 := Lib.hid h1
  obtain ⟨r0, hr0⟩ : ∃ r0, (if R < factN N then some (unrL N R) else none) = r0 := ⟨_, rfl⟩
  rw [hr0]
  have HR0 := Lib.hid hr0
  clear h1 hr0
  go_enter Try.func16, Try.ntmps16
  go_wp2_with fail
  refine (l1In_any _ _ _ _).mono ?_
  rintro e w1 ⟨he, rfl⟩
  rw [H1.out] at he; subst he
  go_wp2_with (at_make; refine wpList_mkI intSl rfl _ _ rfl _ _ _ _ N rfl rfl rfl rfl (by omega) w.heap.size (Nat.le_refl _) ?_; intro w1 hO hE hz)
  go_loopw [7, 1] (fun i r wr => ∃ (I : Nat), I ≤ N ∧ i = .int .i64 ((I : Int) - 1) ∧ r = .int .i64 ((R / factN (N - I) : Nat) : Int) ∧ OwnI wr w.heap.size 3 (some ⟨w.heap.size, 0, none⟩) N N (List.replicate I 0 ++ (natI (lessL N R)).drop I) ∧ Ext w wr) (fun i _ _ => (intOf i + 1).toNat)
  case atStart =>
    refine ⟨N, Nat.le_refl _, rfl, by rw [Nat.sub_self, factN, Nat.div_one], ?_, hE⟩
    rw [List.drop_eq_nil_of_le (by rw [natI_length, lessL_length]; exact Nat.le_refl _), List.append_nil]; exact hO
  case round =>
    clear hO hE hz
    obtain ⟨I, hI, rfl, rfl, hO, hE⟩ := hrel
    by_cases hI0 : I = 0
    · subst hI0
      rw [List.replicate_zero, List.nil_append, List.drop_zero] at hO
      rw [Nat.sub_zero]
      obtain ⟨w2, rfl⟩ : ∃ w2 : World, w2 = wr := ⟨_, rfl⟩
      by_cases hRN : R < factN N
      · have hx0 : R / factN N = 0 := Nat.div_eq_of_lt hRN
        have hx1 : R / factN N ≤ 0 := by omega
        generalize R / factN N = X at *
        have hr1 : some (unrL N R) = r0 := by have h := HR0.out; rw [if_pos hRN] at h; exact h
        have HR1 := Lib.hid hr1
        clear hx0 hr1 HR0 hRN hI
        have hx2 : ¬ (0 : Int) < X := by omega
        clear hx1
        go_wp2_with fail
        go_loopw [8, 9] (fun v i wr => ∃ (j : Nat) (A : Option Addr) (c : Nat), j ≤ N ∧ i = .int .i64 j ∧ v = .slice A j c ∧ OwnI wr w2.heap.size 3 A j c (iota 0 j) ∧ Ext w2 wr) (fun _ i _ => N - (intOf i).toNat)
        case atStart => exact ⟨0, none, 0, Nat.zero_le _, rfl, rfl, OwnI.nil _ _ _, Ext.refl _⟩
        case round =>
          obtain ⟨j, A, c, hj, rfl, rfl, hL, hE2⟩ := hrel
          have hsz := hE2.size
          by_cases hlt : j < N
          · go_wp2_with (at_builtin; refine wpList_app1 intSl rfl _ _ rfl hL rfl rfl (by omega) hsz ?_; intro A2 c2 w3 hO2 hb2)
            rw [← iota0_snoc] at hO2
            go_roundw
            case rel => exact ⟨j + 1, A2, c2, by omega, by go_num, rfl, hO2, hE2.then hb2 (Nat.le_refl _)⟩
            case measure => simp [intOf]; omega
          · obtain rfl : j = N := by omega
            clear hlt hj
            obtain ⟨w3, rfl⟩ : ∃ w3 : World, w3 = wr := ⟨_, rfl⟩
            go_wp2_with fail
            go_loopw [10, 8, 54] (fun o v x wr => ∃ (i m : Nat) (A B : Option Addr) (c d : Nat), i + m = j ∧ x = .int .i64 i ∧ v = .slice A m c ∧ o = .slice B i d ∧ OwnI wr w2.heap.size 3 A m c (pickR ((lessL j R).take i) (iota 0 j)) ∧ OwnI wr w2.heap.size 3 B i d (pickL ((lessL j R).take i) (iota 0 j)) ∧ Apart (fpI A) (fpI B) ∧ Ext w2 wr) (fun _ _ x _ => j - (intOf x).toNat)
            case atStart => exact ⟨0, j, A, none, c, 0, by omega, rfl, rfl, rfl, by simpa [pickR] using hL, by simpa [pickL] using OwnI.nil _ _ _, (fun b _ hb' => by simp [fpI] at hb'), hE2⟩
            case round =>
              clear hL hE2 hsz
              obtain ⟨i, m, A, B, c, d, him, rfl, rfl, rfl, hL, hP, hap, hE2⟩ := hrel
              have hsz := hE2.size
              by_cases hlt : i < j
              · obtain ⟨t, rfl⟩ : ∃ t, m = t + 1 := ⟨m - 1, by omega⟩
                have hD := lessD_lt (n := j) (r := R) hlt
                rw [show j - i = t + 1 by omega] at hD
                have hst := lessL_take (r := R) hlt
                obtain ⟨hcl, _⟩ := (hO.ext hE2).at0 i (by rw [natI_length, lessL_length]; exact hlt)
                rw [natI_get (by rw [lessL_length]; exact hlt), lessL_get hlt] at hcl
                obtain ⟨k, hk⟩ : ∃ k, lessD j R i = k := ⟨_, rfl⟩
                rw [hk] at hcl hD hst
                have HST := Lib.hid hst
                have hlen := hL.len
                have HX2 := Lib.hid (pickL_snoc k ((lessL j R).take i) (iota 0 j))
                have HX3 := Lib.hid (pickR_snoc k ((lessL j R).take i) (iota 0 j))
                generalize hLL : pickR ((lessL j R).take i) (iota 0 j) = L at *
                generalize pickL ((lessL j R).take i) (iota 0 j) = Pl at *
                obtain ⟨gA, rfl, _, _, hcA⟩ := hL.addr (by omega)
                have hcx := hcA k (by omega)
                have HG : Hid (L.getD k 0 = L[k]'(by omega)) := Lib.hid (by simp [List.getD, show k < L.length by omega])
                generalize L[k]'(by omega) = x at *
                have hcap := hL.cap
                have hcm : c ≤ 9223372036854775807 := by have := hcap.2; unfold maxLen at this; exact this
                have HLEN := Lib.hid hlen
                have hkt : (k : Int) ≤ t := by omega
                clear hk hst hLL hcA hlen
                go_upto_region 21 with (at_builtin; refine wpList_app1F intSl rfl _ _ rfl hP rfl rfl rfl (by omega) hsz ?_; intro B2 d2 w4 hP2 hon hlies)
                have hL2 := hL.only hon hap
                have hE4 := hE2.only hon hP.high
                have hap2 : Apart (fpI B2) (fpI (some (⟨gA, 0, none⟩ : Addr))) := hap.symm.app hL.low hlies
                have hk4 : (L.take k).length = k := by rw [List.length_take, HLEN.out]; omega
                have hd4 : (L.drop (k + 1)).length = t - k := by rw [List.length_drop, HLEN.out]; omega
                have hdr := hL2.rd.drop (k + 1) (by rw [HLEN.out]; exact hcap.1)
                have HK4 := Lib.hid hk4
                have HD4 := Lib.hid hd4
                have hlt2 := hL2.lt _ rfl
                clear hk4 hd4
                have hA1 : (0 : Int) ≤ k := by omega
                have hA2 : (k : Int) ≤ c := by omega
                have hA4 : (0 : Int) ≤ (k : Int) + 1 := by omega
                have hA5 : (k : Int) + 1 ≤ ((t + 1 : Nat) : Int) := by omega
                have hA8 : ((t + 1 : Nat) : Int) ≤ c := by omega
                have hA3 : IntKind.i64.wrap ((k : Int) + 1) = (k : Int) + 1 := IntWalk.i64_in _ (by omega)
                have hA7 : ((k : Int) + 1).toNat = k + 1 := by omega
                by_cases hck : c = k + 1
                · subst hck
                  have hA9 : (k : Int) ≤ (k : Int) + 1 := by omega
                  have hnil : L.drop (k + 1) = [] := List.drop_eq_nil_of_le (by rw [HLEN.out]; omega)
                  have hrd : ∀ w5, RdI w5 (some ⟨gA, 0, none⟩) (L.drop (k + 1)) := fun w5 => by rw [hnil]; exact RdI.nil _ _
                  have HRD := Lib.hid hrd
                  clear hnil hrd hdr
                  go_region_held3 (fun w' => Ext w4 w') (first | exact (Ext.refl _).drew | exact ((Ext.refl _).drew).trans hb5 | exact (((Ext.refl _).drew).trans hb5).then hb6 (Nat.le_refl _))
                    (first
                      | (go_at_call 105; refine (l1Own_any _ _ _ (L.take k) _ (RdI.ext (hL2.rd.take k) ((Ext.refl w4).drew)) HK4.out (by omega)).mono ?_; rintro e w5 ⟨A5, c5, rfl, hO5, hb5⟩)
                      | (refine step_appL intSl (by rfl) _ _ (by rfl) (base := w4.drew.heap.size) (A := A5) (n := k) (c := c5) (l := L.take k) hO5 (by rfl) (B := some ⟨gA, 0, none⟩) (m := t - k) (c' := k + 1 - (k + 1)) (ys := L.drop (k + 1)) (by exact HRD.out _) HD4.out (by first | rfl | (simp [Act.eval] <;> omega)) (by omega) hb5.size ?_; intro A6 c6 w6 hO6 hb6))
                  go_wp2
                  have hE5 : Ext w4 w6 := (((Ext.refl _).drew).trans hb5).then hb6 (Nat.le_refl _)
                  have hP3 := hP2.ext hE5
                  have htk2 : k + (t - k) = t := by omega
                  rw [htk2] at hO6
                  rw [← List.eraseIdx_eq_take_drop_succ] at hO6
                  rw [← HG.out, ← HX2.out, ← HST.out] at hP3
                  rw [← HX3.out, ← HST.out] at hO6
                  go_roundw
                  case rel => exact ⟨i + 1, t, A6, B2, c6, d2, by omega, by go_num, by rw [htk2], rfl, hO6.more hE4.size, hP3, Apart.of_high hP2.low hO6.high, hE4.trans hE5⟩
                  case measure => simp [intOf]; omega
                · have hrd : RdI w4 (some ⟨gA, 0 + (k + 1), none⟩) (L.drop (k + 1)) := by
                    rw [if_neg hck] at hdr
                    simpa [Addr.add] using hdr
                  clear hdr
                  go_region_held3 (fun w' => Ext w4 w') (first | exact (Ext.refl _).drew | exact ((Ext.refl _).drew).trans hb5 | exact (((Ext.refl _).drew).trans hb5).then hb6 (Nat.le_refl _))
                    (first
                      | (go_at_call 105; refine (l1Own_any _ _ _ (L.take k) _ (RdI.ext (hL2.rd.take k) ((Ext.refl w4).drew)) HK4.out (by omega)).mono ?_; rintro e w5 ⟨A5, c5, rfl, hO5, hb5⟩)
                      | (refine step_appL intSl (by rfl) _ _ (by rfl) (base := w4.drew.heap.size) (A := A5) (n := k) (c := c5) (l := L.take k) hO5 (by rfl) (B := some ⟨gA, 0 + (k + 1), none⟩) (m := t - k) (c' := c - (k + 1)) (ys := L.drop (k + 1)) (by exact RdI.ext hrd (((Ext.refl w4).drew).trans hb5)) HD4.out (by first | rfl | (simp [Act.eval] <;> omega)) (by omega) hb5.size ?_; intro A6 c6 w6 hO6 hb6))
                  go_wp2
                  have hE5 : Ext w4 w6 := (((Ext.refl _).drew).trans hb5).then hb6 (Nat.le_refl _)
                  have hP3 := hP2.ext hE5
                  have htk2 : k + (t - k) = t := by omega
                  rw [htk2] at hO6
                  rw [← List.eraseIdx_eq_take_drop_succ] at hO6
                  rw [← HG.out, ← HX2.out, ← HST.out] at hP3
                  rw [← HX3.out, ← HST.out] at hO6
                  go_roundw
                  case rel => exact ⟨i + 1, t, A6, B2, c6, d2, by omega, by go_num, by rw [htk2], rfl, hO6.more hE4.size, hP3, Apart.of_high hP2.low hO6.high, hE4.trans hE5⟩
                  case measure => simp [intOf]; omega
              · obtain rfl : i = j := by omega
                have htk : (lessL i R).take i = lessL i R := List.take_of_length_le (by rw [lessL_length]; omega)
                rw [htk] at hP
                clear htk
                go_wp2
                go_ret2
                rw [← HR1.out]
                exact ⟨_, _, _, rfl, hP.more hE.size, hE.trans hE2⟩
      · have hx0 : 0 < R / factN N := less_end.2 (by omega)
        have hr1 : none = r0 := by have h := HR0.out; rw [if_neg hRN] at h; exact h
        generalize R / factN N = X at *
        subst hr1
        clear hRN HR0
        go_wp2
        go_ret2
        exact ⟨_, _, _, rfl, OwnI.nil _ _ _, hE⟩
    · obtain ⟨i, rfl⟩ : ∃ i, I = i + 1 := ⟨I - 1, by omega⟩
      have e1 : ((i + 1 : Nat) : Int) - 1 = (i : Int) := by omega
      rw [e1]
      have h1 := less_mod2 (n := N) (r := R) (i := i) (by omega)
      have h2 := less_div2 (n := N) (r := R) (i := i) (by omega)
      have hXb : R / factN (N - 1 - i) ≤ R := Nat.div_le_self _ _
      rw [show N - (i + 1) = N - 1 - i by omega]
      obtain ⟨k, hk⟩ : ∃ k, lessD N R i = k := ⟨_, rfl⟩
      obtain ⟨Y, hY⟩ : ∃ Y, R / factN (N - i) = Y := ⟨_, rfl⟩
      obtain ⟨m, hm⟩ : ∃ m, N - i = m + 1 := ⟨N - i - 1, by omega⟩
      rw [hk] at h1
      rw [hY] at h2
      rw [hm] at h1 h2
      have hset := less_set (n := N) (r := R) (i := i) (by omega)
      rw [hk] at hset
      generalize R / factN (N - 1 - i) = X at *
      have hq : (X : Int) / ((N : Int) - i) = (Y : Int) := by
        rw [← h2, show (N : Int) - i = ((m + 1 : Nat) : Int) by omega]; simp
      have hr : (X : Int) % ((N : Int) - i) = (k : Int) := by
        rw [← h1, show (N : Int) - i = ((m + 1 : Nat) : Int) by omega]; simp
      have hz0 : (((N : Int) - i) == 0) = false := by simp; omega
      have hpos : (0 : Int) < (N : Int) - i := by omega
      obtain ⟨hcl, hfz⟩ := hO.at0 i (by simp; omega)
      have hO2 := hO.set (j := i) (k : Int)
      rw [hset] at hO2
      have hYb : Y ≤ 9223372036854775807 := by rw [← h2]; exact Nat.le_trans (Nat.div_le_self _ _) (Nat.le_trans hXb hR)
      have HY := Lib.hid hY
      clear h1 h2 hk hset hY hXb hm
      go_wp2
      go_roundw
      case rel => exact ⟨i, by omega, rfl, by rw [HY.out], hO2, hE.setCell (p := ⟨w.heap.size, i, none⟩) (by simp) _⟩
      case measure => simp [intOf] <;> omega
theorem sPermutationOf_any (n rank : Int) (w : World) (_f1 : Fits n) (f2 : Fits rank) :
    Calls Try.prog 16 #[.int .i64 n, .int .i64 rank] w fun e w' => ResI 3 w (unrR n rank) e w' := by
  cases h1 : inR n 0 12
  · have hr : unrR n rank = none := by simp [unrR, h1]
    rw [hr]; clear hr
    go_enter Try.func16, Try.ntmps16
    go_wp2_with fail
    refine (l1In_any _ _ _ _).mono ?_
    rintro e w1 ⟨he, rfl⟩
    rw [h1] at he; subst he
    go_wp2
    go_ret2
    exact ⟨_, _, _, rfl, OwnI.nil _ _ _, Ext.refl _⟩
  have hb := inR_iff.1 h1
  obtain ⟨N, rfl⟩ := Int.eq_ofNat_of_zero_le hb.1
  have hN : N ≤ 12 := by omega
  by_cases hneg : rank < 0
  · have h2 : inR rank 0 ((factN N : Nat) - 1) = false := inR_iff'.2 (by omega)
    have hr : unrR N rank = none := by simp [unrR, h1, h2]
    have H1 := Lib.hid h1
    rw [hr]; clear hr h1 h2
    go_enter Try.func16, Try.ntmps16
    go_wp2_with fail
    refine (l1In_any _ _ _ _).mono ?_
    rintro e w1 ⟨he, rfl⟩
    rw [H1.out] at he; subst he
    go_wp2
    go_ret2
    exact ⟨_, _, _, rfl, OwnI.nil _ _ _, Ext.refl _⟩
  · obtain ⟨R, rfl⟩ := Int.eq_ofNat_of_zero_le (show 0 ≤ rank by omega)
    have hR : R ≤ 9223372036854775807 := by have := f2; unfold Fits at this; omega
    have h := sunr_yes N R w hN hR
    by_cases hRN : R < factN N
    · rw [if_pos hRN] at h
      rw [unrR_yes rfl rfl hN hRN]
      exact h
    · rw [if_neg hRN] at h
      have hr : unrR N R = none := by
        unfold unrR
        rw [if_neg]
        rw [Bool.and_eq_true, Int.toNat_natCast]
        rintro ⟨_, h2⟩
        have := inR_iff.1 h2
        omega
      rw [hr]
      exact h
end Go.Proofs.Yticimniegecfeaa

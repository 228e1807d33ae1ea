/- Contracts for RecoverShare: the program's and the reference's. (Printed by tools/gen_rec2.py.) -/
import Derived.Test.YthamimjejlicpaaProg
import Derived.Test.YthamimjejlicpaaRec
import Derived.Test.YthamimjejlicpaaDiff
namespace Go.Proofs.Ythamimjejlicpaa
open Go.RowKit

theorem nodup_le : ∀ {l m : List Int}, l.Nodup → (∀ x ∈ l, x ∈ m) → l.length ≤ m.length
  | [], _, _, _ => Nat.zero_le _
  | x :: l, m, hd, hs => by
    have hx : x ∈ m := hs x (by simp)
    have hl := List.length_erase_of_mem hx
    have hp := List.length_pos_of_mem hx
    have hd2 := List.nodup_cons.1 hd
    have ih := nodup_le (l := l) (m := m.erase x) hd2.2 fun y hy => (List.mem_erase_of_ne (a := y) (b := x) (fun e => hd2.1 (by rw [← e]; exact hy))).2 (hs y (by simp [hy]))
    simp
    omega
theorem trustees_le {l : List Int} (h1 : allR l 1 7 = true) (h2 : diffB l = true) : l.length ≤ 7 := by
  have hd : l.Nodup := by unfold diffB at h2; exact of_decide_eq_true h2
  refine nodup_le (m := [1, 2, 3, 4, 5, 6, 7]) hd fun x hx => ?_
  have := allR_iff.1 h1 x hx
  have h : x = 1 ∨ x = 2 ∨ x = 3 ∨ x = 4 ∨ x = 5 ∨ x = 6 ∨ x = 7 := by omega
  simpa using h
theorem els_rg {p q : Int} {l : List Int} (hp : p ≤ 2000000000) (h : l.all (elB p q) = true) : ∀ y ∈ l, 0 ≤ y ∧ y ≤ 3000000000 := fun y hy => by
  have h1 := elB_iff.1 (List.all_eq_true.1 h y hy)
  omega
/-- The guards of RecoverShare. -/
noncomputable def rsG (p q g : Int) (cs is ss : List Int) : Bool := (decide (7 < q) && grpB p q g) && ((inR cs.length 1 7 && cs.all (elB p q)) && ((allR is 1 7 && diffB is) && (decide (ss.length = is.length) && allR ss 0 (q - 1))))
noncomputable def rsB (p q g : Int) (cs : List Int) (i : Int) (is ss : List Int) : Bool := rsG p q g cs is ss && inR i 1 7
noncomputable def rsV (p q g : Int) (cs : List Int) (i : Int) (is ss : List Int) : Int := if rsB p q g cs i is ss then rcV p q g cs i is ss else 0
noncomputable def rsK (p q g : Int) (cs : List Int) (i : Int) (is ss : List Int) : Bool := rsB p q g cs i is ss && rcK p q g cs is ss
set_option maxHeartbeats 400000 in
theorem yPts_any (A : Option Addr) (n c : Nat) (l : List Int) (w : World) (ha : RdI w A l) (hl : l.length = n) (hn : n ≤ c) (hc : c ≤ maxLen) :
    Calls Try.prog 84 #[.slice A n c] w fun e w' => e = .returned (.bool (diffB l)) ∧ w = w' := by
  unfold maxLen at hc
  subst hl
  go_enter Try.func84, Try.ntmps84
  go_wp2
  go_loop [7] (fun i => ∃ j : Nat, j ≤ l.length ∧ i = .int .i64 j ∧ Hid ((l.take j).Nodup)) (fun i => l.length - (intOf i).toNat)
  case atStart => exact ⟨0, Nat.zero_le _, rfl, by simp [Hid]⟩
  case round =>
    obtain ⟨j, hj, rfl, HI⟩ := hrel
    by_cases hlt : j < l.length
    · have ht := ha.take j
      obtain ⟨ad, rfl, hcell⟩ := ha.at_ hlt
      cases hx : memB (l.take j) l[j]
      · have HX := Lib.hid hx
        go_wp2_with fail
        refine (l1Has_any _ _ _ (l.take j) _ _ ht (by rw [List.length_take]; omega) (by unfold maxLen; omega)).mono ?_
        rintro e w1 ⟨rfl, rfl⟩
        go_wp2
        go_round
        case rel => exact ⟨j + 1, by omega, by go_num, nodup_take hlt HI.out HX.out⟩
        case measure => simp [intOf]; omega
      · have HX := Lib.hid hx
        go_wp2_with fail
        refine (l1Has_any _ _ _ (l.take j) _ _ ht (by rw [List.length_take]; omega) (by unfold maxLen; omega)).mono ?_
        rintro e w1 ⟨rfl, rfl⟩
        go_wp2
        go_ret
        exact ⟨ret_bool (not_nodup hlt HX.out).symm, rfl⟩
    · obtain rfl : j = l.length := by omega
      go_wp2
      go_ret
      have h := HI.out
      rw [List.take_length] at h
      exact ⟨ret_bool (by symm; unfold diffB; exact decide_eq_true h), rfl⟩
theorem isTrustee_any (x : Int) (w : World) : Calls Try.prog 88 #[.int .i64 x] w fun e w' => e = .returned (.bool (inR x 1 7)) ∧ w = w' := by
  go_enter Try.func88, Try.ntmps88
  go_wp2_with fail
  refine (within_any _ _ _ _).mono ?_
  rintro e w1 ⟨rfl, rfl⟩
  go_wp2
  go_ret
  exact ⟨rfl, rfl⟩
theorem isTrustee_ans (w : World) (l : List Int) : Answers 88 #[] w l (fun x => inR x 1 7) :=
  ⟨fun args w => by kernel_rfl, fun x _ w2 _ => (isTrustee_any x w2).mono fun e w3 ⟨h1, h2⟩ => ⟨h1, h2 ▸ Ext.refl _⟩⟩
set_option maxHeartbeats 400000 in
theorem areTrustees_any (A : Option Addr) (n c : Nat) (l : List Int) (w : World) (ha : RdI w A l) (hl : l.length = n) (hn : n ≤ c) (hc : c ≤ maxLen) :
    Calls Try.prog 115 #[.slice A n c] w fun e w' => e = .returned (.bool (allR l 1 7 && diffB l)) ∧ Ext w w' := by
  have hf : ∀ args w, (callFunc 88 args).run Try.prog w = .ok (.enter 88 args) w := fun args w => by kernel_rfl
  cases h : allR l 1 7
  · have H := Lib.hid (show l.all (fun x => inR x 1 7) = false from h)
    clear h
    go_enter Try.func115, Try.ntmps115
    go_wp2_with fail
    refine (areAll_any _ _ _ l _ _ _ _ ha hl (by unfold maxLen at *; omega) (isTrustee_ans _ l)).mono ?_
    rintro e w1 ⟨he, hE⟩
    rw [H.out] at he; subst he
    go_wp2
    go_ret
    exact ⟨rfl, hE⟩
  · have H := Lib.hid (show l.all (fun x => inR x 1 7) = true from h)
    clear h
    go_enter Try.func115, Try.ntmps115
    go_wp2_with fail
    refine (areAll_any _ _ _ l _ _ _ _ ha hl (by unfold maxLen at *; omega) (isTrustee_ans _ l)).mono ?_
    rintro e w1 ⟨he, hE⟩
    rw [H.out] at he; subst he
    go_wp2_with fail
    refine (areDifferent_any _ _ _ l _ (ha.ext hE) hl hn hc).mono ?_
    rintro e w2 ⟨rfl, rfl⟩
    go_wp2
    go_ret
    exact ⟨rfl, hE⟩
set_option maxHeartbeats 400000 in
theorem isSharing_any (p q g : Int) (w : World) : Calls Try.prog 113 #[.agg #[.int .i64 p, .int .i64 q, .int .i64 g]] w fun e w' => e = .returned (.bool (decide (7 < q) && grpB p q g)) ∧ Ext w w' := by
  have E := (Ext.refl w).alloc (.cells #[.int .i64 p, .int .i64 q, .int .i64 g] 25)
  have B := Blk.new w 25 #[.int .i64 p, .int .i64 q, .int .i64 g]
  have C := B.cells
  by_cases h : 7 < q
  · rw [decide_eq_true h, Bool.true_and]
    go_enter Try.func113, Try.ntmps113
    go_wp2_with fail
    refine (IsValidGroup_any p q g _).mono ?_
    rintro e w1 ⟨rfl, hE⟩
    go_wp2
    go_ret
    exact ⟨rfl, E.trans hE⟩
  · rw [decide_eq_false h, Bool.false_and]
    go_enter Try.func113, Try.ntmps113
    go_wp2
    go_ret
    exact ⟨rfl, E⟩
set_option maxHeartbeats 400000 in
theorem sGroup_any (p q g : Int) (w : World) : Calls Try.prog 81 #[.agg #[.int .i64 p, .int .i64 q, .int .i64 g]] w fun e w' => e = .returned (.bool (decide (7 < q) && grpB p q g)) ∧ Ext w w' := by
  have E := (Ext.refl w).alloc (.cells #[.int .i64 p, .int .i64 q, .int .i64 g] 25)
  have B := Blk.new w 25 #[.int .i64 p, .int .i64 q, .int .i64 g]
  have C := B.cells
  cases hg : grpB p q g
  · have H := Lib.hid hg
    rw [Bool.and_false]
    clear hg
    go_enter Try.func81, Try.ntmps81
    go_wp2_with fail
    refine (l2Good_any p q g _).mono ?_
    rintro e w1 ⟨he, hE⟩
    rw [H.out] at he; subst he
    go_wp2
    go_ret
    exact ⟨rfl, E.trans hE⟩
  · have H := Lib.hid hg
    rw [Bool.and_true]
    clear hg C
    by_cases h : 7 < q
    · rw [decide_eq_true h]
      go_enter Try.func81, Try.ntmps81
      go_wp2_with fail
      refine (l2Good_any p q g _).mono ?_
      rintro e w1 ⟨he, hE⟩
      rw [H.out] at he; subst he
      have C := (B.ext hE).cells
      go_wp2
      go_ret
      exact ⟨rfl, E.trans hE⟩
    · rw [decide_eq_false h]
      go_enter Try.func81, Try.ntmps81
      go_wp2_with fail
      refine (l2Good_any p q g _).mono ?_
      rintro e w1 ⟨he, hE⟩
      rw [H.out] at he; subst he
      have C := (B.ext hE).cells
      go_wp2
      go_ret
      exact ⟨ret_bool (decide_eq_false (by omega)), E.trans hE⟩
set_option maxHeartbeats 400000 in
theorem areCommits_any (p q g : Int) (A : Option Addr) (n c : Nat) (l : List Int) (w : World) (h : GrpB p q) (ha : RdI w A l) (hl : l.length = n) (hn : n ≤ maxLen) : Calls Try.prog 114 #[.agg #[.int .i64 p, .int .i64 q, .int .i64 g], .slice A n c] w fun e w' => e = .returned (.bool (inR n 1 7 && l.all (elB p q))) ∧ Ext w w' := by
  have E := (Ext.refl w).alloc (.cells #[.int .i64 p, .int .i64 q, .int .i64 g] 25)
  have B := Blk.new w 25 #[.int .i64 p, .int .i64 q, .int .i64 g]
  have C := B.cells
  cases h1 : inR (n : Int) 1 7
  · have H := Lib.hid h1
    rw [Bool.false_and]
    clear h1
    go_enter Try.func114, Try.ntmps114
    go_wp2_with fail
    refine (within_any _ _ _ _).mono ?_
    rintro e w1 ⟨he, rfl⟩
    rw [H.out] at he; subst he
    go_wp2
    go_ret
    exact ⟨rfl, E⟩
  · have H := Lib.hid h1
    rw [Bool.true_and]
    clear h1
    go_enter Try.func114, Try.ntmps114
    go_wp2_with fail
    refine (within_any _ _ _ _).mono ?_
    rintro e w1 ⟨he, rfl⟩
    rw [H.out] at he; subst he
    go_wp2_with fail
    refine (hasAll_any p q g A n c l _ h (ha.ext E) hl hn).mono ?_
    rintro e w2 ⟨rfl, hE⟩
    go_wp2
    go_ret
    exact ⟨rfl, E.trans hE⟩
set_option maxHeartbeats 400000 in
theorem sCommits_any (p q g : Int) (A : Option Addr) (n c : Nat) (l : List Int) (w : World) (h : GrpB p q) (ha : RdI w A l) (hl : l.length = n) (hn : n ≤ maxLen) : Calls Try.prog 82 #[.agg #[.int .i64 p, .int .i64 q, .int .i64 g], .slice A n c] w fun e w' => e = .returned (.bool (inR n 1 7 && l.all (elB p q))) ∧ Ext w w' := by
  have E := (Ext.refl w).alloc (.cells #[.int .i64 p, .int .i64 q, .int .i64 g] 25)
  have B := Blk.new w 25 #[.int .i64 p, .int .i64 q, .int .i64 g]
  have C := B.cells
  cases h1 : inR (n : Int) 1 7
  · have H := Lib.hid h1
    rw [Bool.false_and]
    clear h1
    go_enter Try.func82, Try.ntmps82
    go_wp2_with fail
    refine (l1In_any _ _ _ _).mono ?_
    rintro e w1 ⟨he, rfl⟩
    rw [H.out] at he; subst he
    go_wp2
    go_ret
    exact ⟨rfl, E⟩
  · have H := Lib.hid h1
    rw [Bool.true_and]
    clear h1
    go_enter Try.func82, Try.ntmps82
    go_wp2_with fail
    refine (l1In_any _ _ _ _).mono ?_
    rintro e w1 ⟨he, rfl⟩
    rw [H.out] at he; subst he
    go_wp2_with fail
    refine (gIs_any p q g A n c l _ h (ha.ext E) hl hn).mono ?_
    rintro e w2 ⟨rfl, hE⟩
    go_wp2
    go_ret
    exact ⟨rfl, E.trans hE⟩
set_option maxRecDepth 100000 in
set_option maxHeartbeats 4000000 in
theorem areSharesOf_any (p q g : Int) (A : Option Addr) (n c : Nat) (cs : List Int) (B : Option Addr) (m d : Nat) (is : List Int) (C : Option Addr) (k e : Nat) (ss : List Int) (w : World) (ha : RdI w A cs) (hl : cs.length = n) (_hn : n ≤ 1048576) (hc : n ≤ c ∧ c ≤ maxLen) (hB : RdI w B is) (hm : is.length = m) (_hm2 : m ≤ 1048576) (hd : m ≤ d ∧ d ≤ maxLen) (hC : RdI w C ss) (hk : ss.length = k) (_hk2 : k ≤ 1048576) (he : k ≤ e ∧ e ≤ maxLen) :
    Calls Try.prog 87 #[.agg #[.int .i64 p, .int .i64 q, .int .i64 g], .slice A n c, .slice B m d, .slice C k e] w fun en w' => en = .returned (.bool (rsG p q g cs is ss)) ∧ Ext w w' := by
  have hmx : 1048576 ≤ maxLen := by unfold maxLen; omega
  have E := (Ext.refl w).alloc (.cells #[.int .i64 p, .int .i64 q, .int .i64 g] 25)
  have B0 := Blk.new w 25 #[.int .i64 p, .int .i64 q, .int .i64 g]
  cases h1 : (decide (7 < q) && grpB p q g)
  · have hv : rsG p q g cs is ss = false := by simp only [rsG, hl, h1, Bool.false_and]
    have HV := Lib.hid hv
    have H1 := Lib.hid h1
    clear hv h1
    go_enter Try.func87, Try.ntmps87
    have CC := B0.cells
    go_wp2_with fail
    refine (isSharing_any p q g _).mono ?_
    rintro en w9 ⟨hen, hb9⟩
    rw [H1.out] at hen; subst hen
    replace E := E.trans hb9
    replace B0 := B0.ext hb9
    clear hb9 CC
    go_wp2
    go_ret
    exact ⟨by rw [HV.out]; rfl, E⟩
  have H1 := Lib.hid h1
  have hG := (grpB_in (by rw [Bool.and_eq_true] at h1; exact h1.2)).bd
  cases h2 : (inR (n : Int) 1 7 && cs.all (elB p q))
  · have hv : rsG p q g cs is ss = false := by simp only [rsG, hl, h1, h2, Bool.false_and, Bool.true_and]
    have HV := Lib.hid hv
    have H2 := Lib.hid h2
    clear hv h1 h2
    go_enter Try.func87, Try.ntmps87
    have CC := B0.cells
    go_wp2_with fail
    refine (isSharing_any p q g _).mono ?_
    rintro en w9 ⟨hen, hb9⟩
    rw [H1.out] at hen; subst hen
    replace E := E.trans hb9
    replace B0 := B0.ext hb9
    clear hb9 CC
    have CC := B0.cells
    go_wp2_with fail
    refine (areCommits_any p q g A n c cs _ hG (ha.ext E) hl (by omega)).mono ?_
    rintro en w9 ⟨hen, hb9⟩
    rw [H2.out] at hen; subst hen
    replace E := E.trans hb9
    replace B0 := B0.ext hb9
    clear hb9 CC
    go_wp2
    go_ret
    exact ⟨by rw [HV.out]; rfl, E⟩
  have H2 := Lib.hid h2
  cases h3 : (allR is 1 7 && diffB is)
  · have hv : rsG p q g cs is ss = false := by simp only [rsG, hl, h1, h2, h3, Bool.false_and, Bool.true_and]
    have HV := Lib.hid hv
    have H3 := Lib.hid h3
    clear hv h1 h2 h3
    go_enter Try.func87, Try.ntmps87
    have CC := B0.cells
    go_wp2_with fail
    refine (isSharing_any p q g _).mono ?_
    rintro en w9 ⟨hen, hb9⟩
    rw [H1.out] at hen; subst hen
    replace E := E.trans hb9
    replace B0 := B0.ext hb9
    clear hb9 CC
    have CC := B0.cells
    go_wp2_with fail
    refine (areCommits_any p q g A n c cs _ hG (ha.ext E) hl (by omega)).mono ?_
    rintro en w9 ⟨hen, hb9⟩
    rw [H2.out] at hen; subst hen
    replace E := E.trans hb9
    replace B0 := B0.ext hb9
    clear hb9 CC
    have CC := B0.cells
    go_wp2_with fail
    refine (areTrustees_any B m d is _ (hB.ext E) hm hd.1 hd.2).mono ?_
    rintro en w9 ⟨hen, hb9⟩
    rw [H3.out] at hen; subst hen
    replace E := E.trans hb9
    replace B0 := B0.ext hb9
    clear hb9 CC
    go_wp2
    go_ret
    exact ⟨by rw [HV.out]; rfl, E⟩
  have H3 := Lib.hid h3
  by_cases h4 : k = m
  case neg =>
    have hz : ((k : Int) == (m : Int)) = false := by simp; omega
    have hv : rsG p q g cs is ss = false := by
      simp only [rsG, hl, h1, h2, h3, Bool.true_and]
      rw [decide_eq_false (by omega), Bool.false_and]
    have HV := Lib.hid hv
    clear hv h1 h2 h3 h4
    go_enter Try.func87, Try.ntmps87
    have CC := B0.cells
    go_wp2_with fail
    refine (isSharing_any p q g _).mono ?_
    rintro en w9 ⟨hen, hb9⟩
    rw [H1.out] at hen; subst hen
    replace E := E.trans hb9
    replace B0 := B0.ext hb9
    clear hb9 CC
    have CC := B0.cells
    go_wp2_with fail
    refine (areCommits_any p q g A n c cs _ hG (ha.ext E) hl (by omega)).mono ?_
    rintro en w9 ⟨hen, hb9⟩
    rw [H2.out] at hen; subst hen
    replace E := E.trans hb9
    replace B0 := B0.ext hb9
    clear hb9 CC
    have CC := B0.cells
    go_wp2_with fail
    refine (areTrustees_any B m d is _ (hB.ext E) hm hd.1 hd.2).mono ?_
    rintro en w9 ⟨hen, hb9⟩
    rw [H3.out] at hen; subst hen
    replace E := E.trans hb9
    replace B0 := B0.ext hb9
    clear hb9 CC
    go_wp2
    go_ret
    exact ⟨by rw [HV.out]; rfl, E⟩
  have hz : ((k : Int) == (m : Int)) = true := by simp; omega
  obtain ⟨v5, h5⟩ : ∃ v5, allR ss 0 (q - 1) = v5 := ⟨_, rfl⟩
  have hv : rsG p q g cs is ss = v5 := by
    simp only [rsG, hl, h1, h2, h3, Bool.true_and]
    rw [decide_eq_true (by omega), Bool.true_and, h5]
  have HV := Lib.hid hv
  have H5 := Lib.hid h5
  clear hv h1 h2 h3 h4 h5
  go_enter Try.func87, Try.ntmps87
  have CC := B0.cells
  go_wp2_with fail
  refine (isSharing_any p q g _).mono ?_
  rintro en w9 ⟨hen, hb9⟩
  rw [H1.out] at hen; subst hen
  replace E := E.trans hb9
  replace B0 := B0.ext hb9
  clear hb9 CC
  have CC := B0.cells
  go_wp2_with fail
  refine (areCommits_any p q g A n c cs _ hG (ha.ext E) hl (by omega)).mono ?_
  rintro en w9 ⟨hen, hb9⟩
  rw [H2.out] at hen; subst hen
  replace E := E.trans hb9
  replace B0 := B0.ext hb9
  clear hb9 CC
  have CC := B0.cells
  go_wp2_with fail
  refine (areTrustees_any B m d is _ (hB.ext E) hm hd.1 hd.2).mono ?_
  rintro en w9 ⟨hen, hb9⟩
  rw [H3.out] at hen; subst hen
  replace E := E.trans hb9
  replace B0 := B0.ext hb9
  clear hb9 CC
  have CC := B0.cells
  go_wp2_with fail
  refine (areExps_any p q g C k e ss _ hG (hC.ext E) hk (by omega)).mono ?_
  rintro en w9 ⟨hen, hb9⟩
  rw [H5.out] at hen; subst hen
  replace E := E.trans hb9
  replace B0 := B0.ext hb9
  clear hb9 CC
  go_wp2
  go_ret
  exact ⟨by rw [HV.out]; rfl, E⟩
set_option maxRecDepth 100000 in
set_option maxHeartbeats 4000000 in
theorem iRecoverShare_any (p q g : Int) (A : Option Addr) (n c : Nat) (cs : List Int) (i : Int) (B : Option Addr) (m d : Nat) (is : List Int) (C : Option Addr) (k e : Nat) (ss : List Int) (w : World) (ha : RdI w A cs) (hl : cs.length = n) (hn : n ≤ 1048576) (hc : n ≤ c ∧ c ≤ maxLen) (hB : RdI w B is) (hm : is.length = m) (hm2 : m ≤ 1048576) (hd : m ≤ d ∧ d ≤ maxLen) (hC : RdI w C ss) (hk : ss.length = k) (hk2 : k ≤ 1048576) (he : k ≤ e ∧ e ≤ maxLen) :
    Calls Try.prog 34 #[.agg #[.int .i64 p, .int .i64 q, .int .i64 g], .slice A n c, .int .i64 i, .slice B m d, .slice C k e] w fun en w2 => en = .returned (.tuple #[.int .i64 (rsV p q g cs i is ss), .bool (rsK p q g cs i is ss)]) ∧ Ext w w2 := by
  have hmx : 1048576 ≤ maxLen := by unfold maxLen; omega
  have E := (Ext.refl w).alloc (.cells #[.int .i64 p, .int .i64 q, .int .i64 g] 25)
  have B0 := Blk.new w 25 #[.int .i64 p, .int .i64 q, .int .i64 g]
  cases hg : rsG p q g cs is ss
  · have HG := Lib.hid hg
    have hb : rsB p q g cs i is ss = false := by
      unfold rsB; rw [hg, Bool.false_and]
    have hv : rsV p q g cs i is ss = 0 := by unfold rsV; rw [hb]; rfl
    have hk0 : rsK p q g cs i is ss = false := by unfold rsK; rw [hb]; rfl
    have HV := Lib.hid hv
    have HK := Lib.hid hk0
    clear hg hb hv hk0
    go_enter Try.func34, Try.ntmps34
    have CC := B0.cells
    go_wp2_with fail
    refine (areSharesOf_any p q g A n c cs B _ d is C _ e ss _ (ha.ext E) hl hn hc (hB.ext E) hm hm2 hd (hC.ext E) hk hk2 he).mono ?_
    rintro en w9 ⟨hen, hb9⟩
    rw [HG.out] at hen; subst hen
    replace E := E.trans hb9
    replace B0 := B0.ext hb9
    clear hb9 CC
    go_wp2
    go_ret2
    exact ⟨by rw [HV.out, HK.out]; rfl, E⟩
  cases hi : inR i 1 7
  · have HG := Lib.hid hg
    have HI := Lib.hid hi
    have hb : rsB p q g cs i is ss = false := by
      unfold rsB; rw [hi, Bool.and_false]
    have hv : rsV p q g cs i is ss = 0 := by unfold rsV; rw [hb]; rfl
    have hk0 : rsK p q g cs i is ss = false := by unfold rsK; rw [hb]; rfl
    have HV := Lib.hid hv
    have HK := Lib.hid hk0
    clear hg hi hb hv hk0
    go_enter Try.func34, Try.ntmps34
    have CC := B0.cells
    go_wp2_with fail
    refine (areSharesOf_any p q g A n c cs B _ d is C _ e ss _ (ha.ext E) hl hn hc (hB.ext E) hm hm2 hd (hC.ext E) hk hk2 he).mono ?_
    rintro en w9 ⟨hen, hb9⟩
    rw [HG.out] at hen; subst hen
    replace E := E.trans hb9
    replace B0 := B0.ext hb9
    clear hb9 CC
    have CC := B0.cells
    go_wp2_with fail
    refine (isTrustee_any i _).mono ?_
    rintro en w9 ⟨hen, rfl⟩
    rw [HI.out] at hen; subst hen
    clear CC
    go_wp2
    go_ret2
    exact ⟨by rw [HV.out, HK.out]; rfl, E⟩
  have HG := Lib.hid hg
  have HI := Lib.hid hi
  have hb : rsB p q g cs i is ss = true := by unfold rsB; rw [hg, hi]; rfl
  have hv : rsV p q g cs i is ss = rcV p q g cs i is ss := by unfold rsV; rw [hb]; rfl
  have hk0 : rsK p q g cs i is ss = rcK p q g cs is ss := by unfold rsK; rw [hb, Bool.true_and]
  have HV := Lib.hid hv
  have HK := Lib.hid hk0
  have hG1 := hg
  simp only [rsG, Bool.and_eq_true, decide_eq_true_eq] at hG1
  obtain ⟨⟨a1, a2⟩, ⟨a3, a4⟩, ⟨a5, a6⟩, a7, a8⟩ := hG1
  have hp9 := (grpB_in a2).p9
  have a3 := inR_iff.1 a3
  have a9 := trustees_le a5 a6
  have a10 := els_rg hp9 a4
  have a11 := allR_iff.1 a5
  have a12 := allR_iff.1 a8
  have a13 : is.Nodup := by unfold diffB at a6; exact of_decide_eq_true a6
  have a14 := inR_iff.1 hi
  have hkm : k = m := by omega
  subst hkm
  have HA5 := Lib.hid a10
  have HA6 := Lib.hid a11
  have HA7 := Lib.hid a12
  have HA8 := Lib.hid a13
  have HA9 := Lib.hid a2
  clear hg hi hb hv hk0 a10 a11 a12 a13 a5 a6 a8 a4 a2
  go_enter Try.func34, Try.ntmps34
  have CC := B0.cells
  go_wp2_with fail
  refine (areSharesOf_any p q g A n c cs B _ d is C _ e ss _ (ha.ext E) hl hn hc (hB.ext E) hm hm2 hd (hC.ext E) hk hk2 he).mono ?_
  rintro en w9 ⟨hen, hb9⟩
  rw [HG.out] at hen; subst hen
  replace E := E.trans hb9
  replace B0 := B0.ext hb9
  clear hb9 CC
  have CC := B0.cells
  go_wp2_with fail
  refine (isTrustee_any i _).mono ?_
  rintro en w9 ⟨hen, rfl⟩
  rw [HI.out] at hen; subst hen
  clear CC
  have CC := B0.cells
  go_wp2_with fail
  refine (valueAt_any p q g i A n c cs B k d is C e ss _ HA9.out a1 (ha.ext E) hl (by omega) HA5.out a14 (hB.ext E) hm (by omega) (hC.ext E) hk HA6.out HA8.out HA7.out).mono ?_
  rintro en w8 ⟨rfl, hb8⟩
  go_wp2
  go_ret2
  exact ⟨by rw [HV.out, HK.out]; rfl, E.trans hb8⟩
set_option maxRecDepth 100000 in
set_option maxHeartbeats 4000000 in
theorem sRecoverShare_any (p q g : Int) (A : Option Addr) (n c : Nat) (cs : List Int) (i : Int) (B : Option Addr) (m d : Nat) (is : List Int) (C : Option Addr) (k e : Nat) (ss : List Int) (w : World) (ha : RdI w A cs) (hl : cs.length = n) (hn : n ≤ 1048576) (hc : n ≤ c ∧ c ≤ maxLen) (hB : RdI w B is) (hm : is.length = m) (hm2 : m ≤ 1048576) (hd : m ≤ d ∧ d ≤ maxLen) (hC : RdI w C ss) (hk : ss.length = k) (hk2 : k ≤ 1048576) (he : k ≤ e ∧ e ≤ maxLen) :
    Calls Try.prog 31 #[.agg #[.int .i64 p, .int .i64 q, .int .i64 g], .slice A n c, .int .i64 i, .slice B m d, .slice C k e] w fun en w2 => en = .returned (.tuple #[.int .i64 (rsV p q g cs i is ss), .bool (rsK p q g cs i is ss)]) ∧ Ext w w2 := by
  have hmx : 1048576 ≤ maxLen := by unfold maxLen; omega
  have E := (Ext.refl w).alloc (.cells #[.int .i64 p, .int .i64 q, .int .i64 g] 25)
  have B0 := Blk.new w 25 #[.int .i64 p, .int .i64 q, .int .i64 g]
  cases h1 : (decide (7 < q) && grpB p q g)
  · have H1 := Lib.hid h1
    have hb : rsB p q g cs i is ss = false := by
      simp [rsB, rsG, h1]
    have hv : rsV p q g cs i is ss = 0 := by unfold rsV; rw [hb]; rfl
    have hk0 : rsK p q g cs i is ss = false := by unfold rsK; rw [hb]; rfl
    have HV := Lib.hid hv
    have HK := Lib.hid hk0
    clear h1 hb hv hk0
    go_enter Try.func31, Try.ntmps31
    have CC := B0.cells
    go_wp2_with fail
    refine (sGroup_any p q g _).mono ?_
    rintro en w9 ⟨hen, hb9⟩
    rw [H1.out] at hen; subst hen
    replace E := E.trans hb9
    replace B0 := B0.ext hb9
    clear hb9 CC
    go_wp2
    go_ret2
    exact ⟨by rw [HV.out, HK.out]; rfl, E⟩
  have H1 := Lib.hid h1
  have hG := (grpB_in (by rw [Bool.and_eq_true] at h1; exact h1.2)).bd
  cases h2 : (inR (n : Int) 1 7 && cs.all (elB p q))
  · have H2 := Lib.hid h2
    have hb : rsB p q g cs i is ss = false := by
      simp only [rsB, rsG, hl, h1, h2, Bool.false_and, Bool.true_and]
    have hv : rsV p q g cs i is ss = 0 := by unfold rsV; rw [hb]; rfl
    have hk0 : rsK p q g cs i is ss = false := by unfold rsK; rw [hb]; rfl
    have HV := Lib.hid hv
    have HK := Lib.hid hk0
    clear h1 h2 hb hv hk0
    go_enter Try.func31, Try.ntmps31
    have CC := B0.cells
    go_wp2_with fail
    refine (sGroup_any p q g _).mono ?_
    rintro en w9 ⟨hen, hb9⟩
    rw [H1.out] at hen; subst hen
    replace E := E.trans hb9
    replace B0 := B0.ext hb9
    clear hb9 CC
    have CC := B0.cells
    go_wp2_with fail
    refine (sCommits_any p q g A n c cs _ hG (ha.ext E) hl (by omega)).mono ?_
    rintro en w9 ⟨hen, hb9⟩
    rw [H2.out] at hen; subst hen
    replace E := E.trans hb9
    replace B0 := B0.ext hb9
    clear hb9 CC
    go_wp2
    go_ret2
    exact ⟨by rw [HV.out, HK.out]; rfl, E⟩
  have H2 := Lib.hid h2
  cases h3 : inR i 1 7
  · have H3 := Lib.hid h3
    have hb : rsB p q g cs i is ss = false := by
      simp only [rsB, h3, Bool.and_false]
    have hv : rsV p q g cs i is ss = 0 := by unfold rsV; rw [hb]; rfl
    have hk0 : rsK p q g cs i is ss = false := by unfold rsK; rw [hb]; rfl
    have HV := Lib.hid hv
    have HK := Lib.hid hk0
    clear h1 h2 h3 hb hv hk0
    go_enter Try.func31, Try.ntmps31
    have CC := B0.cells
    go_wp2_with fail
    refine (sGroup_any p q g _).mono ?_
    rintro en w9 ⟨hen, hb9⟩
    rw [H1.out] at hen; subst hen
    replace E := E.trans hb9
    replace B0 := B0.ext hb9
    clear hb9 CC
    have CC := B0.cells
    go_wp2_with fail
    refine (sCommits_any p q g A n c cs _ hG (ha.ext E) hl (by omega)).mono ?_
    rintro en w9 ⟨hen, hb9⟩
    rw [H2.out] at hen; subst hen
    replace E := E.trans hb9
    replace B0 := B0.ext hb9
    clear hb9 CC
    have CC := B0.cells
    go_wp2_with fail
    refine (l1In_any i 1 7 _).mono ?_
    rintro en w9 ⟨hen, rfl⟩
    rw [H3.out] at hen; subst hen
    clear CC
    go_wp2
    go_ret2
    exact ⟨by rw [HV.out, HK.out]; rfl, E⟩
  have H3 := Lib.hid h3
  by_cases h4 : m ≤ 7
  case neg =>
    have hz : ((m : Int) > 7) = True := by simp; omega
    have hb : rsB p q g cs i is ss = false := by
      cases hr : rsB p q g cs i is ss
      · rfl
      · simp only [rsB, rsG, Bool.and_eq_true] at hr
        have := trustees_le hr.1.2.2.1.1 hr.1.2.2.1.2
        omega
    have hv : rsV p q g cs i is ss = 0 := by unfold rsV; rw [hb]; rfl
    have hk0 : rsK p q g cs i is ss = false := by unfold rsK; rw [hb]; rfl
    have HV := Lib.hid hv
    have HK := Lib.hid hk0
    have hz7 : 7 < m := by omega
    clear h1 h2 h3 h4 hz hb hv hk0
    go_enter Try.func31, Try.ntmps31
    have CC := B0.cells
    go_wp2_with fail
    refine (sGroup_any p q g _).mono ?_
    rintro en w9 ⟨hen, hb9⟩
    rw [H1.out] at hen; subst hen
    replace E := E.trans hb9
    replace B0 := B0.ext hb9
    clear hb9 CC
    have CC := B0.cells
    go_wp2_with fail
    refine (sCommits_any p q g A n c cs _ hG (ha.ext E) hl (by omega)).mono ?_
    rintro en w9 ⟨hen, hb9⟩
    rw [H2.out] at hen; subst hen
    replace E := E.trans hb9
    replace B0 := B0.ext hb9
    clear hb9 CC
    have CC := B0.cells
    go_wp2_with fail
    refine (l1In_any i 1 7 _).mono ?_
    rintro en w9 ⟨hen, rfl⟩
    rw [H3.out] at hen; subst hen
    clear CC
    go_wp2
    go_ret2
    exact ⟨by rw [HV.out, HK.out]; rfl, E⟩
  cases h5 : allR is 1 7
  · have H5 := Lib.hid h5
    have hb : rsB p q g cs i is ss = false := by
      simp only [rsB, rsG, hl, h1, h2, h5, Bool.false_and, Bool.true_and]
    have hv : rsV p q g cs i is ss = 0 := by unfold rsV; rw [hb]; rfl
    have hk0 : rsK p q g cs i is ss = false := by unfold rsK; rw [hb]; rfl
    have HV := Lib.hid hv
    have HK := Lib.hid hk0
    clear h1 h2 h3 h5 hb hv hk0
    go_enter Try.func31, Try.ntmps31
    have CC := B0.cells
    go_wp2_with fail
    refine (sGroup_any p q g _).mono ?_
    rintro en w9 ⟨hen, hb9⟩
    rw [H1.out] at hen; subst hen
    replace E := E.trans hb9
    replace B0 := B0.ext hb9
    clear hb9 CC
    have CC := B0.cells
    go_wp2_with fail
    refine (sCommits_any p q g A n c cs _ hG (ha.ext E) hl (by omega)).mono ?_
    rintro en w9 ⟨hen, hb9⟩
    rw [H2.out] at hen; subst hen
    replace E := E.trans hb9
    replace B0 := B0.ext hb9
    clear hb9 CC
    have CC := B0.cells
    go_wp2_with fail
    refine (l1In_any i 1 7 _).mono ?_
    rintro en w9 ⟨hen, rfl⟩
    rw [H3.out] at hen; subst hen
    clear CC
    have CC := B0.cells
    go_wp2_with fail
    refine (l1All_any B m d is 1 7 _ (hB.ext E) hm (by omega)).mono ?_
    rintro en w9 ⟨hen, rfl⟩
    rw [H5.out] at hen; subst hen
    clear CC
    go_wp2
    go_ret2
    exact ⟨by rw [HV.out, HK.out]; rfl, E⟩
  have H5 := Lib.hid h5
  cases h6 : diffB is
  · have H6 := Lib.hid h6
    have hb : rsB p q g cs i is ss = false := by
      simp only [rsB, rsG, hl, h1, h2, h5, h6, Bool.false_and, Bool.and_false]
    have hv : rsV p q g cs i is ss = 0 := by unfold rsV; rw [hb]; rfl
    have hk0 : rsK p q g cs i is ss = false := by unfold rsK; rw [hb]; rfl
    have HV := Lib.hid hv
    have HK := Lib.hid hk0
    clear h1 h2 h3 h5 h6 hb hv hk0
    go_enter Try.func31, Try.ntmps31
    have CC := B0.cells
    go_wp2_with fail
    refine (sGroup_any p q g _).mono ?_
    rintro en w9 ⟨hen, hb9⟩
    rw [H1.out] at hen; subst hen
    replace E := E.trans hb9
    replace B0 := B0.ext hb9
    clear hb9 CC
    have CC := B0.cells
    go_wp2_with fail
    refine (sCommits_any p q g A n c cs _ hG (ha.ext E) hl (by omega)).mono ?_
    rintro en w9 ⟨hen, hb9⟩
    rw [H2.out] at hen; subst hen
    replace E := E.trans hb9
    replace B0 := B0.ext hb9
    clear hb9 CC
    have CC := B0.cells
    go_wp2_with fail
    refine (l1In_any i 1 7 _).mono ?_
    rintro en w9 ⟨hen, rfl⟩
    rw [H3.out] at hen; subst hen
    clear CC
    have CC := B0.cells
    go_wp2_with fail
    refine (l1All_any B m d is 1 7 _ (hB.ext E) hm (by omega)).mono ?_
    rintro en w9 ⟨hen, rfl⟩
    rw [H5.out] at hen; subst hen
    clear CC
    have CC := B0.cells
    go_wp2_with fail
    refine (yPts_any B m d is _ (hB.ext E) hm hd.1 hd.2).mono ?_
    rintro en w9 ⟨hen, rfl⟩
    rw [H6.out] at hen; subst hen
    clear CC
    go_wp2
    go_ret2
    exact ⟨by rw [HV.out, HK.out]; rfl, E⟩
  have H6 := Lib.hid h6
  by_cases h7 : k = m
  case neg =>
    have hz : ((k : Int) != (m : Int)) = true := by simp; omega
    have hb : rsB p q g cs i is ss = false := by
      simp only [rsB, rsG, hl, h1, h2, h5, h6, Bool.true_and]
      rw [decide_eq_false (by omega), Bool.false_and, Bool.false_and]
    have hv : rsV p q g cs i is ss = 0 := by unfold rsV; rw [hb]; rfl
    have hk0 : rsK p q g cs i is ss = false := by unfold rsK; rw [hb]; rfl
    have HV := Lib.hid hv
    have HK := Lib.hid hk0
    clear h1 h2 h3 h5 h6 h7 hb hv hk0
    go_enter Try.func31, Try.ntmps31
    have CC := B0.cells
    go_wp2_with fail
    refine (sGroup_any p q g _).mono ?_
    rintro en w9 ⟨hen, hb9⟩
    rw [H1.out] at hen; subst hen
    replace E := E.trans hb9
    replace B0 := B0.ext hb9
    clear hb9 CC
    have CC := B0.cells
    go_wp2_with fail
    refine (sCommits_any p q g A n c cs _ hG (ha.ext E) hl (by omega)).mono ?_
    rintro en w9 ⟨hen, hb9⟩
    rw [H2.out] at hen; subst hen
    replace E := E.trans hb9
    replace B0 := B0.ext hb9
    clear hb9 CC
    have CC := B0.cells
    go_wp2_with fail
    refine (l1In_any i 1 7 _).mono ?_
    rintro en w9 ⟨hen, rfl⟩
    rw [H3.out] at hen; subst hen
    clear CC
    have CC := B0.cells
    go_wp2_with fail
    refine (l1All_any B m d is 1 7 _ (hB.ext E) hm (by omega)).mono ?_
    rintro en w9 ⟨hen, rfl⟩
    rw [H5.out] at hen; subst hen
    clear CC
    have CC := B0.cells
    go_wp2_with fail
    refine (yPts_any B m d is _ (hB.ext E) hm hd.1 hd.2).mono ?_
    rintro en w9 ⟨hen, rfl⟩
    rw [H6.out] at hen; subst hen
    clear CC
    go_wp2
    go_ret2
    exact ⟨by rw [HV.out, HK.out]; rfl, E⟩
  subst h7
  have hz : ((k : Int) != (k : Int)) = false := by simp
  cases h8 : allR ss 0 (q - 1)
  · have H8 := Lib.hid h8
    have hb : rsB p q g cs i is ss = false := by
      simp only [rsB, rsG, hl, h1, h2, h5, h6, h8, Bool.false_and, Bool.true_and, Bool.and_false]
    have hv : rsV p q g cs i is ss = 0 := by unfold rsV; rw [hb]; rfl
    have hk0 : rsK p q g cs i is ss = false := by unfold rsK; rw [hb]; rfl
    have HV := Lib.hid hv
    have HK := Lib.hid hk0
    clear h1 h2 h3 h5 h6 h8 hb hv hk0
    go_enter Try.func31, Try.ntmps31
    have CC := B0.cells
    go_wp2_with fail
    refine (sGroup_any p q g _).mono ?_
    rintro en w9 ⟨hen, hb9⟩
    rw [H1.out] at hen; subst hen
    replace E := E.trans hb9
    replace B0 := B0.ext hb9
    clear hb9 CC
    have CC := B0.cells
    go_wp2_with fail
    refine (sCommits_any p q g A n c cs _ hG (ha.ext E) hl (by omega)).mono ?_
    rintro en w9 ⟨hen, hb9⟩
    rw [H2.out] at hen; subst hen
    replace E := E.trans hb9
    replace B0 := B0.ext hb9
    clear hb9 CC
    have CC := B0.cells
    go_wp2_with fail
    refine (l1In_any i 1 7 _).mono ?_
    rintro en w9 ⟨hen, rfl⟩
    rw [H3.out] at hen; subst hen
    clear CC
    have CC := B0.cells
    go_wp2_with fail
    refine (l1All_any B _ d is 1 7 _ (hB.ext E) hm (by omega)).mono ?_
    rintro en w9 ⟨hen, rfl⟩
    rw [H5.out] at hen; subst hen
    clear CC
    have CC := B0.cells
    go_wp2_with fail
    refine (yPts_any B _ d is _ (hB.ext E) hm hd.1 hd.2).mono ?_
    rintro en w9 ⟨hen, rfl⟩
    rw [H6.out] at hen; subst hen
    clear CC
    have CC := B0.cells
    go_wp2_with fail
    refine (gExps_any p q g C k e ss _ hG (hC.ext E) hk (by omega)).mono ?_
    rintro en w9 ⟨hen, hb9⟩
    rw [H8.out] at hen; subst hen
    replace E := E.trans hb9
    replace B0 := B0.ext hb9
    clear hb9 CC
    go_wp2
    go_ret2
    exact ⟨by rw [HV.out, HK.out]; rfl, E⟩
  have H8 := Lib.hid h8
  have hg : rsG p q g cs is ss = true := by
    simp only [rsG, hl, h1, h2, h5, h6, h8, Bool.true_and, Bool.and_true]
    rw [decide_eq_true (by omega)]
  have hi := h3
  have hb : rsB p q g cs i is ss = true := by unfold rsB; rw [hg, hi]; rfl
  have hv : rsV p q g cs i is ss = rcV p q g cs i is ss := by unfold rsV; rw [hb]; rfl
  have hk0 : rsK p q g cs i is ss = rcK p q g cs is ss := by unfold rsK; rw [hb, Bool.true_and]
  have HV := Lib.hid hv
  have HK := Lib.hid hk0
  have hG1 := hg
  simp only [rsG, Bool.and_eq_true, decide_eq_true_eq] at hG1
  obtain ⟨⟨a1, a2⟩, ⟨a3, a4⟩, ⟨a5, a6⟩, a7, a8⟩ := hG1
  have hp9 := (grpB_in a2).p9
  have a3 := inR_iff.1 a3
  have a9 := trustees_le a5 a6
  have a10 := els_rg hp9 a4
  have a11 := allR_iff.1 a5
  have a12 := allR_iff.1 a8
  have a13 : is.Nodup := by unfold diffB at a6; exact of_decide_eq_true a6
  have a14 := inR_iff.1 hi
  have HA5 := Lib.hid a10
  have HA6 := Lib.hid a11
  have HA7 := Lib.hid a12
  have HA8 := Lib.hid a13
  have HA9 := Lib.hid a2
  clear h1 h2 h3 h5 h6 h8 hg hi hb hv hk0 a10 a11 a12 a13 a5 a6 a8 a4 a2
  go_enter Try.func31, Try.ntmps31
  have CC := B0.cells
  go_wp2_with fail
  refine (sGroup_any p q g _).mono ?_
  rintro en w9 ⟨hen, hb9⟩
  rw [H1.out] at hen; subst hen
  replace E := E.trans hb9
  replace B0 := B0.ext hb9
  clear hb9 CC
  have CC := B0.cells
  go_wp2_with fail
  refine (sCommits_any p q g A n c cs _ hG (ha.ext E) hl (by omega)).mono ?_
  rintro en w9 ⟨hen, hb9⟩
  rw [H2.out] at hen; subst hen
  replace E := E.trans hb9
  replace B0 := B0.ext hb9
  clear hb9 CC
  have CC := B0.cells
  go_wp2_with fail
  refine (l1In_any i 1 7 _).mono ?_
  rintro en w9 ⟨hen, rfl⟩
  rw [H3.out] at hen; subst hen
  clear CC
  have CC := B0.cells
  go_wp2_with fail
  refine (l1All_any B _ d is 1 7 _ (hB.ext E) hm (by omega)).mono ?_
  rintro en w9 ⟨hen, rfl⟩
  rw [H5.out] at hen; subst hen
  clear CC
  have CC := B0.cells
  go_wp2_with fail
  refine (yPts_any B _ d is _ (hB.ext E) hm hd.1 hd.2).mono ?_
  rintro en w9 ⟨hen, rfl⟩
  rw [H6.out] at hen; subst hen
  clear CC
  have CC := B0.cells
  go_wp2_with fail
  refine (gExps_any p q g C k e ss _ hG (hC.ext E) hk (by omega)).mono ?_
  rintro en w9 ⟨hen, hb9⟩
  rw [H8.out] at hen; subst hen
  replace E := E.trans hb9
  replace B0 := B0.ext hb9
  clear hb9 CC
  have CC := B0.cells
  go_wp2_with fail
  refine (rValue_any p q g i A n c cs B k d is C e ss _ HA9.out a1 (ha.ext E) hl (by omega) HA5.out a14 (hB.ext E) hm (by omega) (hC.ext E) hk HA6.out HA8.out HA7.out).mono ?_
  rintro en w8 ⟨rfl, hb8⟩
  go_wp2
  go_ret2
  exact ⟨by rw [HV.out, HK.out]; rfl, E.trans hb8⟩
end Go.Proofs.Ythamimjejlicpaa

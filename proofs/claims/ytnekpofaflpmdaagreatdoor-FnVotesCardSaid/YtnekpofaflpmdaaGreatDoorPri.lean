/- Contracts for ParseVote: the program's. -/
import Derived.Test.YtnekpofaflpmdaaGreatDoorProg
import Derived.Test.YtnekpofaflpmdaaGreatDoorPrs
import Derived.Test.YtnekpofaflpmdaaGreatDoorAtm
import Derived.Test.YtnekpofaflpmdaaGreatDoorVti
namespace Go.Proofs.YtnekpofaflpmdaaGreatDoor
open Go.RowKit
theorem toList_inj' {a b : ByteArray} (h : a.toList = b.toList) : a = b := by
  rw [Lib.toList_data, Lib.toList_data] at h
  exact ByteArray.ext (Array.toList_inj.1 h)
set_option maxHeartbeats 2000000 in
set_option maxRecDepth 100000 in
theorem iParseVote_any (a b c d f : Int) (s : ByteArray) (w : World) (hs : s.size ≤ 1048576) (hL : LibW w) :
    Calls Tryz.prog 10 #[.agg #[.int .i64 a, .int .i64 b, .int .i64 c, .int .i64 d, .int .i64 f], .string s] w fun e w' => ResI 3 w (pvO a b c d f s) e w' := by
  have E0 := (Ext.refl w).alloc (.cells #[.int .i64 a, .int .i64 b, .int .i64 c, .int .i64 d, .int .i64 f] 25)
  cases h : validCt a b c d f
  · have hr : pvO a b c d f s = none := by simp [pvO, pvG, h]
    rw [hr]; clear hr
    go_enter Tryz.func10, Tryz.ntmps10
    go_wp2_with fail
    refine (IsValidContest_any _ _ _ _ _ _).mono ?_
    rintro e w1 ⟨he, hb⟩
    rw [h] at he; subst he
    go_wp2
    go_ret2
    exact ⟨none, 0, 0, rfl, OwnI.nil _ _ _, E0.trans hb⟩
  · have H := Lib.hid h
    clear h
    rcases Nat.lt_or_ge 40 s.size with hlong | hshort
    · have hr : pvO a b c d f s = none := by
        rw [pvO, pvG_long (by omega)]; rfl
      rw [hr]; clear hr
      go_enter Tryz.func10, Tryz.ntmps10
      go_wp2_with fail
      refine (IsValidContest_any _ _ _ _ _ _).mono ?_
      rintro e w1 ⟨he, hb⟩
      rw [H.out] at he; subst he
      go_wp2
      go_ret2
      exact ⟨none, 0, 0, rfl, OwnI.nil _ _ _, E0.trans hb⟩
    by_cases hd : s = ⟨#[45]⟩
    · have HP : Hid (prP a s = []) := by show _ = _; rw [prP, if_pos hd]
      have hD : (s.toList == [45]) = true := by rw [hd, Lib.toList_data]; rfl
      clear hd
      go_enter Tryz.func10, Tryz.ntmps10
      go_wp2_with fail
      refine (IsValidContest_any _ _ _ _ _ _).mono ?_
      rintro e w1 ⟨he, hb⟩
      rw [H.out] at he; subst he
      have B1 := (Blk.new w 25 _).ext hb
      have E1 := E0.trans hb
      have hsz1 := E1.size
      have hX0 : OwnI (w1.alloc (.cells #[] 3)) w1.heap.size 3 (some ⟨w1.heap.size, 0, none⟩) 0 0 [] := World.ownsRow_lit (base := w1.heap.size) (e := 3) (size := 1) w1 #[] 0 (Nat.le_refl _) (by unfold maxLen; omega) rfl
      have B2 := B1.alloc (.cells #[] 3)
      have E2 := E1.alloc (.cells #[] 3)
      have hb2 := hb.alloc (.cells #[] 3)
      have EV := (Ext.refl w1).alloc (.cells #[] 3)
      have HL1 := hL.ext E1
      clear hb
      generalize hVW : w1.alloc (.cells #[] 3) = W at *
      have C2 := B2.cells
      have hO := hX0.more (base' := w.heap.size) (by omega)
      have E := E2
      have B := B2
      have HG : Hid (pvO a b c d f s = if (voteB a b c d f [] && decide (vtT a [] = s)) = true then some [] else none) := by
        show _ = _
        rw [pvO_P]
        rw [HP.out]
        simp only [pvG, H.out, Bool.true_and]
      cases hv : voteB a b c d f []
      · go_wp2_with fail
        refine (isVote_any _ _ _ _ _ _ _ _ [] _ H.out hO.rd hO.len (by omega) hO.cap).mono ?_
        rintro e w8 ⟨he, hb8⟩
        rw [hv] at he; subst he
        go_wp2
        go_ret2
        rw [HG.out, hv]
        exact ⟨none, 0, 0, rfl, OwnI.nil _ _ _, E.trans hb8⟩
      · have hok : vtOK a [] := ivB_vtOK (b := b) (c := c) (d := d) (f := f) (by simp [ivB, H.out, hv])
        go_wp2_with fail
        refine (isVote_any _ _ _ _ _ _ _ _ [] _ H.out hO.rd hO.len (by omega) hO.cap).mono ?_
        rintro e w8 ⟨he, hb8⟩
        rw [hv] at he; subst he
        have B8 := B.ext hb8
        have C8 := B8.cells
        replace hO := hO.ext hb8
        replace E := E.trans hb8
        have h8 := voteB_len (a := a) (b := b) (c := c) (d := d) (f := f) (v := []) (by simp [ivB, H.out, hv])
        have hlk := hO.len
        go_wp2_with fail
        refine (voteText_any _ _ _ _ _ _ _ _ [] _ hO.rd hO.len (by omega) hO.cap hok).mono ?_
        rintro e w9 ⟨rfl, hb9⟩
        replace hO := hO.ext hb9
        replace E := E.trans hb9
        clear hlk h8 hok
        by_cases ht : vtT a [] = s
        · have HT := Lib.hid ht
          rw [ht]
          clear ht
          go_wp2
          go_ret2
          rw [HG.out, hv, decide_eq_true HT.out]
          exact ⟨_, _, _, rfl, hO, E⟩
        · have hnl : ((vtT a []).toList == s.toList) = false := by
            rw [beq_eq_false_iff_ne]
            intro h
            exact ht (toList_inj' h)
          generalize vtT a [] = u at *
          go_wp2
          go_ret2
          rw [HG.out, hv, decide_eq_false ht]
          exact ⟨none, 0, 0, rfl, OwnI.nil _ _ _, E⟩
    · have hD : (s.toList == [45]) = false := by
        rw [beq_eq_false_iff_ne]
        intro h
        exact hd (toList_inj' (h.trans (by rw [Lib.toList_data])))
      by_cases h4 : a = 4
      · subst h4
        have HP : Hid (prP 4 s = s.data.toList.map fun b => (b.toNat : Int) - 96) := by show _ = _; rw [prP, if_neg hd, if_pos rfl]
        clear hd
        obtain ⟨V, hV⟩ : ∃ V, (s.data.toList.map fun b => (b.toNat : Int) - 96) = V := ⟨_, rfl⟩
        have HP : Hid (prP 4 s = V) := HP.out.trans hV
        have hVl : V.length = s.size := by rw [← hV, List.length_map]; simp
        have hVj : ∀ j, (hj : j < s.size) → V.take (j + 1) = V.take j ++ [((s[j].toNat : Int)) - 97 + 1] := fun j hj => by
          rw [List.take_succ_eq_append_getElem (by omega)]
          congr 2
          subst hV
          rw [List.getElem_map]
          show ((s.data.toList[j]'_).toNat : Int) - 96 = ((s.data.toList[j]'_).toNat : Int) - 97 + 1
          omega
        have HVJ := Lib.hid hVj
        have HVL := Lib.hid hVl
        clear hV hVj hVl
        go_enter Tryz.func10, Tryz.ntmps10
        go_wp2_with fail
        refine (IsValidContest_any _ _ _ _ _ _).mono ?_
        rintro e w1 ⟨he, hb⟩
        rw [H.out] at he; subst he
        have B1 := (Blk.new w 25 _).ext hb
        have E1 := E0.trans hb
        have hsz1 := E1.size
        have hX0 : OwnI (w1.alloc (.cells #[] 3)) w1.heap.size 3 (some ⟨w1.heap.size, 0, none⟩) 0 0 [] := World.ownsRow_lit (base := w1.heap.size) (e := 3) (size := 1) w1 #[] 0 (Nat.le_refl _) (by unfold maxLen; omega) rfl
        have B2 := B1.alloc (.cells #[] 3)
        have E2 := E1.alloc (.cells #[] 3)
        have hb2 := hb.alloc (.cells #[] 3)
        have EV := (Ext.refl w1).alloc (.cells #[] 3)
        have HL1 := hL.ext E1
        clear hb
        generalize hVW : w1.alloc (.cells #[] 3) = W at *
        have C2 := B2.cells
        go_wp2
        go_loopw [6, 47] (fun v i wr => ∃ (j q : Nat) (A : Option Addr), j ≤ s.size ∧ i = .int .i64 j ∧ v = .slice A j q ∧ OwnI wr w1.heap.size 3 A j q (V.take j) ∧ Ext w1 wr) (fun _ i _ => s.size - (intOf i).toNat)
        case atStart => exact ⟨0, 0, _, Nat.zero_le _, rfl, rfl, hX0, EV⟩
        case round =>
          obtain ⟨j, q, A, hj, rfl, rfl, hO, hE⟩ := hrel
          have B := B1.ext hE
          have C := B.cells
          have hsz := hE.size
          by_cases hlt : j < s.size
          · have HN := Lib.hid (HVJ.out j hlt)
            have hw : wrap64 (wrap64 (wrap64 (s[j].toNat : Int) - 97) + 1) = (s[j].toNat : Int) - 97 + 1 := by
              have := s[j].toNat_lt
              simp only [wrap64]; omega
            have HW := Lib.hid hw
            clear hw
            go_wp2_with (at_builtin; refine wpList_app1 intSl rfl _ _ rfl hO rfl rfl (by omega) (by omega) ?_; intro A2 d2 w2 hO2 hb2)
            go_roundw
            case rel => exact ⟨j + 1, d2, A2, by omega, by go_num, rfl, by rw [HN.out, ← HW.out]; exact hO2, hE.then hb2 (by omega)⟩
            case measure => simp [intOf]; omega
          · obtain rfl : j = s.size := by omega
            rw [List.take_of_length_le (Nat.le_of_eq HVL.out)] at hO
            replace hO := hO.more (base' := w.heap.size) (by omega)
            have E := E1.trans hE
            clear hlt
            have HG : Hid (pvO 4 b c d f s = if (voteB 4 b c d f V && decide (vtT 4 V = s)) = true then some V else none) := by
              show _ = _
              rw [pvO_P]
              rw [HP.out]
              simp only [pvG, H.out, Bool.true_and]
            cases hv : voteB 4 b c d f V
            · go_wp2_with fail
              refine (isVote_any _ _ _ _ _ _ _ _ V _ H.out hO.rd hO.len (by omega) hO.cap).mono ?_
              rintro e w8 ⟨he, hb8⟩
              rw [hv] at he; subst he
              go_wp2
              go_ret2
              rw [HG.out, hv]
              exact ⟨none, 0, 0, rfl, OwnI.nil _ _ _, E.trans hb8⟩
            · have hok : vtOK 4 V := ivB_vtOK (b := b) (c := c) (d := d) (f := f) (by simp [ivB, H.out, hv])
              go_wp2_with fail
              refine (isVote_any _ _ _ _ _ _ _ _ V _ H.out hO.rd hO.len (by omega) hO.cap).mono ?_
              rintro e w8 ⟨he, hb8⟩
              rw [hv] at he; subst he
              have B8 := B.ext hb8
              have C8 := B8.cells
              replace hO := hO.ext hb8
              replace E := E.trans hb8
              have h8 := voteB_len (a := 4) (b := b) (c := c) (d := d) (f := f) (v := V) (by simp [ivB, H.out, hv])
              have hlk := hO.len
              go_wp2_with fail
              refine (voteText_any _ _ _ _ _ _ _ _ V _ hO.rd hO.len (by omega) hO.cap hok).mono ?_
              rintro e w9 ⟨rfl, hb9⟩
              replace hO := hO.ext hb9
              replace E := E.trans hb9
              clear hlk h8 hok
              by_cases ht : vtT 4 V = s
              · have HT := Lib.hid ht
                rw [ht]
                clear ht
                go_wp2
                go_ret2
                rw [HG.out, hv, decide_eq_true HT.out]
                exact ⟨_, _, _, rfl, hO, E⟩
              · have hnl : ((vtT 4 V).toList == s.toList) = false := by
                  rw [beq_eq_false_iff_ne]
                  intro h
                  exact ht (toList_inj' h)
                generalize vtT 4 V = u at *
                go_wp2
                go_ret2
                rw [HG.out, hv, decide_eq_false ht]
                exact ⟨none, 0, 0, rfl, OwnI.nil _ _ _, E⟩
      · have HP : Hid (prP a s = (Lib.splitB ⟨#[44]⟩ 0 (Lib.countB s ⟨#[44]⟩) s).map atoV) := by show _ = _; rw [prP, if_neg hd, if_neg h4]
        have hB4 : (a == 4) = false := by simpa using h4
        clear hd
        go_enter Tryz.func10, Tryz.ntmps10
        go_wp2_with fail
        refine (IsValidContest_any _ _ _ _ _ _).mono ?_
        rintro e w1 ⟨he, hb⟩
        rw [H.out] at he; subst he
        have B1 := (Blk.new w 25 _).ext hb
        have E1 := E0.trans hb
        have hsz1 := E1.size
        have hX0 : OwnI (w1.alloc (.cells #[] 3)) w1.heap.size 3 (some ⟨w1.heap.size, 0, none⟩) 0 0 [] := World.ownsRow_lit (base := w1.heap.size) (e := 3) (size := 1) w1 #[] 0 (Nat.le_refl _) (by unfold maxLen; omega) rfl
        have B2 := B1.alloc (.cells #[] 3)
        have E2 := E1.alloc (.cells #[] 3)
        have hb2 := hb.alloc (.cells #[] 3)
        have EV := (Ext.refl w1).alloc (.cells #[] 3)
        have HL1 := hL.ext E1
        clear hb
        generalize hVW : w1.alloc (.cells #[] 3) = W at *
        have C2 := B2.cells
        have HL2 := hL.ext E2
        go_wp2_with fail
        refine (Split_any s _ hs HL2).mono ?_
        rintro e w2 ⟨g, m, rfl, BG, hPl, hm8, hb⟩
        have hPs := splitB_size ⟨#[44]⟩ s.size (Lib.countB s ⟨#[44]⟩) s (Nat.le_refl _)
        generalize Lib.splitB ⟨#[44]⟩ 0 (Lib.countB s ⟨#[44]⟩) s = P at *
        obtain ⟨V, hV⟩ : ∃ V, P.map atoV = V := ⟨_, rfl⟩
        have HP : Hid (prP a s = V) := HP.out.trans hV
        have hVl : V.length = m := by rw [← hV, List.length_map, hPl]
        have hVj : ∀ j, (hj : j < P.length) → V.take (j + 1) = V.take j ++ [atoV P[j]] := fun j hj => by
          rw [List.take_succ_eq_append_getElem (by omega)]
          congr 2
          subst hV
          rw [List.getElem_map]
        have HVJ := Lib.hid hVj
        have HVL := Lib.hid hVl
        have HPL := Lib.hid hPl
        have HPS := Lib.hid hPs
        clear hV hVj hVl hPl hPs
        have hO0 := hX0.ext hb
        replace EV := EV.trans hb
        have B3 := B2.ext hb
        have hsz3 := EV.size
        clear hb
        go_wp2
        go_loopw [6, 24] (fun v i wr => ∃ (j q2 : Nat) (A : Option Addr), j ≤ m ∧ i = .int .i64 j ∧ v = .slice A j q2 ∧ OwnI wr w1.heap.size 3 A j q2 (V.take j) ∧ Blk wr g 9 (P.map Value.string).toArray ∧ Blk wr w.heap.size 25 #[.int .i64 a, .int .i64 b, .int .i64 c, .int .i64 d, .int .i64 f] ∧ Ext w1 wr) (fun _ i _ => m - (intOf i).toNat)
        case atStart => exact ⟨0, 0, _, Nat.zero_le _, rfl, rfl, hO0, BG, B3, EV⟩
        case round =>
          obtain ⟨j, q2, A, hj, rfl, rfl, hO, BGr, B, hE⟩ := hrel
          have C := B.cells
          have hsz := hE.size
          by_cases hlt : j < m
          · have hjP : j < P.length := by rw [HPL.out]; exact hlt
            have HN := Lib.hid (HVJ.out j hjP)
            have hc : wr.cell? ⟨g, j, none⟩ = some (.string P[j]) := by
              rw [BGr.cells j]; simp [hjP]
            have hps := HPS.out P[j] (List.getElem_mem hjP)
            generalize P[j] = x at *
            go_wp2_with fail
            refine (Atoi_any x _ (by omega) (HL1.ext hE)).mono ?_
            rintro e w3 ⟨er, rfl, hb⟩
            replace hO := hO.ext hb
            replace hE := hE.trans hb
            replace BGr := BGr.ext hb
            replace B := B.ext hb
            replace C := B.cells
            replace hsz := hE.size
            clear hb hc
            have NB := B.off_own hO.w (by decide)
            have NG := BGr.off_own hO.w (by decide)
            have HH := hO.high
            go_wp2_with (at_builtin; refine wpList_app1F intSl rfl _ _ rfl hO rfl rfl rfl (by omega) hsz ?_; intro A2 d2 w4 hO2 hk4 _)
            go_roundw
            case rel => exact ⟨j + 1, d2, A2, by omega, by go_num, rfl, by rw [HN.out]; exact hO2, BGr.only hk4 NG, B.only hk4 NB, hE.only hk4 HH⟩
            case measure => simp [intOf]; omega
          · obtain rfl : j = m := by omega
            rw [List.take_of_length_le (Nat.le_of_eq HVL.out)] at hO
            replace hO := hO.more (base' := w.heap.size) (by omega)
            have E := E1.trans hE
            clear hlt
            have HG : Hid (pvO a b c d f s = if (voteB a b c d f V && decide (vtT a V = s)) = true then some V else none) := by
              show _ = _
              rw [pvO_P]
              rw [HP.out]
              simp only [pvG, H.out, Bool.true_and]
            cases hv : voteB a b c d f V
            · go_wp2_with fail
              refine (isVote_any _ _ _ _ _ _ _ _ V _ H.out hO.rd hO.len (by omega) hO.cap).mono ?_
              rintro e w8 ⟨he, hb8⟩
              rw [hv] at he; subst he
              go_wp2
              go_ret2
              rw [HG.out, hv]
              exact ⟨none, 0, 0, rfl, OwnI.nil _ _ _, E.trans hb8⟩
            · have hok : vtOK a V := ivB_vtOK (b := b) (c := c) (d := d) (f := f) (by simp [ivB, H.out, hv])
              go_wp2_with fail
              refine (isVote_any _ _ _ _ _ _ _ _ V _ H.out hO.rd hO.len (by omega) hO.cap).mono ?_
              rintro e w8 ⟨he, hb8⟩
              rw [hv] at he; subst he
              have B8 := B.ext hb8
              have C8 := B8.cells
              replace hO := hO.ext hb8
              replace E := E.trans hb8
              have h8 := voteB_len (a := a) (b := b) (c := c) (d := d) (f := f) (v := V) (by simp [ivB, H.out, hv])
              have hlk := hO.len
              go_wp2_with fail
              refine (voteText_any _ _ _ _ _ _ _ _ V _ hO.rd hO.len (by omega) hO.cap hok).mono ?_
              rintro e w9 ⟨rfl, hb9⟩
              replace hO := hO.ext hb9
              replace E := E.trans hb9
              clear hlk h8 hok
              by_cases ht : vtT a V = s
              · have HT := Lib.hid ht
                rw [ht]
                clear ht
                go_wp2
                go_ret2
                rw [HG.out, hv, decide_eq_true HT.out]
                exact ⟨_, _, _, rfl, hO, E⟩
              · have hnl : ((vtT a V).toList == s.toList) = false := by
                  rw [beq_eq_false_iff_ne]
                  intro h
                  exact ht (toList_inj' h)
                generalize vtT a V = u at *
                go_wp2
                go_ret2
                rw [HG.out, hv, decide_eq_false ht]
                exact ⟨none, 0, 0, rfl, OwnI.nil _ _ _, E⟩
end Go.Proofs.YtnekpofaflpmdaaGreatDoor

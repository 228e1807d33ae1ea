/- Contracts for ParseVote: the reference's cut of a text at its commas, and the number of a word. -/
import Derived.Test.YtnekpofaflpmdaaDoorProg
import Derived.Test.YtnekpofaflpmdaaDoorPtp
import Derived.Lib.Strings
namespace Go.Proofs.YtnekpofaflpmdaaDoor
open Go.RowKit
/-- What the loop over a text keeps: the pieces so far, and the piece that is being read. -/
def cutI (L : List UInt8) (f j : Nat) (P : List ByteArray) : Prop := P.map (·.data.toList) ++ rgo ((L.take j).drop f) (L.drop j) = rgo [] L
theorem cutI_zero (L : List UInt8) : cutI L 0 0 [] := by simp [cutI]
theorem cutI_hit {L : List UInt8} {f j : Nat} {P : List ByteArray} {x : ByteArray} (h : cutI L f j P) (hj : j < L.length) (hc : L[j] = 44) (hx : x.data.toList = (L.take j).drop f) : cutI L (j + 1) (j + 1) (P ++ [x]) := by
  unfold cutI at h ⊢
  rw [List.drop_eq_getElem_cons hj, rgo, if_pos hc] at h
  rw [← h, List.map_append, List.append_assoc, List.map_cons, List.map_nil, hx]
  have : (L.take (j + 1)).drop (j + 1) = [] := by simp
  rw [this]; rfl
theorem cutI_miss {L : List UInt8} {f j : Nat} {P : List ByteArray} (h : cutI L f j P) (hj : j < L.length) (hf : f ≤ j) (hc : L[j] ≠ 44) : cutI L f (j + 1) P := by
  unfold cutI at h ⊢
  rw [List.drop_eq_getElem_cons hj, rgo, if_neg hc] at h
  rw [← h, List.take_succ_eq_append_getElem hj, List.drop_append_of_le_length (by simp; omega)]
theorem cutI_end {L : List UInt8} {f : Nat} {P : List ByteArray} {x : ByteArray} (h : cutI L f L.length P) (hx : x.data.toList = L.drop f) : (P ++ [x]).map (·.data.toList) = rgo [] L := by
  unfold cutI at h
  rw [List.drop_length, rgo, List.take_length] at h
  rw [← h, List.map_append, List.map_cons, List.map_nil, hx]
theorem ext_part (s : ByteArray) (f j : Nat) : (s.extract f j).data.toList = (s.data.toList.take j).drop f := by
  rw [Lib.extract_data, List.drop_take]
theorem ext_tail (s : ByteArray) (f : Nat) : (s.extract f s.size).data.toList = s.data.toList.drop f := by
  rw [ext_part, List.take_of_length_le (by simp)]
theorem rgo_len : ∀ l c : List UInt8, (rgo c l).length ≤ l.length + 1
  | [], c => by simp [rgo]
  | x :: l, c => by
    rw [rgo]
    split
    · have := rgo_len l []; simp; omega
    · have := rgo_len l (c ++ [x]); simp; omega
set_option maxHeartbeats 1000000 in
set_option maxRecDepth 100000 in
theorem l1Split_any (s : ByteArray) (w : World) (hs : s.size ≤ 1048576) :
    Calls Tryd.prog 25 #[.string s, .int .u8 44] w fun e w' => ∃ (X : Option Addr) (m q : Nat) (P : List ByteArray), e = .returned (.slice X m q) ∧ OwnW 1 w' w.heap.size 9 X m q (strV P) ∧ P.map (·.data.toList) = rgo [] s.data.toList ∧ Ext w w' := by
  go_enter Tryd.func25, Tryd.ntmps25
  go_wp2
  go_loopw [5, 6, 7] (fun o y i wr => ∃ (j f m q : Nat) (X : Option Addr) (P : List ByteArray), j ≤ s.size ∧ f ≤ j ∧ m ≤ j ∧ i = .int .i64 j ∧ y = .int .i64 f ∧ o = .slice X m q ∧ OwnW 1 wr w.heap.size 9 X m q (strV P) ∧ cutI s.data.toList f j P ∧ Ext w wr) (fun _ _ i _ => s.size - (intOf i).toNat)
  case atStart => exact ⟨0, 0, 0, 0, none, [], Nat.zero_le _, Nat.le_refl _, Nat.le_refl _, rfl, rfl, rfl, OwnW.nil _ _ _ _, cutI_zero _, Ext.refl _⟩
  case round =>
    obtain ⟨j, f, m, q, X, P, hj, hf, hm, rfl, rfl, rfl, hX, HC, E⟩ := hrel
    have hsz := E.size
    by_cases hlt : j < s.size
    · have hlL : j < s.data.toList.length := by simpa using hlt
      by_cases h44 : s[j] = 44
      · have HN := cutI_hit (x := s.extract f j) HC hlL h44 (ext_part s f j)
        have hB : (((s[j].toNat : Nat) : Int) == 44) = true := by rw [h44]; rfl
        clear h44 HC
        go_wp2_with (at_builtin; refine wpList_app1S (b := s.extract f j) strSl rfl _ _ rfl hX rfl rfl rfl (by omega) (by omega) ?_; intro A2 d2 w2 hO2 hb2)
        go_roundw
        case rel => exact ⟨j + 1, j + 1, m + 1, d2, A2, P ++ [s.extract f j], by omega, by omega, by omega, by go_num, by go_num, rfl, hO2, HN, E.then hb2 (Nat.le_refl _)⟩
        case measure => simp [intOf]; omega
      · have HN := cutI_miss HC hlL hf h44
        have hB : (((s[j].toNat : Nat) : Int) == 44) = false := by
          rw [beq_eq_false_iff_ne]
          intro h
          exact h44 (UInt8.toNat_inj.1 (by show s[j].toNat = 44; omega))
        clear h44 HC
        go_wp2
        go_roundw
        case rel => exact ⟨j + 1, f, m, q, X, P, by omega, by omega, by omega, by go_num, by go_num, rfl, hX, HN, E⟩
        case measure => simp [intOf]; omega
    · obtain rfl : j = s.size := by omega
      have hlen : s.data.toList.length = s.size := by simp
      have HN := cutI_end (x := s.extract f s.size) (by rw [hlen]; exact HC) (ext_tail s f)
      clear HC
      go_wp2_with (at_builtin; refine wpList_app1S (b := s.extract f s.size) strSl rfl _ _ rfl hX rfl rfl rfl (by omega) (by omega) ?_; intro A2 d2 w2 hO2 hb2)
      go_ret
      exact ⟨A2, m + 1, d2, P ++ [s.extract f s.size], rfl, hO2, HN, E.then hb2 (Nat.le_refl _)⟩
def p10 : Nat → Int
  | 0 => 1
  | n + 1 => 10 * p10 n
theorem p10_le : ∀ j < 6, p10 j ≤ 100000 := by decide
set_option maxHeartbeats 1000000 in
set_option maxRecDepth 100000 in
theorem l1Read_any (s : ByteArray) (w : World) :
    Calls Tryd.prog 26 #[.string s] w fun e w' => e = .returned (.int .i64 (rdV s)) ∧ w = w' := by
  have hlen : s.data.toList.length = s.size := by simp
  by_cases h1 : 1 ≤ s.size ∧ s.size ≤ 6
  · obtain ⟨h1, h6⟩ := h1
    have HR : Hid (inR (s.size : Int) 1 6 = true) := inR_iff.2 ⟨by omega, by omega⟩
    by_cases h48 : s[0] = 48 ∧ 1 < s.size
    · obtain ⟨h48, h2⟩ := h48
      have hV : rdV s = -1 := by
        rw [rdV, rdVL, if_pos]
        refine .inr (.inr ⟨?_, by omega⟩)
        rw [List.head?_eq_getElem?, List.getElem?_eq_getElem (by omega)]
        exact congrArg some h48
      rw [hV]
      have hB : (((s[0].toNat : Nat) : Int) == 48) = true := by rw [h48]; rfl
      clear h48 hV hlen
      go_enter Tryd.func26, Tryd.ntmps26
      go_wp2_with fail
      refine (l1In_any _ _ _ _).mono ?_
      rintro e w1 ⟨he, rfl⟩
      rw [HR.out] at he; subst he
      go_wp2
      go_ret
      exact ⟨rfl, rfl⟩
    · have hV : rdV s = rdL 0 s.data.toList := by
        rw [rdV, rdVL, if_neg]
        rintro (h | h | ⟨h, h'⟩)
        · omega
        · omega
        · rw [List.head?_eq_getElem?, List.getElem?_eq_getElem (by omega)] at h
          exact h48 ⟨Option.some.inj h, by omega⟩
      rw [hV]
      obtain ⟨v, hv⟩ : ∃ v, rdL 0 s.data.toList = v := ⟨_, rfl⟩
      have HV := Lib.hid hv
      rw [hv]
      have hh : (((s[0].toNat : Nat) : Int) == 48) = false ∨ ((((s[0].toNat : Nat) : Int) == 48) = true ∧ s.size ≤ 1) := by
        cases hB : (((s[0].toNat : Nat) : Int) == 48)
        · exact .inl rfl
        · refine .inr ⟨rfl, ?_⟩
          have h0 : s[0] = 48 := UInt8.toNat_inj.1 (by show s[0].toNat = 48; rw [beq_iff_eq] at hB; omega)
          by_cases h2 : 1 < s.size
          · exact absurd ⟨h0, h2⟩ h48
          · omega
      have h0 : rdL 0 (s.data.toList.drop 0) = v := hv
      have hfin : ∀ x, rdL x (s.data.toList.drop s.size) = x := fun x => by rw [List.drop_of_length_le (by omega)]; rfl
      have hst : ∀ j, (h : j < s.size) → ∀ x, rdL x (s.data.toList.drop j) = if s[j].toNat < 48 ∨ 57 < s[j].toNat then -1 else rdL (10 * x + ((s[j].toNat : Int) - 48)) (s.data.toList.drop (j + 1)) := fun j h x => by
        rw [List.drop_eq_getElem_cons (by omega), rdL]; rfl
      have HST := Lib.hid hst
      have HF := Lib.hid hfin
      clear hv hV h48 hst hfin hlen
      rcases hh with hB | ⟨hB, hle⟩
      all_goals
        go_enter Tryd.func26, Tryd.ntmps26
        go_wp2_with fail
        refine (l1In_any _ _ _ _).mono ?_
        rintro e w1 ⟨he, rfl⟩
        rw [HR.out] at he; subst he
        go_wp2
        clear hB
        go_loop [3, 4] (fun n i => ∃ (j : Nat) (x : Int), j ≤ s.size ∧ i = .int .i64 j ∧ n = .int .i64 x ∧ 0 ≤ x ∧ x < p10 j ∧ rdL x (s.data.toList.drop j) = v) (fun _ i => s.size - (intOf i).toNat)
        case atStart => exact ⟨0, 0, by omega, rfl, rfl, by omega, by decide, h0⟩
        case round =>
          obtain ⟨j, x, hj, rfl, rfl, hx0, hx1, hx⟩ := hrel
          by_cases hlt : j < s.size
          · rw [HST.out j hlt x] at hx
            have hp := p10_le j (by omega)
            have hp2 : p10 (j + 1) = 10 * p10 j := rfl
            by_cases hlo : s[j].toNat < 48
            · rw [if_pos (.inl hlo)] at hx
              subst hx
              go_wp2
              go_ret
              exact ⟨rfl, rfl⟩
            · by_cases hhi : 57 < s[j].toNat
              · rw [if_pos (.inr hhi)] at hx
                subst hx
                go_wp2
                go_ret
                exact ⟨rfl, rfl⟩
              · rw [if_neg (by omega)] at hx
                have HX := Lib.hid hx
                clear hx
                go_wp2
                go_round
                case rel => exact ⟨j + 1, 10 * x + ((s[j].toNat : Int) - 48), by omega, by go_num, by go_num, by omega, by omega, HX.out⟩
                case measure => simp [intOf]; omega
          · obtain rfl : j = s.size := by omega
            rw [HF.out] at hx
            subst hx
            go_wp2
            go_ret
            exact ⟨rfl, rfl⟩
  · have hV : rdV s = -1 := by
      rw [rdV, rdVL, if_pos]
      omega
    rw [hV]
    have HR : Hid (inR (s.size : Int) 1 6 = false) := by
      show _ = _
      cases h : inR (s.size : Int) 1 6
      · rfl
      · exact absurd (inR_iff.1 h) (by omega)
    clear h1 hV hlen
    go_enter Tryd.func26, Tryd.ntmps26
    go_wp2_with fail
    refine (l1In_any _ _ _ _).mono ?_
    rintro e w1 ⟨he, rfl⟩
    rw [HR.out] at he; subst he
    go_wp2
    go_ret
    exact ⟨rfl, rfl⟩
theorem toList_inj {a b : ByteArray} (h : a.toList = b.toList) : a = b := by
  rw [Lib.toList_data, Lib.toList_data] at h
  exact ByteArray.ext (Array.toList_inj.1 h)
set_option maxHeartbeats 1000000 in
set_option maxRecDepth 100000 in
theorem vParse_any (a b c d f : Int) (s : ByteArray) (w : World) (h : validCt a b c d f = true) (hs : s.size ≤ 1048576) :
    Calls Tryd.prog 15 #[.agg #[.int .i64 a, .int .i64 b, .int .i64 c, .int .i64 d, .int .i64 f], .string s] w fun e w' => ResI 3 w (pvO a b c d f s) e w' := by
  have H := Lib.hid h
  clear h
  have E0 := (Ext.refl w).alloc (.cells #[.int .i64 a, .int .i64 b, .int .i64 c, .int .i64 d, .int .i64 f] 27)
  have B0 := Blk.new w 27 #[.int .i64 a, .int .i64 b, .int .i64 c, .int .i64 d, .int .i64 f]
  by_cases hd : s = ⟨#[45]⟩
  · have HP : Hid (prR a s = []) := by show _ = _; rw [prR, if_pos hd]
    have HS := Lib.hid hd
    have hD : (s.toList == [45]) = true := by rw [hd, Lib.toList_data]; rfl
    clear hd
    have hO := OwnI.nil (w.alloc (.cells #[.int .i64 a, .int .i64 b, .int .i64 c, .int .i64 d, .int .i64 f] 27)) w.heap.size 3
    have E := E0
    have B := B0
    go_enter Tryd.func15, Tryd.ntmps15
    have HG : Hid (pvO a b c d f s = if (voteB a b c d f [] && decide (vtT a [] = s)) = true then some [] else none) := by
      show _ = _
      rw [pvO]
      rw [HP.out]
      simp only [pvG, H.out, Bool.true_and]
    cases hv : voteB a b c d f []
    · go_wp2_with fail
      refine (vVote_any _ _ _ _ _ _ _ _ [] _ H.out hO.rd hO.len (by omega) hO.cap).mono ?_
      rintro e w8 ⟨he, hb8⟩
      rw [hv] at he; subst he
      go_wp2
      go_ret2
      rw [HG.out, hv]
      exact ⟨none, 0, 0, rfl, OwnI.nil _ _ _, E.trans hb8⟩
    · have hok : vtOK a [] := ivB_vtOK (b := b) (c := c) (d := d) (f := f) (by simp [ivB, H.out, hv])
      go_wp2_with fail
      refine (vVote_any _ _ _ _ _ _ _ _ [] _ H.out hO.rd hO.len (by omega) hO.cap).mono ?_
      rintro e w8 ⟨he, hb8⟩
      rw [hv] at he; subst he
      have B8 := B.ext hb8
      have C8 := B8.cells
      replace hO := hO.ext hb8
      replace E := E.trans hb8
      have h8 := voteB_len (a := a) (b := b) (c := c) (d := d) (f := f) (v := []) (by simp [ivB, H.out, hv])
      have hlk := hO.len
      go_wp2_with fail
      refine (vText_any _ _ _ _ _ _ _ _ [] _ hO.rd hO.len (by omega) hO.cap hok).mono ?_
      rintro e w9 ⟨rfl, hb9⟩
      replace hO := hO.ext hb9
      replace E := E.trans hb9
      clear hlk h8 hok
      by_cases ht : vtT a [] = s
      · have HT := Lib.hid ht
        rw [ht]
        clear ht
        go_wp2
        go_ret2
        rw [HG.out, hv, decide_eq_true HT.out]
        exact ⟨_, _, _, rfl, hO, E⟩
      · have hnl : ((vtT a []).toList == s.toList) = false := by
          rw [beq_eq_false_iff_ne]
          intro h
          exact ht (toList_inj h)
        generalize vtT a [] = u at *
        go_wp2
        go_ret2
        rw [HG.out, hv, decide_eq_false ht]
        exact ⟨none, 0, 0, rfl, OwnI.nil _ _ _, E⟩
  · have hD : (s.toList == [45]) = false := by
      rw [beq_eq_false_iff_ne]
      intro h
      exact hd (toList_inj (h.trans (by rw [Lib.toList_data])))
    by_cases h4 : a = 4
    · subst h4
      have HP : Hid (prR 4 s = s.data.toList.map fun b => (b.toNat : Int) - 96) := by show _ = _; rw [prR, if_neg hd, if_pos rfl]
      clear hd
      obtain ⟨V, hV⟩ : ∃ V, (s.data.toList.map fun b => (b.toNat : Int) - 96) = V := ⟨_, rfl⟩
      have HP : Hid (prR 4 s = V) := HP.out.trans hV
      have hVl : V.length = s.size := by rw [← hV, List.length_map]; simp
      have hVj : ∀ j, (hj : j < s.size) → V.take (j + 1) = V.take j ++ [((s[j].toNat : Int)) - 97 + 1] := fun j hj => by
        rw [List.take_succ_eq_append_getElem (by omega)]
        congr 2
        subst hV
        rw [List.getElem_map]
        show ((s.data.toList[j]'_).toNat : Int) - 96 = ((s.data.toList[j]'_).toNat : Int) - 97 + 1
        omega
      have HVJ := Lib.hid hVj
      have HVL := Lib.hid hVl
      clear hV hVj hVl
      go_enter Tryd.func15, Tryd.ntmps15
      go_wp2
      generalize hW : w.alloc _ = W at *
      have hszW : W.heap.size = w.heap.size + 1 := by rw [← hW]; simp
      go_loopw [6, 7] (fun v i wr => ∃ (j q : Nat) (A : Option Addr), j ≤ s.size ∧ i = .int .i64 j ∧ v = .slice A j q ∧ OwnI wr (w.heap.size + 1) 3 A j q (V.take j) ∧ Ext W wr) (fun _ i _ => s.size - (intOf i).toNat)
      case atStart => exact ⟨0, 0, none, Nat.zero_le _, rfl, rfl, OwnI.nil _ _ _, Ext.refl _⟩
      case round =>
        obtain ⟨j, q, A, hj, rfl, rfl, hO, hE⟩ := hrel
        have B := B0.ext hE
        have C := B.cells
        have hsz := hE.size
        by_cases hlt : j < s.size
        · have HN := Lib.hid (HVJ.out j hlt)
          have hw : wrap64 (wrap64 (wrap64 (s[j].toNat : Int) - 97) + 1) = (s[j].toNat : Int) - 97 + 1 := by
            have := s[j].toNat_lt
            simp only [wrap64]; omega
          have HW := Lib.hid hw
          clear hw
          go_wp2_with (at_builtin; refine wpList_app1 intSl rfl _ _ rfl hO rfl rfl (by omega) (by omega) ?_; intro A2 d2 w2 hO2 hb2)
          go_roundw
          case rel => exact ⟨j + 1, d2, A2, by omega, by go_num, rfl, by rw [HN.out, ← HW.out]; exact hO2, hE.then hb2 (by omega)⟩
          case measure => simp [intOf]; omega
        · obtain rfl : j = s.size := by omega
          rw [List.take_of_length_le (Nat.le_of_eq HVL.out)] at hO
          replace hO := hO.more (base' := w.heap.size) (by omega)
          have E := E0.trans hE
          clear hlt
          have HG : Hid (pvO 4 b c d f s = if (voteB 4 b c d f V && decide (vtT 4 V = s)) = true then some V else none) := by
            show _ = _
            rw [pvO]
            rw [HP.out]
            simp only [pvG, H.out, Bool.true_and]
          cases hv : voteB 4 b c d f V
          · go_wp2_with fail
            refine (vVote_any _ _ _ _ _ _ _ _ V _ H.out hO.rd hO.len (by omega) hO.cap).mono ?_
            rintro e w8 ⟨he, hb8⟩
            rw [hv] at he; subst he
            go_wp2
            go_ret2
            rw [HG.out, hv]
            exact ⟨none, 0, 0, rfl, OwnI.nil _ _ _, E.trans hb8⟩
          · have hok : vtOK 4 V := ivB_vtOK (b := b) (c := c) (d := d) (f := f) (by simp [ivB, H.out, hv])
            go_wp2_with fail
            refine (vVote_any _ _ _ _ _ _ _ _ V _ H.out hO.rd hO.len (by omega) hO.cap).mono ?_
            rintro e w8 ⟨he, hb8⟩
            rw [hv] at he; subst he
            have B8 := B.ext hb8
            have C8 := B8.cells
            replace hO := hO.ext hb8
            replace E := E.trans hb8
            have h8 := voteB_len (a := 4) (b := b) (c := c) (d := d) (f := f) (v := V) (by simp [ivB, H.out, hv])
            have hlk := hO.len
            go_wp2_with fail
            refine (vText_any _ _ _ _ _ _ _ _ V _ hO.rd hO.len (by omega) hO.cap hok).mono ?_
            rintro e w9 ⟨rfl, hb9⟩
            replace hO := hO.ext hb9
            replace E := E.trans hb9
            clear hlk h8 hok
            by_cases ht : vtT 4 V = s
            · have HT := Lib.hid ht
              rw [ht]
              clear ht
              go_wp2
              go_ret2
              rw [HG.out, hv, decide_eq_true HT.out]
              exact ⟨_, _, _, rfl, hO, E⟩
            · have hnl : ((vtT 4 V).toList == s.toList) = false := by
                rw [beq_eq_false_iff_ne]
                intro h
                exact ht (toList_inj h)
              generalize vtT 4 V = u at *
              go_wp2
              go_ret2
              rw [HG.out, hv, decide_eq_false ht]
              exact ⟨none, 0, 0, rfl, OwnI.nil _ _ _, E⟩
    · have HP : Hid (prR a s = (rgo [] s.data.toList).map rdVL) := by show _ = _; rw [prR, if_neg hd, if_neg h4]
      have hB4 : (a == 4) = false := by simpa using h4
      clear hd
      go_enter Tryd.func15, Tryd.ntmps15
      go_wp2_with fail
      refine (l1Split_any s _ hs).mono ?_
      rintro e w1 ⟨X, m, q, P, rfl, hX, hP, hb⟩
      have hml := hX.len
      obtain ⟨V, hV⟩ : ∃ V, P.map rdV = V := ⟨_, rfl⟩
      have hPV : (rgo [] s.data.toList).map rdVL = V := by rw [← hP, List.map_map, ← hV]; rfl
      have HP : Hid (prR a s = V) := HP.out.trans hPV
      have hPl : P.length = m := by simpa [strV] using hml
      have hm8 : m ≤ 1048577 := by
        have h1 := rgo_len s.data.toList []
        rw [← hP] at h1
        simp at h1
        omega
      have hVl : V.length = m := by rw [← hV, List.length_map, hPl]
      have hVj : ∀ j, (hj : j < P.length) → V.take (j + 1) = V.take j ++ [rdV P[j]] := fun j hj => by
        rw [List.take_succ_eq_append_getElem (by omega)]
        congr 2
        subst hV
        rw [List.getElem_map]
      have HVJ := Lib.hid hVj
      have HVL := Lib.hid hVl
      have HPL := Lib.hid hPl
      clear hV hVj hVl hPV hP hml hPl
      have E1 := E0.trans hb
      have B1 := B0.ext hb
      have hsz1 := E1.size
      clear hb
      go_wp2
      go_loopw [6, 13] (fun v i wr => ∃ (j q2 : Nat) (A : Option Addr), j ≤ m ∧ i = .int .i64 j ∧ v = .slice A j q2 ∧ OwnI wr w1.heap.size 3 A j q2 (V.take j) ∧ Ext w1 wr) (fun _ i _ => m - (intOf i).toNat)
      case atStart => exact ⟨0, 0, none, Nat.zero_le _, rfl, rfl, OwnI.nil _ _ _, Ext.refl _⟩
      case round =>
        obtain ⟨j, q2, A, hj, rfl, rfl, hO, hE⟩ := hrel
        have B := B1.ext hE
        have C := B.cells
        have hsz := hE.size
        by_cases hlt : j < m
        · have hjP : j < P.length := by rw [HPL.out]; exact hlt
          have HN := Lib.hid (HVJ.out j hjP)
          obtain ⟨g, rfl, hg⟩ := hX.addr (by omega)
          have hc := ((hX.ext hE).at0 j (by simpa [strV] using hjP)).1
          have hx : (strV P)[j]'(by simpa [strV] using hjP) = .string P[j] := by simp [strV]
          rw [hx] at hc
          clear hx
          generalize P[j] = x at *
          go_wp2_with fail
          refine (l1Read_any x _).mono ?_
          rintro e w2 ⟨rfl, rfl⟩
          go_wp2_with (at_builtin; refine wpList_app1 intSl rfl _ _ rfl hO rfl rfl (by omega) hsz ?_; intro A2 d2 w2 hO2 hb2)
          go_roundw
          case rel => exact ⟨j + 1, d2, A2, by omega, by go_num, rfl, by rw [HN.out]; exact hO2, hE.then hb2 (Nat.le_refl _)⟩
          case measure => simp [intOf]; omega
        · obtain rfl : j = m := by omega
          rw [List.take_of_length_le (Nat.le_of_eq HVL.out)] at hO
          replace hO := hO.more (base' := w.heap.size) (by omega)
          have E := E1.trans hE
          clear hlt
          have HG : Hid (pvO a b c d f s = if (voteB a b c d f V && decide (vtT a V = s)) = true then some V else none) := by
            show _ = _
            rw [pvO]
            rw [HP.out]
            simp only [pvG, H.out, Bool.true_and]
          cases hv : voteB a b c d f V
          · go_wp2_with fail
            refine (vVote_any _ _ _ _ _ _ _ _ V _ H.out hO.rd hO.len (by omega) hO.cap).mono ?_
            rintro e w8 ⟨he, hb8⟩
            rw [hv] at he; subst he
            go_wp2
            go_ret2
            rw [HG.out, hv]
            exact ⟨none, 0, 0, rfl, OwnI.nil _ _ _, E.trans hb8⟩
          · have hok : vtOK a V := ivB_vtOK (b := b) (c := c) (d := d) (f := f) (by simp [ivB, H.out, hv])
            go_wp2_with fail
            refine (vVote_any _ _ _ _ _ _ _ _ V _ H.out hO.rd hO.len (by omega) hO.cap).mono ?_
            rintro e w8 ⟨he, hb8⟩
            rw [hv] at he; subst he
            have B8 := B.ext hb8
            have C8 := B8.cells
            replace hO := hO.ext hb8
            replace E := E.trans hb8
            have h8 := voteB_len (a := a) (b := b) (c := c) (d := d) (f := f) (v := V) (by simp [ivB, H.out, hv])
            have hlk := hO.len
            go_wp2_with fail
            refine (vText_any _ _ _ _ _ _ _ _ V _ hO.rd hO.len (by omega) hO.cap hok).mono ?_
            rintro e w9 ⟨rfl, hb9⟩
            replace hO := hO.ext hb9
            replace E := E.trans hb9
            clear hlk h8 hok
            by_cases ht : vtT a V = s
            · have HT := Lib.hid ht
              rw [ht]
              clear ht
              go_wp2
              go_ret2
              rw [HG.out, hv, decide_eq_true HT.out]
              exact ⟨_, _, _, rfl, hO, E⟩
            · have hnl : ((vtT a V).toList == s.toList) = false := by
                rw [beq_eq_false_iff_ne]
                intro h
                exact ht (toList_inj h)
              generalize vtT a V = u at *
              go_wp2
              go_ret2
              rw [HG.out, hv, decide_eq_false ht]
              exact ⟨none, 0, 0, rfl, OwnI.nil _ _ _, E⟩
set_option maxHeartbeats 1000000 in
theorem sParseVote_any (a b c d f : Int) (s : ByteArray) (w : World) (hs : s.size ≤ 1048576) :
    Calls Tryd.prog 5 #[.agg #[.int .i64 a, .int .i64 b, .int .i64 c, .int .i64 d, .int .i64 f], .string s] w fun e w' => ResI 3 w (pvO a b c d f s) e w' := by
  have hE := (Ext.refl w).alloc (.cells #[.int .i64 a, .int .i64 b, .int .i64 c, .int .i64 d, .int .i64 f] 27)
  cases h : validCt a b c d f
  · have hr : pvO a b c d f s = none := by simp [pvO, pvG, h]
    rw [hr]; clear hr
    go_enter Tryd.func5, Tryd.ntmps5
    go_wp2_with fail
    refine (vContest_any _ _ _ _ _ _).mono ?_
    rintro e w1 ⟨he, hb⟩
    rw [h] at he; subst he
    go_wp2
    go_ret2
    exact ⟨none, 0, 0, rfl, OwnI.nil _ _ _, hE.trans hb⟩
  · have H := Lib.hid h
    clear h
    go_enter Tryd.func5, Tryd.ntmps5
    go_wp2_with fail
    refine (vContest_any _ _ _ _ _ _).mono ?_
    rintro e w1 ⟨he, hb⟩
    rw [H.out] at he; subst he
    have B := (Blk.new w 27 _).ext hb
    replace hE := hE.trans hb
    clear hb
    have C := B.cells
    have hsz := hE.size
    go_wp2_with fail
    refine (vParse_any _ _ _ _ _ s _ H.out hs).mono ?_
    rintro e w2 ⟨A, k, q, rfl, hO, hb⟩
    go_wp2
    go_ret2
    exact ⟨_, _, _, rfl, hO.more hsz, hE.trans hb⟩
end Go.Proofs.YtnekpofaflpmdaaDoor

/- Drawn votes. -/
import Derived.Test.YtnekpofaflpmdaaGreatDoorProg
import Derived.Test.YtnekpofaflpmdaaGreatDoorCurV2
import Derived.Test.YtnekpofaflpmdaaGreatDoorDecP
import Derived.Test.YtnekpofaflpmdaaGreatDoorPut
namespace Go.Proofs.YtnekpofaflpmdaaGreatDoor
open Go.RowKit

theorem cyc_less : ∀ B ≤ 8, ∀ K < B, ∀ I < B, I ≠ K → (I + B - (K + 1) % B) % B < (I + B - K) % B := by decide
theorem all_le : ∀ (B : Nat) (l : List Int), (∀ I, I < B → (I : Int) ∈ l) → B ≤ l.length
  | 0, _, _ => Nat.zero_le _
  | B + 1, l, h => by
    have hm := h B (by omega)
    have h1 := all_le B (l.erase (B : Int)) fun I hI => (List.mem_erase_of_ne (by omega)).2 (h I (by omega))
    rw [List.length_erase_of_mem hm] at h1
    have := List.length_pos_of_mem hm
    omega
/-- A short list lacks one of B numbers. -/
theorem lacks_one {B : Nat} {l : List Int} (h : l.length < B) : ∃ I, I < B ∧ (I : Int) ∉ l := by
  refine Classical.byContradiction fun hn => ?_
  have := all_le B l fun I hI => Classical.byContradiction fun hx => hn ⟨I, hI, hx⟩
  omega
theorem sum_full {F : Int} : ∀ l : List Int, (∀ x ∈ l, x = F) → l.sum = l.length * F
  | [], _ => by simp
  | x :: l, h => by
    have h1 := sum_full l fun y hy => h y (List.mem_cons_of_mem _ hy)
    have h2 := h x (by simp)
    rw [List.sum_cons, h1, h2, List.length_cons]
    push_cast
    rw [Int.add_mul]; omega
/-- Where the sum is less than it could be, one place is not full. -/
theorem not_full {F : Int} {l : List Int} (h : l.sum ≠ l.length * F) : ∃ I, ∃ hI : I < l.length, l[I] ≠ F := by
  refine Classical.byContradiction fun hn => h (sum_full l fun x hx => ?_)
  obtain ⟨i, hi, rfl⟩ := List.mem_iff_getElem.1 hx
  exact Classical.byContradiction fun hx => hn ⟨i, hi, hx⟩
theorem sum_set1 : ∀ (l : List Int) (K : Nat) (hK : K < l.length), (l.set K (l[K] + 1)).sum = l.sum + 1
  | x :: l, 0, _ => by simp; omega
  | x :: l, K + 1, hK => by
    have := sum_set1 l K (by simpa using hK)
    simp only [List.set_cons_succ, List.sum_cons, List.getElem_cons_succ]
    omega
theorem sum_rep : ∀ k : Nat, (List.replicate k (0 : Int)).sum = 0
  | 0 => rfl
  | k + 1 => by rw [List.replicate_succ, List.sum_cons, sum_rep k]; rfl
/-- What a drawn vote is. -/
def DrawnV (B : Nat) (w : World) (g k : Nat) (a b f : Int) (e : Ending) (w' : World) : Prop :=
  ∃ (A : Option Addr) (n q : Nat) (v : List Int), e = .returned (.slice A n q) ∧ OwnI w' w.heap.size 3 A n q v ∧ VoteParts a b f v ∧ Only [g] w w' ∧ CurS B w' g (k + 200)
set_option maxRecDepth 100000 in
set_option maxHeartbeats 4000000 in
theorem vote_any {B : Nat} (g k : Nat) (a b c d f : Int) (w : World) (h : CurS B w g k) (hk : k ≤ 90000) (hB : B ≤ w.heap.size) (hv : validCt a b c d f = true) :
    Calls Tryz.prog 31 #[.pointer (some ⟨g, 0, none⟩), .agg #[.int .i64 a, .int .i64 b, .int .i64 c, .int .i64 d, .int .i64 f]] w fun e w' => DrawnV B w g k a b f e w' := by
  have hg := h.lt
  obtain ⟨h1, hb0, hb8, hf0, hf5, hc0, hc40, hd0, hd40⟩ := valid_kind hv
  rw [validCt_iff] at hv
  obtain ⟨_, hcd, hkind⟩ := hv
  have hE0 := (Ext.refl w).alloc (.cells #[.int .i64 a, .int .i64 b, .int .i64 c, .int .i64 d, .int .i64 f] 25)
  have B2 := Blk.new w 25 #[.int .i64 a, .int .i64 b, .int .i64 c, .int .i64 d, .int .i64 f]
  have h0 := h.ext hE0
  have hz := hE0.toOnly [g]
  have hsz0 : w.heap.size < (w.alloc (.cells #[.int .i64 a, .int .i64 b, .int .i64 c, .int .i64 d, .int .i64 f] 25)).heap.size := by simp
  go_enter Tryz.func31, Tryz.ntmps31
  go_upto_region 1 with (fail)
  generalize hW : w.alloc (.cells #[.int .i64 a, .int .i64 b, .int .i64 c, .int .i64 d, .int .i64 f] 25) = W at *
  clear hW hE0 h
  have C4 := B2.drew.cells
  have hs1 : IntKind.i64.wrap (d - c) = d - c := by rw [IntKind.wrap_i64]; omega
  have hs2 : IntKind.i64.wrap (d - c + 1) = d - c + 1 := by rw [IntKind.wrap_i64]; omega
  go_region_held3 (fun w' => w'.cell? ⟨w.heap.size, 2, none⟩ = some (.int .i64 c) ∧ w'.cell? ⟨w.heap.size, 3, none⟩ = some (.int .i64 d)) (first | exact ⟨C4 2, C4 3⟩ | exact ⟨C5 2, C5 3⟩)
    ((go_at_call 33; refine (pick_any g _ (d - c + 1) _ (h0.ext ((Ext.refl _).drew)) (by omega) (by omega)).mono ?_; rintro e w7 ⟨v, rfl, hv, hO7, hC7⟩; have hv2 : (v : Int) ≤ d - c := (by omega); have B5 := B2.drew.only hO7 (by simp <;> omega); have C5 := B5.cells; have hs3 : IntKind.i64.wrap (c + v) = c + v := by rw [IntKind.wrap_i64]; omega))
  obtain ⟨N, hN⟩ : ∃ N : Nat, c + (v : Int) = (N : Int) := ⟨(c + v).toNat, by omega⟩
  have hN40 : (N : Int) ≤ d := by omega
  have hz7 := (hz.drewN 1).thenOnly hO7
  have C5 := B5.cells
  rw [hN]
  clear hs1 hs2 hs3 hN hv2 hv hO7 B2 hz h0 C4
  have hsz7 : w.heap.size + 1 ≤ w7.heap.size := B5.lt
  rcases hkind with ⟨h13, hb1, _, hdb, rfl⟩ | ⟨rfl, hb1, _, hf1, _, hdf⟩ | ⟨rfl, rfl, hd5, rfl⟩
  · obtain ⟨P, rfl⟩ := Int.eq_ofNat_of_zero_le hb0
    rcases h13 with rfl | rfl
    · -- kind 1
      go_wp2
      go_loopw [6] (fun v wr => ∃ (j q : Nat) (A : Option Addr) (l : List Int), v = .slice A j q ∧ j ≤ N ∧ OwnI wr (w.heap.size + 1) 3 A j q l ∧ Hid (∀ x ∈ l, 0 ≤ x ∧ x < (P : Int)) ∧ Only [g] w wr ∧ w.heap.size + 1 ≤ wr.heap.size ∧ Blk wr w.heap.size 25 #[.int .i64 1, .int .i64 P, .int .i64 c, .int .i64 d, .int .i64 0] ∧ CurS B wr g (k + 2 + 2 * j)) (fun v _ => N - lenV v)
      case atStart => exact ⟨0, 0, none, [], rfl, Nat.zero_le _, OwnI.nil _ _ _, fun x hx => by simp at hx, hz7, hsz7, B5, hC7⟩
      case round =>
        clear hz7 hsz7 B5 C5 hC7
        obtain ⟨j, q, A, l, rfl, hj, hO, HI, hz, hsz, B5, hC⟩ := hrel
        have C5 := B5.cells
        by_cases hlt : j < N
        · go_wp2_with fail
          refine (pick_any g _ (P : Int) _ hC (by omega) (by omega)).mono ?_
          rintro e w8 ⟨r, rfl, hr, hO8, hC8⟩
          have hrP : r < P := by omega
          replace hO := hO.only hO8 (apart_of hO.high (by omega))
          replace hz := hz.thenOnly hO8
          replace B5 := B5.only hO8 (by simp; omega)
          replace hsz := Nat.le_trans hsz hO8.size
          have C5 := B5.cells
          have hln := hO.len
          obtain ⟨I, hI, hIl⟩ := lacks_one (B := P) (l := l) (by omega)
          have HIL := Lib.hid hIl
          clear hO8 hC hr hIl
          go_wp2
          go_loop [8] (fun kk => ∃ K : Nat, K < P ∧ kk = .int .i64 K) (fun kk => (I + P - (intOf kk).toNat) % P)
          case atStart => exact ⟨r, hrP, rfl⟩
          case round =>
            obtain ⟨K, hK, rfl⟩ := hrel
            cases hm : memB l K
            · have HM := Lib.hid hm
              clear hm
              go_wp2_with fail
              refine (l1Has_any _ _ _ l _ _ hO.rd hO.len (by unfold maxLen; omega)).mono ?_
              rintro e w9 ⟨he, rfl⟩
              rw [HM.out] at he; subst he
              have hnl : (K : Int) ∉ l := fun h => by have := memB_iff.2 h; rw [HM.out] at this; cases this
              have hper := putL_perm (K : Int) l hnl
              have HI2 : Hid (∀ x ∈ putL l (K : Int), 0 ≤ x ∧ x < (P : Int)) := fun x hx => by
                rcases List.mem_cons.1 (hper.mem_iff.1 hx) with hx | hx
                · omega
                · exact HI.out x hx
              have hpl : (putL l (K : Int)).length = j + 1 := by rw [hper.length_eq, List.length_cons, hln]
              have HPL := Lib.hid hpl
              clear hpl hper hnl
              go_wp2_with fail
              refine (l1Put_any (w.heap.size + 1) _ _ _ l _ _ hO (by omega) hsz).mono ?_
              rintro e w9 ⟨A3, n3, d3, rfl, hO3, _, hb3⟩
              obtain rfl : n3 = j + 1 := hO3.len.symm.trans HPL.out
              go_wp2
              go_roundw
              case rel => exact ⟨j + 1, d3, A3, _, rfl, by omega, hO3, HI2, hz.thenOnly (hb3.toOnly [g]), Nat.le_trans hsz hb3.size, B5.ext hb3, (hC8.ext hb3).more (by omega)⟩
              case measure => simp [lenV]; omega
            · have hne : I ≠ K := fun e => HIL.out (by rw [e]; exact memB_iff.1 hm)
              have HM := Lib.hid hm
              clear hm
              go_wp2_with fail
              refine (l1Has_any _ _ _ l _ _ hO.rd hO.len (by unfold maxLen; omega)).mono ?_
              rintro e w9 ⟨he, rfl⟩
              rw [HM.out] at he; subst he
              go_wp2
              go_round
              case rel => exact ⟨(K + 1) % P, Nat.mod_lt _ (by omega), by go_num⟩
              case measure => simp [intOf]; exact cyc_less P (by omega) K hK I hI hne
        · obtain rfl : j = N := by omega
          have hln := hO.len
          go_wp2
          go_ret
          exact ⟨A, j, q, l, rfl, hO.more (by omega), ⟨fun h => allR_iff.2 fun x hx => by have := HI.out x hx; omega, fun h => absurd h (by decide), fun h => absurd h (by decide), fun h => absurd h (by decide), by omega⟩, hz, hC.more (by omega)⟩
    · -- kind 3
      go_wp2
      go_loopw [6] (fun v wr => ∃ (j q : Nat) (A : Option Addr) (l : List Int), v = .slice A j q ∧ j ≤ N ∧ OwnI wr (w.heap.size + 1) 3 A j q l ∧ Hid (∀ x ∈ l, 0 ≤ x ∧ x < (P : Int)) ∧ Only [g] w wr ∧ w.heap.size + 1 ≤ wr.heap.size ∧ Blk wr w.heap.size 25 #[.int .i64 3, .int .i64 P, .int .i64 c, .int .i64 d, .int .i64 0] ∧ CurS B wr g (k + 2 + 2 * j)) (fun v _ => N - lenV v)
      case atStart => exact ⟨0, 0, none, [], rfl, Nat.zero_le _, OwnI.nil _ _ _, fun x hx => by simp at hx, hz7, hsz7, B5, hC7⟩
      case round =>
        clear hz7 hsz7 B5 C5 hC7
        obtain ⟨j, q, A, l, rfl, hj, hO, HI, hz, hsz, B5, hC⟩ := hrel
        have C5 := B5.cells
        by_cases hlt : j < N
        · go_wp2_with fail
          refine (pick_any g _ (P : Int) _ hC (by omega) (by omega)).mono ?_
          rintro e w8 ⟨r, rfl, hr, hO8, hC8⟩
          have hrP : r < P := by omega
          replace hO := hO.only hO8 (apart_of hO.high (by omega))
          replace hz := hz.thenOnly hO8
          replace B5 := B5.only hO8 (by simp; omega)
          replace hsz := Nat.le_trans hsz hO8.size
          have C5 := B5.cells
          have hln := hO.len
          obtain ⟨I, hI, hIl⟩ := lacks_one (B := P) (l := l) (by omega)
          have HIL := Lib.hid hIl
          clear hO8 hC hr hIl
          go_wp2
          go_loop [8] (fun kk => ∃ K : Nat, K < P ∧ kk = .int .i64 K) (fun kk => (I + P - (intOf kk).toNat) % P)
          case atStart => exact ⟨r, hrP, rfl⟩
          case round =>
            obtain ⟨K, hK, rfl⟩ := hrel
            cases hm : memB l K
            · have HM := Lib.hid hm
              clear hm
              go_wp2_with fail
              refine (l1Has_any _ _ _ l _ _ hO.rd hO.len (by unfold maxLen; omega)).mono ?_
              rintro e w9 ⟨he, rfl⟩
              rw [HM.out] at he; subst he
              have HI2 : Hid (∀ x ∈ l ++ [(K : Int)], 0 ≤ x ∧ x < (P : Int)) := fun x hx => by
                rcases List.mem_append.1 hx with hx | hx
                · exact HI.out x hx
                · rw [List.mem_singleton] at hx; omega
              go_wp2_with (at_builtin; refine wpList_app1 intSl rfl _ _ rfl hO rfl rfl (by omega) hsz ?_; intro A3 d3 w9 hO3 hb3)
              go_roundw
              case rel => exact ⟨j + 1, d3, A3, _, rfl, by omega, hO3, HI2, hz.thenBelow hb3 (by omega), Nat.le_trans hsz hb3.size, B5.below hb3 (by omega), (hC8.below (hb3.mono (by omega))).more (by omega)⟩
              case measure => simp [lenV]; omega
            · have hne : I ≠ K := fun e => HIL.out (by rw [e]; exact memB_iff.1 hm)
              have HM := Lib.hid hm
              clear hm
              go_wp2_with fail
              refine (l1Has_any _ _ _ l _ _ hO.rd hO.len (by unfold maxLen; omega)).mono ?_
              rintro e w9 ⟨he, rfl⟩
              rw [HM.out] at he; subst he
              go_wp2
              go_round
              case rel => exact ⟨(K + 1) % P, Nat.mod_lt _ (by omega), by go_num⟩
              case measure => simp [intOf]; exact cyc_less P (by omega) K hK I hI hne
        · obtain rfl : j = N := by omega
          have hln := hO.len
          go_wp2
          go_ret
          exact ⟨A, j, q, l, rfl, hO.more (by omega), ⟨fun h => absurd h (by decide), fun h => absurd h (by decide), fun h => ⟨allR_iff.2 fun x hx => by have := HI.out x hx; omega, by omega⟩, fun h => absurd h (by decide), by omega⟩, hz, hC.more (by omega)⟩
  · obtain ⟨P, rfl⟩ := Int.eq_ofNat_of_zero_le hb0
    have hm40 : (P : Int) * f ≤ 8 * 5 := Int.mul_le_mul hb8 hf5 (by omega) (by omega)
    have hm0 : 0 ≤ (P : Int) * f := Int.mul_nonneg (by omega) (by omega)
    have hw : wrap64 ((P : Int) * f) = (P : Int) * f := by simp only [wrap64]; omega
    rw [hw] at hdf
    have HPF : Hid ((N : Int) ≤ P * f) := by show _ ≤ _; omega
    have hN := hN40
    clear hw hm0 hm40 hdf hN40
    go_wp2_with (at_make; refine wpList_mkI intSl rfl _ _ rfl _ _ _ _ P rfl rfl rfl rfl (by omega) (w.heap.size + 1) hsz7 ?_; intro w8 hO hE hz8)
    have B8 := B5.ext hE
    have hC8 := hC7.ext hE
    have hz9 := hz7.thenOnly (hE.toOnly [g])
    clear B5 C5 hC7 hz7 hE
    generalize hgm : w7.heap.size = gm at *
    clear hgm
    have hS0 : Hid ((List.replicate P (0 : Int)).sum + (N : Int) ≤ P * f) := by
      show _ ≤ _
      rw [sum_rep]
      have := HPF.out
      omega
    go_loopw [5] (fun n wr => ∃ (y : Nat) (l : List Int), n = .int .i64 y ∧ y ≤ N ∧ OwnI wr (w.heap.size + 1) 3 (some ⟨gm, 0, none⟩) P P l ∧ Hid (∀ x ∈ l, 0 ≤ x ∧ x ≤ f) ∧ Hid (l.sum + (y : Int) ≤ P * f) ∧ Only [g] w wr ∧ w.heap.size + 1 ≤ wr.heap.size ∧ Blk wr w.heap.size 25 #[.int .i64 2, .int .i64 P, .int .i64 c, .int .i64 d, .int .i64 f] ∧ CurS B wr g (k + 2 + 2 * (N - y))) (fun n _ => (intOf n).toNat)
    case atStart => exact ⟨N, _, rfl, Nat.le_refl _, hO, fun x hx => by rw [List.mem_replicate] at hx; omega, hS0, hz9, by omega, B8, hC8.more (by omega)⟩
    case round =>
      clear hO hS0 hz9 B8 hC8 hz8
      obtain ⟨y, l, rfl, hy, hO, HI, HS, hz, hsz, B5, hC⟩ := hrel
      have C5 := B5.cells
      have hln := hO.len
      by_cases hlt : 0 < y
      · obtain ⟨y, rfl⟩ : ∃ y', y = y' + 1 := ⟨y - 1, by omega⟩
        go_wp2_with fail
        refine (pick_any g _ (P : Int) _ hC (by omega) (by omega)).mono ?_
        rintro e w9 ⟨r, rfl, hr, hO9, hC9⟩
        have hrP : r < P := by omega
        replace hO := hO.only hO9 (apart_of hO.high (by omega))
        replace hz := hz.thenOnly hO9
        replace B5 := B5.only hO9 (by simp; omega)
        replace hsz := Nat.le_trans hsz hO9.size
        have hne : l.sum ≠ l.length * f := by
          have := HS.out
          rw [hln]
          omega
        obtain ⟨I, hI, hIl⟩ := not_full hne
        have HIL := Lib.hid hIl
        rw [hln] at hI
        clear hO9 hC hr hIl hne C5
        go_wp2
        go_loopw [7] (fun kk wx => ∃ K : Nat, K < P ∧ kk = .int .i64 K ∧ OwnI wx (w.heap.size + 1) 3 (some ⟨gm, 0, none⟩) P P l ∧ Only [g] w wx ∧ w.heap.size + 1 ≤ wx.heap.size ∧ Blk wx w.heap.size 25 #[.int .i64 2, .int .i64 P, .int .i64 c, .int .i64 d, .int .i64 f] ∧ CurS B wx g (k + 2 + 2 * (N - (y + 1)) + 2)) (fun kk _ => (I + P - (intOf kk).toNat) % P)
        case atStart => exact ⟨r, hrP, rfl, hO, hz, hsz, B5, hC9⟩
        case round =>
          clear hO hz hsz B5 hC9 hrP
          obtain ⟨K, hK, rfl, hO, hz, hsz, B5, hC⟩ := hrel
          have C5 := B5.cells
          have hKl : K < l.length := by omega
          obtain ⟨c1, c2⟩ := hO.at0 K hKl
          have hS1 := sum_set1 l K hKl
          have hlk := HI.out l[K] (List.getElem_mem hKl)
          have hneK : l[K] = f → I ≠ K := fun e h => by subst h; exact HIL.out e
          have hI2 : ∀ z, 0 ≤ z ∧ z ≤ f → ∀ x ∈ l.set K z, 0 ≤ x ∧ x ≤ f := fun z hz x hx => by
            rcases List.mem_or_eq_of_mem_set hx with hx | rfl
            · exact HI.out x hx
            · exact hz
          have hc3 := fun t => (hO.ext ((Ext.refl _).drewN t)).at0 K hKl
          generalize l[K] = x at *
          have hO2 := fun t => (hO.ext ((Ext.refl _).drewN t)).set (j := K) (x + 1)
          have HC3 := Lib.hid hc3
          have HO2 := Lib.hid hO2
          clear hc3 hO2
          have HS1 := Lib.hid hS1
          have HI2 := Lib.hid hI2
          have HNE := Lib.hid hneK
          clear hS1 hI2 hneK
          cases hq : (x == f)
          · have hxf : x < f := by
              have : x ≠ f := by simpa using hq
              omega
            have L9 : ∀ u : World, Below (w.heap.size + 1) u (u.setCell ⟨gm, K, none⟩ (.int .i64 (x + 1))) := fun u => (Below.refl _ _).setCell (by simp; omega) _
            go_wp2
            go_quiet (fail)
            obtain ⟨c3, c4⟩ := HC3.out nq
            have C6 := (B5.drewN nq).cells
            go_wp2
            go_roundw
            case rel =>
              refine ⟨y, _, by go_num, by omega, HO2.out nq, HI2.out (x + 1) (by omega), ?_, (hz.drewN nq).thenBelow (L9 _) (by omega), by simpa using hsz, (B5.drewN nq).far (p := ⟨gm, K, none⟩) (by simp; omega) _, ((hC.ext ((Ext.refl _).drewN nq)).below ((L9 _).mono (by omega))).more (by omega)⟩
              show _ ≤ _
              have := HS.out
              rw [HS1.out]
              omega
            case measure => simp [intOf]
          · have hne : I ≠ K := HNE.out (by simpa using hq)
            go_wp2
            go_quiet (fail)
            have C6 := (B5.drewN nq).cells
            go_wp2
            go_roundw
            case rel => exact ⟨(K + 1) % P, Nat.mod_lt _ (by omega), by go_num, hO.ext ((Ext.refl _).drewN nq), hz.drewN nq, hsz, B5.drewN nq, hC.ext ((Ext.refl _).drewN nq)⟩
            case measure => simp [intOf]; exact cyc_less P (by omega) K hK I hI hne
      · obtain rfl : y = 0 := by omega
        go_wp2
        go_ret
        exact ⟨_, P, P, l, rfl, hO.more (by omega), ⟨fun h => absurd h (by decide), fun _ => ⟨by omega, allR_iff.2 HI.out⟩, fun h => absurd h (by decide), fun h => absurd h (by decide), by omega⟩, hz, hC.more (by omega)⟩
  · go_wp2
    go_loopw [5, 6] (fun n v wr => ∃ (y j q : Nat) (A : Option Addr) (l : List Int), n = .int .i64 y ∧ v = .slice A j q ∧ j + y = N ∧ OwnI wr (w.heap.size + 1) 3 A j q l ∧ Hid (∀ x ∈ l, 1 ≤ x ∧ x ≤ 26) ∧ Only [g] w wr ∧ w.heap.size + 1 ≤ wr.heap.size ∧ CurS B wr g (k + 2 + 2 * j)) (fun n _ _ => (intOf n).toNat)
    case atStart => exact ⟨N, 0, 0, none, [], rfl, rfl, by omega, OwnI.nil _ _ _, fun x hx => by simp at hx, hz7, hsz7, hC7⟩
    case round =>
      clear hz7 hsz7 B5 C5 hC7
      obtain ⟨y, j, q, A, l, rfl, rfl, hj, hO, HI, hz, hsz, hC⟩ := hrel
      by_cases hlt : 0 < y
      · obtain ⟨y, rfl⟩ : ∃ y', y = y' + 1 := ⟨y - 1, by omega⟩
        go_wp2_with fail
        refine (pick_any g _ 26 _ hC (by omega) (by omega)).mono ?_
        rintro e w8 ⟨r, rfl, hr, hO8, hC8⟩
        have hO2 := hO.only hO8 (apart_of hO.high (by omega))
        have hsz8 : w.heap.size + 1 ≤ w8.heap.size := Nat.le_trans hsz hO8.size
        have HI2 : Hid (∀ x ∈ l ++ [1 + (r : Int)], 1 ≤ x ∧ x ≤ 26) := fun x hx => by
          rcases List.mem_append.1 hx with hx | hx
          · exact HI.out x hx
          · rw [List.mem_singleton] at hx; omega
        go_wp2_with (at_builtin; refine wpList_app1 intSl rfl _ _ rfl hO2 rfl rfl (by omega) hsz8 ?_; intro A3 d3 w9 hO3 hb3)
        go_roundw
        case rel => exact ⟨y, j + 1, d3, A3, _, by go_num, rfl, by omega, hO3, HI2, (hz.thenOnly hO8).thenBelow hb3 (by omega), Nat.le_trans hsz8 hb3.size, (hC8.below (hb3.mono (by omega))).more (by omega)⟩
        case measure => simp [intOf]
      · obtain rfl : y = 0 := by omega
        have hln := hO.len
        go_wp2
        go_ret
        exact ⟨A, j, q, l, rfl, hO.more (by omega), ⟨fun h => absurd h (by decide), fun h => absurd h (by decide), fun h => absurd h (by decide), fun _ => ⟨allR_iff.2 HI.out, by omega⟩, by omega⟩, hz, hC.more (by omega)⟩
end Go.Proofs.YtnekpofaflpmdaaGreatDoor

/- Drawn moduli and lists of residues; the laws' comparison of lists; plain laws of inverses. -/
import Derived.Test.YticimniegecfeaaProg
import Derived.Test.YticimniegecfeaaRes
import Derived.Test.YticimniegecfeaaCurR
import Derived.Test.YticimniegecfeaaCurP
namespace Go.Proofs.Yticimniegecfeaa
open Go.RowKit

set_option maxHeartbeats 400000 in
theorem qInts_any (A B : Option Addr) (n m c d : Nat) (l k : List Int) (w : World) (ha : RdI w A l) (hb : RdI w B k) (hl : l.length = n) (hk : k.length = m) (hn : n ≤ maxLen) (hm : m ≤ maxLen) :
    Calls Try.prog 46 #[.slice A n c, .slice B m d] w fun e w' => e = .returned (.bool (decide (l = k))) ∧ ∃ N, w' = w.drewN N := by
  unfold maxLen at hn hm
  subst hl hk
  by_cases hne : l.length = k.length
  · have hne' : ((l.length : Int) != (k.length : Int)) = false := by simp [hne]
    have HE := Lib.hid hne
    clear hne
    go_enter Try.func46, Try.ntmps46
    go_wp2
    go_loopw [13] (fun i wr => ∃ j N : Nat, j ≤ l.length ∧ i = .int .i64 j ∧ wr = w.drewN N ∧ Hid (l.take j = k.take j)) (fun i _ => l.length - (intOf i).toNat)
    case atStart => exact ⟨0, 0, Nat.zero_le _, rfl, rfl, rfl⟩
    case round =>
      obtain ⟨j, N, hj, rfl, rfl, HT⟩ := hrel
      by_cases hlt : j < l.length
      · have hlt' : j < k.length := by rw [← HE.out]; exact hlt
        obtain ⟨ad, rfl, hca⟩ := ha.at_ hlt
        obtain ⟨bd, rfl, hcb⟩ := hb.at_ hlt'
        by_cases he : l[j] = k[j]
        · have he' : (l[j] != k[j]) = false := by simp [he]
          have HQ := Lib.hid he
          clear he
          go_wp2
          go_quiet (fail)
          go_wp2
          go_roundw
          case rel =>
            refine ⟨j + 1, _, by omega, by go_num, rfl, ?_⟩
            show l.take (j + 1) = k.take (j + 1)
            rw [List.take_succ_eq_append_getElem hlt, List.take_succ_eq_append_getElem hlt', HT.out, HQ.out]
          case measure => simp [intOf]; omega
        · have he' : (l[j] != k[j]) = true := by simp [he]
          go_wp2
          go_quiet (fail)
          go_wp2
          go_ret
          exact ⟨ret_bool (by symm; simp; rintro rfl; exact he rfl), _, World.drewN_drewN _ _ _⟩
      · obtain rfl : j = l.length := by omega
        have hf : decide (l = k) = true := by
          have h1 := HT.out
          rw [List.take_length, HE.out, List.take_length] at h1
          simpa using h1
        have HF := Lib.hid hf
        clear hf
        go_wp2
        go_ret
        exact ⟨ret_bool HF.out.symm, _, rfl⟩
  · have hne' : ((l.length : Int) != (k.length : Int)) = true := by simp; omega
    go_enter Try.func46, Try.ntmps46
    go_wp2
    go_ret
    exact ⟨ret_bool (by symm; simp; rintro rfl; exact hne rfl), 0, rfl⟩
theorem qInts_same {A B : Option Addr} {n m c d : Nat} {l : List Int} {w : World} (ha : RdI w A l) (hb : RdI w B l) (hl : l.length = n) (hk : l.length = m) (hn : n ≤ maxLen) (hm : m ≤ maxLen) :
    Calls Try.prog 46 #[.slice A n c, .slice B m d] w fun e w' => e = .returned (.bool true) ∧ Ext w w' :=
  (qInts_any A B n m c d l l w ha hb hl hk hn hm).mono fun e w' h => by
    obtain ⟨h1, N, h2⟩ := h
    exact ⟨by rw [h1, decide_eq_true rfl], by rw [h2]; exact (Ext.refl w).drewN N⟩
set_option maxHeartbeats 2000000 in
theorem modulus_any {B : Nat} (g k : Nat) (w : World) (h : CurS B w g k) (hk : k ≤ 1000000) (hB : B ≤ w.heap.size) :
    Calls Try.prog 133 #[.pointer (some ⟨g, 0, none⟩)] w fun e w' => ∃ m a : Int, e = .returned (.tuple #[.int .i64 m, .int .i64 a]) ∧ Only [g] w w' ∧ CurS B w' g (k + 20) := by
  have hg := h.lt
  go_enter Try.func133, Try.ntmps133
  go_wp2_with fail
  refine (pick_any g k 60 _ h (by omega) (by omega)).mono ?_
  rintro e w1 ⟨M, rfl, hM, hO, hC⟩
  clear h
  go_wp2_with fail
  refine (pick_any g _ 12 _ hC (by omega) (by omega)).mono ?_
  rintro e w2 ⟨r, rfl, hr, hO', hC'⟩
  replace hO := hO.thenOnly hO'
  replace hC := hC'
  have hsz := hO.size
  clear hO' hC'
  have hr' : r = 0 ∨ r = 1 ∨ 2 ≤ r := by omega
  rcases hr' with rfl | rfl | hr5
  · go_wp2_with fail
    refine (among_new g _ 6 [1000000007, 2000000000, 2000000001, 1, 0, -5] _ w2 hC (by omega) rfl rfl (by omega) (by omega) (by omega)).mono ?_
    rintro e w3 ⟨m, rfl, hm, hO', hC'⟩
    have hm2 : -5 ≤ m ∧ m ≤ 2000000001 := by simp only [List.mem_cons, List.not_mem_nil, or_false] at hm; omega
    replace hO := hO.thenOnly hO'
    replace hC := hC'
    clear hO' hC' hm
    go_wp2_with fail
    refine (lLeast_le _ 60000 _).mono ?_
    rintro e wa ⟨r1, rfl, hr1, _, rfl⟩
    go_wp2_with fail
    refine (lMost_le 1 r1 _).mono ?_
    rintro e wa ⟨r2, rfl, hr2, _, rfl⟩
    go_wp2_with fail
    refine (pick_any g _ r2 _ hC (by omega) (by omega)).mono ?_
    rintro e wb ⟨a, rfl, ha, hO1, hC1⟩
    go_wp2_with fail
    refine (pick_any g _ 20 _ hC1 (by omega) (by omega)).mono ?_
    rintro e wc ⟨b, rfl, hb, hO2, hC2⟩
    go_wp2
    go_ret2
    exact ⟨_, _, rfl, (hO.thenOnly hO1).thenOnly hO2, hC2.more (by omega)⟩
  · go_wp2_with fail
    refine (pick_any g _ 60000 _ hC (by omega) (by omega)).mono ?_
    rintro e w3 ⟨m, rfl, hm, hO', hC'⟩
    replace hO := hO.thenOnly hO'
    replace hC := hC'
    clear hO' hC'
    go_wp2_with fail
    refine (lLeast_le _ 60000 _).mono ?_
    rintro e wa ⟨r1, rfl, hr1, _, rfl⟩
    go_wp2_with fail
    refine (lMost_le 1 r1 _).mono ?_
    rintro e wa ⟨r2, rfl, hr2, _, rfl⟩
    go_wp2_with fail
    refine (pick_any g _ r2 _ hC (by omega) (by omega)).mono ?_
    rintro e wb ⟨a, rfl, ha, hO1, hC1⟩
    go_wp2_with fail
    refine (pick_any g _ 20 _ hC1 (by omega) (by omega)).mono ?_
    rintro e wc ⟨b, rfl, hb, hO2, hC2⟩
    go_wp2
    go_ret2
    exact ⟨_, _, rfl, (hO.thenOnly hO1).thenOnly hO2, hC2.more (by omega)⟩
  · have e0 : ((r : Int) == 0) = false := by simp; omega
    have e1 : ((r : Int) == 1) = false := by simp; omega
    go_wp2_with fail
    refine (lLeast_le _ 60000 _).mono ?_
    rintro e wa ⟨r1, rfl, hr1, _, rfl⟩
    go_wp2_with fail
    refine (lMost_le 1 r1 _).mono ?_
    rintro e wa ⟨r2, rfl, hr2, _, rfl⟩
    go_wp2_with fail
    refine (pick_any g _ r2 _ hC (by omega) (by omega)).mono ?_
    rintro e wb ⟨a, rfl, ha, hO1, hC1⟩
    go_wp2_with fail
    refine (pick_any g _ 20 _ hC1 (by omega) (by omega)).mono ?_
    rintro e wc ⟨b, rfl, hb, hO2, hC2⟩
    go_wp2
    go_ret2
    exact ⟨_, _, rfl, (hO.thenOnly hO1).thenOnly hO2, hC2.more (by omega)⟩
set_option maxHeartbeats 1000000 in
theorem DrawInverseMod_any (A : Option Addr) (n c : Nat) (l : List Int) (w : World) (hR : RdB w A l) (hl : l.length = n) (hn : n ≤ 9223372036854775807) (hx : ∀ x ∈ l, 0 ≤ x ∧ x ≤ 255) :
    Calls Try.prog 40 #[.slice A n c] w fun e w' => ∃ a m : Int, e = .returned (.tuple #[.int .i64 a, .int .i64 m]) ∧ Ext w w' := by
  have hC := new_cur (c := c) hR hl hn hx
  clear hl hx hR
  have hz : w.heap.size + 1 ≤ (w.alloc (.cells #[.slice A n c, .int .i64 0, .int .u64 0] 126)).heap.size := by simp
  go_enter Try.func40, Try.ntmps40
  go_wp2_with fail
  refine (modulus_any w.heap.size 0 _ hC (by omega) hz).mono ?_
  rintro e w1 ⟨m, a, rfl, hO, hC1⟩
  go_wp2
  go_ret2
  exact ⟨_, _, rfl, ext_cur hO⟩
set_option maxHeartbeats 1000000 in
theorem DrawSumMod_any (A : Option Addr) (n c : Nat) (l : List Int) (w : World) (hR : RdB w A l) (hl : l.length = n) (hn : n ≤ 9223372036854775807) (hx : ∀ x ∈ l, 0 ≤ x ∧ x ≤ 255) :
    Calls Try.prog 137 #[.slice A n c] w fun e w' => ∃ A1 n1 c1 p m, e = .returned (.tuple #[.slice A1 n1 c1, .int .i64 m]) ∧ OwnI w' w.heap.size 3 A1 n1 c1 p ∧ n1 ≤ 202 ∧ Ext w w' := by
  have hC := new_cur (c := c) hR hl hn hx
  clear hl hx hR
  have hz : w.heap.size + 1 ≤ (w.alloc (.cells #[.slice A n c, .int .i64 0, .int .u64 0] 126)).heap.size := by simp
  go_enter Try.func137, Try.ntmps137
  go_wp2_with fail
  refine (modulus_any w.heap.size 0 _ hC (by omega) hz).mono ?_
  rintro e w1 ⟨m, a, rfl, hO, hC1⟩
  have hz1 := hO.size
  go_wp2_with fail
  refine (one_any w.heap.size _ 30 _ hC1 (by omega) (by omega)).mono ?_
  rintro e w2 ⟨b, rfl, hO2, hC2⟩
  replace hO := hO.thenOnly hO2
  have hz2 := hO.size
  clear hO2 hC1
  cases b
  · go_wp2_with fail
    refine (residues_any w.heap.size _ 8 m _ hC2 (by omega) (by omega) (by omega)).mono ?_
    rintro e w3 ⟨A1, n1, c1, p, rfl, hP, hn1, hO3, _⟩
    go_wp2
    go_ret2
    exact ⟨_, _, _, _, _, rfl, hP.more (by omega), by omega, ext_cur (hO.thenOnly hO3)⟩
  · go_wp2_with fail
    refine (pick_any w.heap.size _ 2 _ hC2 (by omega) (by omega)).mono ?_
    rintro e w3 ⟨r, rfl, hr, hO3, _⟩
    replace hO := hO.thenOnly hO3
    have hz3 := hO.size
    go_wp2_with (refine wpList_mkI intSl rfl _ _ rfl _ _ _ _ (200 + r) rfl rfl (by omega) (by omega) (by omega) w.heap.size (by omega) ?_; intro w4 hP hE hlt)
    go_ret2
    exact ⟨_, _, _, _, _, rfl, hP, by omega, ext_cur (hO.thenOnly (hE.toOnly _))⟩
set_option maxHeartbeats 1000000 in
theorem DrawInvertAll_any (A : Option Addr) (n c : Nat) (l : List Int) (w : World) (hR : RdB w A l) (hl : l.length = n) (hn : n ≤ 9223372036854775807) (hx : ∀ x ∈ l, 0 ≤ x ∧ x ≤ 255) :
    Calls Try.prog 43 #[.slice A n c] w fun e w' => ∃ A1 n1 c1 p m, e = .returned (.tuple #[.slice A1 n1 c1, .int .i64 m]) ∧ OwnI w' w.heap.size 3 A1 n1 c1 p ∧ n1 ≤ 202 ∧ Ext w w' := by
  have hC := new_cur (c := c) hR hl hn hx
  have hz : w.heap.size + 1 ≤ (w.alloc (.cells #[.slice A n c, .int .i64 0, .int .u64 0] 126)).heap.size := by simp
  have hR2 := hR.ext ((Ext.refl w).alloc (.cells #[.slice A n c, .int .i64 0, .int .u64 0] 126))
  have HX := Lib.hid hx
  have HL := Lib.hid hl
  clear hl hx hR
  go_enter Try.func43, Try.ntmps43
  go_wp2_with fail
  refine (DrawSumMod_any A n c l _ hR2 HL.out hn HX.out).mono ?_
  rintro e w1 ⟨A1, n1, c1, p, m, rfl, hP, hn1, hE⟩
  have hz1 := hE.size
  have hap : Apart (fpI A1) [w.heap.size] := apart_of (B := w.heap.size + 1) (hP.high.mono (by omega)) (by omega)
  go_wp2_with fail
  refine (one_any w.heap.size _ 2 _ (hC.ext hE) (by omega) (by omega)).mono ?_
  rintro e w2 ⟨b, rfl, hO2, _⟩
  have hP2 := (hP.only hO2 hap).more (base' := w.heap.size) (by omega)
  have hE2 : Ext w w2 := ext_cur ((hE.toOnly [w.heap.size]).thenOnly hO2)
  cases b
  · go_wp2
    go_ret2
    exact ⟨_, _, _, _, _, rfl, hP2, hn1, hE2⟩
  · go_wp2
    go_ret2
    exact ⟨_, _, _, _, _, rfl, hP2, hn1, hE2⟩

theorem dot_inv {l : List Int} {m : Int} (hm : 2 ≤ m) (h : ∀ x ∈ l, invV x m ≠ 0) : ∀ k : Nat, k ≤ l.length → dotV l (l.map fun x => invV x m) m k = (k : Int) % m
  | 0, _ => by simp [dotV]
  | k + 1, hk => by
    have hk1 : k < l.length := by omega
    rw [dotV_succ _ _ _ hk1 (by rw [List.length_map]; exact hk1), dot_inv hm h k (by omega), List.getElem_map]
    have h1 := (invV_spec ((invV_pos hm).1 (h _ (List.getElem_mem hk1)))).2.2
    rw [h1, Int.natCast_add, Int.add_emod, Int.emod_emod_of_dvd _ (Int.dvd_refl _), ← Int.add_emod]
    rfl
theorem pow_inv {a x m : Int} (hm : 2 ≤ m) (ha : 0 ≤ a) (hx : 0 ≤ x) (h : a * x % m = 1) : powM a 3 m * powM x 3 m % m = 1 := by
  obtain ⟨a, rfl⟩ := Int.eq_ofNat_of_zero_le ha
  obtain ⟨x, rfl⟩ := Int.eq_ofNat_of_zero_le hx
  obtain ⟨m, rfl⟩ := Int.eq_ofNat_of_zero_le (show 0 ≤ m by omega)
  have h1 : a * x % m = 1 := by
    have h2 : ((a * x % m : Nat) : Int) = ((1 : Nat) : Int) := by rw [Int.natCast_emod, Int.natCast_mul]; exact h
    exact Int.ofNat.inj h2
  have h3 : (a ^ 3 % m) * (x ^ 3 % m) % m = 1 := by
    rw [← Nat.mul_mod, ← Nat.mul_pow, Nat.pow_mod, h1, Nat.one_pow]
    exact Nat.mod_eq_of_lt (by omega)
  have h4 : powM a 3 m = ((a ^ 3 % m : Nat) : Int) := by simp [powM]
  have h5 : powM x 3 m = ((x ^ 3 % m : Nat) : Int) := by simp [powM]
  rw [h4, h5, ← Int.natCast_mul, ← Int.natCast_emod, h3]
  rfl
theorem powM_bd {a k m : Int} (hm : 2 ≤ m) : 0 ≤ powM a k m ∧ powM a k m < m := by
  obtain ⟨m, rfl⟩ := Int.eq_ofNat_of_zero_le (show 0 ≤ m by omega)
  unfold powM
  have := Nat.mod_lt (a.toNat ^ k.toNat) (show 0 < m by omega)
  simp only [Int.toNat_natCast]
  omega
end Go.Proofs.Yticimniegecfeaa

/- Contracts for factorisations: the program's and the reference's. -/
import Derived.Test.YtdimmfniefjjkaaProg
import Derived.Test.YtdimmfniefjjkaaFacP
import Derived.Test.YtdimmfniefjjkaaCiph
namespace Go.Proofs.Ytdimmfniefjjkaa
open Go.RowKit

def fz (l : List (Nat × Nat)) : List (Int × Int) := l.map fun f => ((f.1 : Int), (f.2 : Int))
theorem fz_append (l : List (Nat × Nat)) (x y : Nat) : fz l ++ [((x : Int), (y : Int))] = fz (l ++ [(x, y)]) := by simp [fz]
theorem ppSl : PairSl Try.prog 24 30 := by
  refine ⟨Try.underlying24, ?_⟩
  have h : (Try.prog.info? 30).map (fun i => (i.zero, i.size, i.bytes)) = some (some (.agg #[.int .i64 0, .int .i64 0]), 2, 16) := by kernel_rfl
  exact info_parts h
theorem ownC_lit0 {w : World} {base e : Nat} (hb : base ≤ w.heap.size) : OwnC (w.alloc (.cells #[] e)) base e (some ⟨w.heap.size, 0, none⟩) 0 0 [] := by
  have h := World.ownsRow_lit (base := base) (e := e) (size := 2) w #[] 0 hb (Nat.zero_le _) (by simp)
  simpa [OwnC, cs2] using h
theorem root_bd {d n : Nat} (h : d * d ≤ n) (hn : n ≤ 2000000000) : d ≤ 44721 := by
  rcases Nat.lt_or_ge d 44722 with h1 | h1
  · omega
  · have := Nat.mul_le_mul h1 h1
    omega
theorem natsq_bd {d : Nat} (h : d ≤ 2000000001) : d * d ≤ 9000000000000000000 := Nat.le_trans (Nat.mul_le_mul h h) (by decide)
theorem strip_self {n : Nat} (h : 2 ≤ n) : strip n n = (1, 1) := by
  rw [strip_yes h (by omega) (Nat.mod_self n), Nat.div_self (by omega), strip_no (by rw [Nat.mod_eq_of_lt (by omega)]; omega)]
def facM (x d : Int) : Nat := if x ≤ 1 then 0 else (50000 - d).toNat
theorem facM_lt {m n d D : Int} (h : 1 < n) (hd : d < 50000) (h2 : m ≤ 1 ∨ d < D) : facM m D < facM n d := by
  unfold facM
  rw [if_neg (show ¬ n ≤ 1 by omega)]
  split <;> omega
/-- One round of the program's loop. -/
theorem fac_round {n d D : Nat} (h : 1 < n) (hD : D = n ∧ n < d * d ∨ D = d ∧ d * d ≤ n) : fac n d = (if (strip D n).2 = 0 then [] else [(D, (strip D n).2)]) ++ fac (strip D n).1 (D + 1) := by
  rcases hD with ⟨rfl, h2⟩ | ⟨rfl, h2⟩
  · rw [fac_last h h2, strip_self (by omega), if_neg (by omega), fac_one (Nat.le_refl 1)]; rfl
  · exact fac_next h h2
theorem fac_rel0 {l : List (Nat × Nat)} {n d D m N : Nat} (hI : l ++ fac n d = fac N 2) (hR : fac n d = (if (strip D n).2 = 0 then [] else [(D, (strip D n).2)]) ++ fac (strip D n).1 (D + 1)) (h : m = (strip D n).1 ∧ 0 = (strip D n).2) : l ++ fac m (D + 1) = fac N 2 := by
  rw [← hI, hR, ← h.1, ← h.2, if_pos rfl, List.nil_append]
theorem fac_rel1 {l : List (Nat × Nat)} {n d D m e N : Nat} (hI : l ++ fac n d = fac N 2) (hR : fac n d = (if (strip D n).2 = 0 then [] else [(D, (strip D n).2)]) ++ fac (strip D n).1 (D + 1)) (h : m = (strip D n).1 ∧ e = (strip D n).2) (he : e ≠ 0) : (l ++ [(D, e)]) ++ fac m (D + 1) = fac N 2 := by
  rw [← hI, hR, ← h.1, ← h.2, if_neg he, List.append_assoc]
set_option maxRecDepth 100000 in
set_option maxHeartbeats 4000000 in
theorem factors_any (N : Nat) (w : World) (h1 : 1 ≤ N) (h2 : N ≤ 2000000000) :
    Calls Try.prog 99 #[.int .i64 N] w fun e w' => ∃ A n c, e = .returned (.slice A n c) ∧ OwnC w' w.heap.size 30 A n c (fz (fac N 2)) ∧ Ext w w' := by
  go_enter Try.func99, Try.ntmps99
  go_wp2
  go_loopw [0, 3, 4] (fun u o v wr => ∃ (n d k c : Nat) (A : Option Addr) (l : List (Nat × Nat)), u = .int .i64 n ∧ v = .int .i64 d ∧ o = .slice A k c ∧ OwnC wr w.heap.size 30 A k c (fz l) ∧ 1 ≤ n ∧ n ≤ N ∧ 2 ≤ d ∧ d ≤ 2000000001 ∧ (n = 1 ∨ k ≤ d ∧ d ≤ 44722) ∧ k ≤ 44723 ∧ Hid (l ++ fac n d = fac N 2) ∧ Ext w wr) (fun u _ v _ => facM (intOf u) (intOf v))
  case atStart => exact ⟨N, 2, 0, 0, _, [], rfl, rfl, rfl, ownC_lit0 (Nat.le_refl _), h1, Nat.le_refl _, by omega, by omega, .inr ⟨by omega, by omega⟩, by omega, rfl, (Ext.refl w).alloc _⟩
  case round =>
    obtain ⟨n, d, k, c, A, l, rfl, rfl, rfl, hO, hn1, hn2, hd2, hd3, hkd, hk, HI, hE⟩ := hrel
    by_cases hn : n = 1
    · subst hn
      have h9 := HI.out
      rw [fac_one (Nat.le_refl 1), List.append_nil] at h9
      subst h9
      go_wp2
      go_ret
      exact ⟨_, _, _, rfl, hO, hE⟩
    · have HI0 := HI
      have hkd' : k ≤ d ∧ d ≤ 44722 := by omega
      have hn3 : (1 : Int) < n := by omega
      have hsq := natmul_bd d d (by omega) (by omega)
      by_cases hdd : n < d * d
      · have HR := Lib.hid (fac_round (show 1 < n by omega) (.inl ⟨rfl, hdd⟩))
        have hD2 : 2 ≤ n := by omega
        have hgt : (n : Int) < (d : Int) * d := by have := Int.ofNat_lt.2 hdd; rw [Int.natCast_mul] at this; exact this
        have hst1 : Hid ((strip n n).1 = 1) := by rw [strip_self hD2]; exact rfl
        go_wp2
        go_loop [0, 5] (fun u v => ∃ m e : Nat, u = .int .i64 m ∧ v = .int .i64 e ∧ 1 ≤ m ∧ e + m ≤ n ∧ Hid ((strip n m).1 = (strip n n).1 ∧ (strip n m).2 + e = (strip n n).2)) (fun u _ => (intOf u).toNat)
        case atStart => exact ⟨n, 0, rfl, rfl, by omega, by omega, ⟨rfl, Nat.add_zero _⟩⟩
        case round =>
          obtain ⟨m, e, rfl, rfl, hm1, hem, HI⟩ := hrel
          by_cases hdv : m % n = 0
          · have h1 : (m : Int) % (n : Int) = 0 := by omega
            have h2 : (m : Int) / (n : Int) = ((m / n : Nat) : Int) := by simp
            have h3 : m / n < m := Nat.div_lt_self (by omega) (by omega)
            have h4 : 1 ≤ m / n := Nat.div_pos (Nat.le_of_dvd (by omega) (Nat.dvd_of_mod_eq_zero hdv)) (by omega)
            have hst := strip_yes (show 2 ≤ n by omega) (show 0 < m by omega) hdv
            have HST := Lib.hid hst
            obtain ⟨z, hz⟩ : ∃ z, m / n = z := ⟨_, rfl⟩
            rw [hz] at h2 h3 h4
            have HZ := Lib.hid hz
            clear hst hz hdv
            go_wp2
            go_round
            case rel =>
              refine ⟨z, e + 1, rfl, by go_num, h4, by omega, ?_⟩
              have h5 := HI.out
              rw [HST.out, HZ.out] at h5
              exact ⟨h5.1, by have := h5.2; simp only at this; omega⟩
            case measure => simp only [intOf]; omega
          · have h1 : ((m : Int) % (n : Int) == 0) = false := by rw [beq_eq_false_iff_ne]; omega
            have hst := strip_no hdv
            have h5 : m = (strip n n).1 ∧ e = (strip n n).2 := by
              have h6 := HI.out
              rw [hst] at h6
              exact ⟨h6.1, by have := h6.2; simp only at this; omega⟩
            have HF2 := Lib.hid h5
            clear hst h5 hdv HI
            have HM1 : Hid (m = 1) := by rw [HF2.out.1]; exact hst1
            by_cases he : e = 0
            · subst he
              go_wp2
              go_roundw
              case rel => have hm1e : m = 1 := HM1.out; exact ⟨m, n + 1, k, c, A, l, rfl, by go_num, rfl, hO, hm1, by omega, by omega, by omega, by omega, hk, fac_rel0 HI0.out HR.out HF2.out, hE⟩
              case measure => have hm1e : m = 1 := HM1.out; simp only [intOf]; exact facM_lt (by omega) (by omega) (by omega)
            · have he1 : (0 : Int) < e := by omega
              have hwz := hE.size
              go_wp2_with (at_builtin; refine wpList_app1C ppSl rfl _ _ rfl hO rfl rfl (by omega) hwz ?_; intro A2 c2 w2 hO2 hb2)
              rw [fz_append] at hO2
              go_roundw
              case rel => have hm1e : m = 1 := HM1.out; exact ⟨m, n + 1, k + 1, c2, A2, l ++ [(n, e)], rfl, by go_num, rfl, hO2, hm1, by omega, by omega, by omega, by omega, by omega, fac_rel1 HI0.out HR.out HF2.out he, hE.then hb2 (Nat.le_refl _)⟩
              case measure => have hm1e : m = 1 := HM1.out; simp only [intOf]; exact facM_lt (by omega) (by omega) (by omega)
      · obtain ⟨D, hD⟩ : ∃ D, D = d := ⟨_, rfl⟩
        have HR := Lib.hid (fac_round (show 1 < n by omega) (.inr ⟨hD, Nat.not_lt.1 hdd⟩))
        have hrb := root_bd (Nat.not_lt.1 hdd) (by omega)
        have hD2 : 2 ≤ D := by omega
        have hle : (d : Int) * d ≤ (n : Int) := by have := Int.ofNat_le.2 (Nat.not_lt.1 hdd); rw [Int.natCast_mul] at this; exact this
        subst hD
        go_wp2
        go_loop [0, 5] (fun u v => ∃ m e : Nat, u = .int .i64 m ∧ v = .int .i64 e ∧ 1 ≤ m ∧ e + m ≤ n ∧ Hid ((strip D m).1 = (strip D n).1 ∧ (strip D m).2 + e = (strip D n).2)) (fun u _ => (intOf u).toNat)
        case atStart => exact ⟨n, 0, rfl, rfl, by omega, by omega, ⟨rfl, Nat.add_zero _⟩⟩
        case round =>
          obtain ⟨m, e, rfl, rfl, hm1, hem, HI⟩ := hrel
          by_cases hdv : m % D = 0
          · have h1 : (m : Int) % (D : Int) = 0 := by omega
            have h2 : (m : Int) / (D : Int) = ((m / D : Nat) : Int) := by simp
            have h3 : m / D < m := Nat.div_lt_self (by omega) (by omega)
            have h4 : 1 ≤ m / D := Nat.div_pos (Nat.le_of_dvd (by omega) (Nat.dvd_of_mod_eq_zero hdv)) (by omega)
            have hst := strip_yes (show 2 ≤ D by omega) (show 0 < m by omega) hdv
            have HST := Lib.hid hst
            obtain ⟨z, hz⟩ : ∃ z, m / D = z := ⟨_, rfl⟩
            rw [hz] at h2 h3 h4
            have HZ := Lib.hid hz
            clear hst hz hdv
            go_wp2
            go_round
            case rel =>
              refine ⟨z, e + 1, rfl, by go_num, h4, by omega, ?_⟩
              have h5 := HI.out
              rw [HST.out, HZ.out] at h5
              exact ⟨h5.1, by have := h5.2; simp only at this; omega⟩
            case measure => simp only [intOf]; omega
          · have h1 : ((m : Int) % (D : Int) == 0) = false := by rw [beq_eq_false_iff_ne]; omega
            have hst := strip_no hdv
            have h5 : m = (strip D n).1 ∧ e = (strip D n).2 := by
              have h6 := HI.out
              rw [hst] at h6
              exact ⟨h6.1, by have := h6.2; simp only at this; omega⟩
            have HF2 := Lib.hid h5
            clear hst h5 hdv HI
            by_cases he : e = 0
            · subst he
              go_wp2
              go_roundw
              case rel => exact ⟨m, D + 1, k, c, A, l, rfl, by go_num, rfl, hO, hm1, by omega, by omega, by omega, by omega, hk, fac_rel0 HI0.out HR.out HF2.out, hE⟩
              case measure => simp only [intOf]; exact facM_lt (by omega) (by omega) (by omega)
            · have he1 : (0 : Int) < e := by omega
              have hwz := hE.size
              go_wp2_with (at_builtin; refine wpList_app1C ppSl rfl _ _ rfl hO rfl rfl (by omega) hwz ?_; intro A2 c2 w2 hO2 hb2)
              rw [fz_append] at hO2
              go_roundw
              case rel => exact ⟨m, D + 1, k + 1, c2, A2, l ++ [(D, e)], rfl, by go_num, rfl, hO2, hm1, by omega, by omega, by omega, by omega, by omega, fac_rel1 HI0.out HR.out HF2.out he, hE.then hb2 (Nat.le_refl _)⟩
              case measure => simp only [intOf]; exact facM_lt (by omega) (by omega) (by omega)

set_option maxRecDepth 100000 in
set_option maxHeartbeats 4000000 in
theorem nFactor_any (N : Nat) (w : World) (h1 : 1 ≤ N) (h2 : N ≤ 2000000000) :
    Calls Try.prog 101 #[.int .i64 N] w fun e w' => ∃ A n c, e = .returned (.slice A n c) ∧ OwnC w' w.heap.size 30 A n c (fz (fac N 2)) ∧ Ext w w' := by
  go_enter Try.func101, Try.ntmps101
  go_wp2
  go_loopw [0, 3, 4] (fun u o v wr => ∃ (n d k c : Nat) (A : Option Addr) (l : List (Nat × Nat)), u = .int .i64 n ∧ v = .int .i64 d ∧ o = .slice A k c ∧ OwnC wr w.heap.size 30 A k c (fz l) ∧ 1 ≤ n ∧ n ≤ N ∧ 2 ≤ d ∧ k ≤ d ∧ d ≤ 44722 ∧ k ≤ 44723 ∧ Hid (l ++ fac n d = fac N 2) ∧ Ext w wr) (fun u _ v _ => facM (intOf u) (intOf v))
  case atStart => exact ⟨N, 2, 0, 0, _, [], rfl, rfl, rfl, OwnC.nil _ _ _, h1, Nat.le_refl _, by omega, by omega, by omega, by omega, rfl, Ext.refl w⟩
  case round =>
    obtain ⟨n, d, k, c, A, l, rfl, rfl, rfl, hO, hn1, hn2, hd2, hkd, hd4, hk, HI, hE⟩ := hrel
    have hsq := natmul_bd d d (by omega) (by omega)
    have HI0 := HI
    have hwz0 := hE.size
    by_cases hdd : n < d * d
    · have hgt : ¬ (d : Int) * d ≤ (n : Int) := by have := Int.ofNat_lt.2 hdd; rw [Int.natCast_mul] at this; omega
      by_cases hn : n = 1
      · subst hn
        have h9 := HI.out
        rw [fac_one (Nat.le_refl 1), List.append_nil] at h9
        subst h9
        go_wp2
        go_ret
        exact ⟨_, _, _, rfl, hO, hE⟩
      · have h9 := HI.out
        rw [fac_last (by omega) hdd] at h9
        have hn3 : (1 : Int) < n := by omega
        have H9 := Lib.hid h9
        clear h9
        go_wp2_with (at_builtin; refine wpList_app1C ppSl rfl _ _ rfl hO rfl rfl (by omega) hwz0 ?_; intro A2 c2 w2 hO2 hb2)
        have e1 : fz l ++ [((n : Int), (1 : Int))] = fz (fac N 2) := by rw [← H9.out]; exact fz_append l n 1
        rw [e1] at hO2
        go_ret
        exact ⟨_, _, _, rfl, hO2, hE.then hb2 (Nat.le_refl _)⟩
    · obtain ⟨D, hD⟩ : ∃ D, D = d := ⟨_, rfl⟩
      have hn0 : 1 < n := by have := Nat.mul_le_mul hd2 hd2; omega
      have HR := Lib.hid (fac_round hn0 (.inr ⟨hD, Nat.not_lt.1 hdd⟩))
      have hrb := root_bd (Nat.not_lt.1 hdd) (by omega)
      have hD2 : 2 ≤ D := by omega
      have hle : (d : Int) * d ≤ (n : Int) := by have := Int.ofNat_le.2 (Nat.not_lt.1 hdd); rw [Int.natCast_mul] at this; exact this
      subst hD
      go_wp2
      go_loop [0, 5] (fun u v => ∃ m e : Nat, u = .int .i64 m ∧ v = .int .i64 e ∧ 1 ≤ m ∧ e + m ≤ n ∧ Hid ((strip D m).1 = (strip D n).1 ∧ (strip D m).2 + e = (strip D n).2)) (fun u _ => (intOf u).toNat)
      case atStart => exact ⟨n, 0, rfl, rfl, by omega, by omega, ⟨rfl, Nat.add_zero _⟩⟩
      case round =>
        obtain ⟨m, e, rfl, rfl, hm1, hem, HI⟩ := hrel
        by_cases hdv : m % D = 0
        · have h1 : (m : Int) % (D : Int) = 0 := by omega
          have h2 : (m : Int) / (D : Int) = ((m / D : Nat) : Int) := by simp
          have h3 : m / D < m := Nat.div_lt_self (by omega) (by omega)
          have h4 : 1 ≤ m / D := Nat.div_pos (Nat.le_of_dvd (by omega) (Nat.dvd_of_mod_eq_zero hdv)) (by omega)
          have hst := strip_yes (show 2 ≤ D by omega) (show 0 < m by omega) hdv
          have HST := Lib.hid hst
          obtain ⟨z, hz⟩ : ∃ z, m / D = z := ⟨_, rfl⟩
          rw [hz] at h2 h3 h4
          have HZ := Lib.hid hz
          clear hst hz hdv
          go_wp2
          go_round
          case rel =>
            refine ⟨z, e + 1, rfl, by go_num, h4, by omega, ?_⟩
            have h5 := HI.out
            rw [HST.out, HZ.out] at h5
            exact ⟨h5.1, by have := h5.2; simp only at this; omega⟩
          case measure => simp only [intOf]; omega
        · have h1 : ((m : Int) % (D : Int) == 0) = false := by rw [beq_eq_false_iff_ne]; omega
          have hst := strip_no hdv
          have h5 : m = (strip D n).1 ∧ e = (strip D n).2 := by
            have h6 := HI.out
            rw [hst] at h6
            exact ⟨h6.1, by have := h6.2; simp only at this; omega⟩
          have HF2 := Lib.hid h5
          clear hst h5 hdv HI
          by_cases he : e = 0
          · subst he
            go_wp2
            go_roundw
            case rel => exact ⟨m, D + 1, k, c, A, l, rfl, by go_num, rfl, hO, hm1, by omega, by omega, by omega, by omega, hk, fac_rel0 HI0.out HR.out HF2.out, hE⟩
            case measure => simp only [intOf]; exact facM_lt (by omega) (by omega) (by omega)
          · have he1 : (0 : Int) < e := by omega
            have hwz := hE.size
            go_wp2_with (at_builtin; refine wpList_app1C ppSl rfl _ _ rfl hO rfl rfl (by omega) hwz ?_; intro A2 c2 w2 hO2 hb2)
            rw [fz_append] at hO2
            go_roundw
            case rel => exact ⟨m, D + 1, k + 1, c2, A2, l ++ [(D, e)], rfl, by go_num, rfl, hO2, hm1, by omega, by omega, by omega, by omega, by omega, fac_rel1 HI0.out HR.out HF2.out he, hE.then hb2 (Nat.le_refl _)⟩
            case measure => simp only [intOf]; exact facM_lt (by omega) (by omega) (by omega)
end Go.Proofs.Ytdimmfniefjjkaa

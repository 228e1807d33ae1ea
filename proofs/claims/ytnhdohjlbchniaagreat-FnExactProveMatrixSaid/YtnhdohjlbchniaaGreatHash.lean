/- Contracts for the hash: the program's and the reference's. -/
import Derived.Test.YtnhdohjlbchniaaGreatProg
import Derived.Test.YtnhdohjlbchniaaGreatApp
import Derived.Test.YtnhdohjlbchniaaGreatEq
import Derived.Test.YtnhdohjlbchniaaGreatNum
namespace Go.Proofs.YtnhdohjlbchniaaGreat
open Go.RowKit

def hK (m s k : Int) : Int := (m * s + k + 1) % 2147483647
def hSt (p : Int × Int) (x : Int) : Int × Int :=
  (hK 48271 (hK 48271 p.1 (x % 2147483648)) (x / 2147483648), hK 69621 (hK 69621 p.2 (x % 2147483648)) (x / 2147483648))
def hFold (l : List Int) : Int × Int := l.foldl hSt (1, 2)
def hInt (l : List Int) : Int := (hFold ((l.length : Int) :: l)).1 * 2147483648 + (hFold ((l.length : Int) :: l)).2
theorem hK_bd (m s k : Int) : 0 ≤ hK m s k ∧ hK m s k < 2147483647 := ⟨Int.emod_nonneg _ (by decide), Int.emod_lt_of_pos _ (by decide)⟩
theorem hFold_take {l : List Int} {j : Nat} (hj : j < l.length) : hFold (l.take (j + 1)) = hSt (hFold (l.take j)) l[j] := by
  unfold hFold
  rw [List.take_succ_eq_append_getElem hj, List.foldl_append]
  rfl
theorem hFold_bd : ∀ l : List Int, 0 ≤ (hFold l).1 ∧ (hFold l).1 < 2147483647 ∧ 0 ≤ (hFold l).2 ∧ (hFold l).2 < 2147483647 := by
  suffices H : ∀ (l : List Int) (p : Int × Int), (0 ≤ p.1 ∧ p.1 < 2147483647 ∧ 0 ≤ p.2 ∧ p.2 < 2147483647) → 0 ≤ (l.foldl hSt p).1 ∧ (l.foldl hSt p).1 < 2147483647 ∧ 0 ≤ (l.foldl hSt p).2 ∧ (l.foldl hSt p).2 < 2147483647 from fun l => H l _ (by decide)
  intro l
  induction l with
  | nil => intro p h; exact h
  | cons x xs ih =>
    intro p _
    exact ih _ ⟨(hK_bd _ _ _).1, (hK_bd _ _ _).2, (hK_bd _ _ _).1, (hK_bd _ _ _).2⟩
theorem bit_31 (k : Nat) (hk : (k : Int) ≤ 9000000000000000000) : bits .and .i64 (k : Int) 2147483647 = ((k % 2147483648 : Nat) : Int) := by
  have h1 : (2147483647 : Int) = ((2147483647 : Nat) : Int) := rfl
  rw [h1]
  show IntKind.i64.wrap ((BitVec.ofInt 64 (k : Int) &&& BitVec.ofInt 64 ((2147483647 : Nat) : Int)).toNat : Int) = _
  rw [BitVec.toNat_and, toNat_i64 k (by omega), toNat_i64 2147483647 (by omega), IntKind.wrap_i64, show (2147483647 : Nat) = 2 ^ 31 - 1 from rfl, Nat.and_two_pow_sub_one_eq_mod, show (2 : Nat) ^ 31 = 2147483648 from rfl]
  omega
theorem hInt_bd (l : List Int) : 0 ≤ hInt l ∧ hInt l ≤ 4611686018427387903 := by
  have := hFold_bd ((l.length : Int) :: l)
  unfold hInt
  omega

set_option maxRecDepth 100000 in
set_option maxHeartbeats 2000000 in
theorem hash_any (A : Option Addr) (n c : Nat) (l : List Int) (w : World) (ha : RdI w A l) (hl : l.length = n) (hn : n ≤ 1000000) (hR : allR l 0 4611686018427387903 = true) :
    Calls Tryz.prog 120 #[.slice A n c] w fun e w' => e = .returned (.int .i64 (hInt l)) ∧ Ext w w' := by
  have HR : Hid (∀ x ∈ (l.length : Int) :: l, 0 ≤ x ∧ x ≤ 4611686018427387903) := by
    intro x hx
    rcases List.mem_cons.1 hx with rfl | hx
    · omega
    · exact allR_iff.1 hR x hx
  clear hR
  subst hl
  have hO := ownI_lit (w := w) (base := w.heap.size) (e := 3) (n := 1) [(l.length : Int)] rfl rfl (Nat.le_refl _) (by unfold maxLen; simp)
  have hr := ha.ext ((Ext.refl w).alloc (.cells (ints [(l.length : Int)]).toArray 3))
  go_enter Tryz.func120, Tryz.ntmps120
  go_wp2_with (at_builtin; refine wpList_appL intSl rfl _ _ rfl hO rfl hr rfl rfl (by omega) (by simp) ?_; intro A1 c1 w1 hO1 hb1)
  have hE : Ext w w1 := ((Ext.refl w).alloc _).then hb1 (Nat.le_refl _)
  have hrd : RdI w1 A1 ((l.length : Int) :: l) := hO1.rd
  generalize hL : (l.length : Int) :: l = L at *
  have hLl : L.length = 1 + l.length := by rw [← hL]; simp; omega
  have HL := Lib.hid hL
  clear hL
  go_loop [3, 4, 15] (fun s t i => ∃ k : Nat, k ≤ 1 + l.length ∧ i = .int .i64 k ∧ s = .int .i64 (hFold (L.take k)).1 ∧ t = .int .i64 (hFold (L.take k)).2) (fun _ _ i => 1 + l.length - (intOf i).toNat)
  case atStart => exact ⟨0, Nat.zero_le _, rfl, rfl, rfl⟩
  case round =>
    obtain ⟨k, hk, rfl, rfl, rfl⟩ := hrel
    by_cases hlt : k < 1 + l.length
    · obtain ⟨ad, rfl, hc⟩ := hrd.at_ (k := k) (by omega)
      have hx := HR.out _ (List.getElem_mem (l := L) (n := k) (by omega))
      have hs := hFold_take (l := L) (j := k) (by omega)
      have hb := hFold_bd (L.take k)
      generalize L[k]'(by omega) = x at *
      obtain ⟨X, rfl⟩ := Int.eq_ofNat_of_zero_le hx.1
      generalize hp : hFold (L.take k) = p at *
      obtain ⟨s, t⟩ := p
      have HS := Lib.hid hs
      have HP := Lib.hid hp
      clear hs hp
      simp only at hb
      have hand := bit_31 X (by omega)
      go_wp2
      go_round
      case rel => exact ⟨k + 1, by omega, by go_num, by rw [HS.out]; simp [hSt, hK], by rw [HS.out]; simp [hSt, hK]⟩
      case measure => simp [intOf]; omega
    · obtain rfl : k = 1 + l.length := by omega
      have hb := hFold_bd (L.take (1 + l.length))
      have hv : hInt l = (hFold (L.take (1 + l.length))).1 * 2147483648 + (hFold (L.take (1 + l.length))).2 := by
        rw [List.take_of_length_le (by omega), ← HL.out]; rfl
      generalize hFold (L.take (1 + l.length)) = p at *
      obtain ⟨s, t⟩ := p
      have HV : Hid (hInt l = s * 2147483648 + t) := hv
      clear hv
      simp only at hb
      go_wp2
      go_ret
      exact ⟨by rw [HV.out]; rfl, hE⟩

def h2 (m s : Int) (ks : List Int) : Int := ks.foldl (hK m) s
theorem h2_take {m s : Int} {ks : List Int} {j : Nat} (hj : j < ks.length) : h2 m s (ks.take (j + 1)) = hK m (h2 m s (ks.take j)) ks[j] := by
  unfold h2
  rw [List.take_succ_eq_append_getElem hj, List.foldl_append]
  rfl
theorem h2_bd {m s : Int} (h : 0 ≤ s ∧ s < 2147483647) : ∀ ks : List Int, 0 ≤ h2 m s ks ∧ h2 m s ks < 2147483647 := by
  intro ks
  induction ks generalizing s with
  | nil => exact h
  | cons k ks ih => exact ih (hK_bd m s k)

set_option maxHeartbeats 2000000 in
theorem absorb_any (g : Nat) (s t x : Int) (w : World) (hB : Blk w g 131 #[.int .i64 s, .int .i64 t]) (hs : 0 ≤ s ∧ s < 2147483647) (ht : 0 ≤ t ∧ t < 2147483647) (hx : 0 ≤ x ∧ x ≤ 4611686018427387903) :
    Calls Tryz.prog 121 #[.pointer (some ⟨g, 0, none⟩), .int .i64 x] w fun e w' => e = .returned (.tuple #[]) ∧ Blk w' g 131 #[.int .i64 (hSt (s, t) x).1, .int .i64 (hSt (s, t) x).2] ∧ Only [g] w w' := by
  have hO : OwnI (w.alloc (.cells #[.int .i64 (x % 2147483648), .int .i64 (x / 2147483648)] 3)) w.heap.size 3 (some ⟨w.heap.size, 0, none⟩) 2 2 [x % 2147483648, x / 2147483648] :=
    ownI_lit (w := w) (base := w.heap.size) (e := 3) (n := 2) [x % 2147483648, x / 2147483648] rfl rfl (Nat.le_refl _) (by unfold maxLen; simp)
  have hgl := hB.lt
  go_enter Tryz.func121, Tryz.ntmps121
  go_wp2
  have hks : ∀ y ∈ [x % 2147483648, x / 2147483648], 0 ≤ y ∧ y < 2147483648 := by
    intro y hy
    simp only [List.mem_cons, List.not_mem_nil, or_false] at hy
    rcases hy with rfl | rfl <;> omega
  have hfin : hSt (s, t) x = (h2 48271 s [x % 2147483648, x / 2147483648], h2 69621 t [x % 2147483648, x / 2147483648]) := rfl
  have HF := Lib.hid hfin
  clear hfin
  have hkl : [x % 2147483648, x / 2147483648].length = 2 := rfl
  generalize [x % 2147483648, x / 2147483648] = ks at *
  go_loopw [12] (fun i wr => ∃ j : Nat, j ≤ 2 ∧ i = .int .i64 j ∧ Blk wr g 131 #[.int .i64 (h2 48271 s (ks.take j)), .int .i64 (h2 69621 t (ks.take j))] ∧ Only [g] w wr ∧ OwnI wr w.heap.size 3 (some ⟨w.heap.size, 0, none⟩) 2 2 ks) (fun i _ => 2 - (intOf i).toNat)
  case atStart => exact ⟨0, Nat.zero_le _, rfl, hB.alloc _, ⟨rfl, rfl, rfl, by simp, fun k hk _ => by simpa using Below.heap_alloc w _ k hk⟩, hO⟩
  case round =>
    obtain ⟨j, hj, rfl, hBr, hOn, hR⟩ := hrel
    have b1 := h2_bd hs (m := 48271) (ks.take j)
    have b2 := h2_bd ht (m := 69621) (ks.take j)
    by_cases hlt : j < 2
    · obtain ⟨hc, _⟩ := hR.at0 j (by omega)
      have hy := hks _ (List.getElem_mem (l := ks) (n := j) (by omega))
      have e1 := h2_take (m := 48271) (s := s) (ks := ks) (j := j) (by omega)
      have e2 := h2_take (m := 69621) (s := t) (ks := ks) (j := j) (by omega)
      generalize ks[j]'(by omega) = y at *
      generalize h2 48271 s (ks.take j) = a at *
      generalize h2 69621 t (ks.take j) = b at *
      have C := hBr.cells
      have F := hBr.frozen
      have B2 := hBr.set_ 0 (.int .i64 ((48271 * a + y + 1) % 2147483647))
      have C2 := B2.cells
      have F2 := B2.frozen
      have B3 := B2.set_ 1 (.int .i64 ((69621 * b + y + 1) % 2147483647))
      have hOn3 := ((Only.refl [g] wr).setCell (p := ⟨g, 0, none⟩) (by simp) (.int .i64 ((48271 * a + y + 1) % 2147483647))).setCell (p := ⟨g, 1, none⟩) (by simp) (.int .i64 ((69621 * b + y + 1) % 2147483647))
      have hR3 := hR.only hOn3 (by intro q hq hq'; simp [fpI] at hq hq'; omega)
      have E1 := Lib.hid e1
      have E2 := Lib.hid e2
      have hOn4 := hOn.trans hOn3
      clear e1 e2
      go_wp2
      go_roundw
      case rel => exact ⟨j + 1, by omega, by go_num, by rw [E1.out, E2.out]; exact B3, hOn4.mono (by simp), hR3⟩
      case measure => simp [intOf]; omega
    · obtain rfl : j = 2 := by omega
      have hBe := hBr
      rw [List.take_of_length_le (by omega)] at hBe
      go_wp2
      go_end0
      rw [HF.out]
      exact ⟨rfl, hBe, hOn⟩

set_option maxHeartbeats 2000000 in
theorem hInts_any (A : Option Addr) (n c : Nat) (l : List Int) (w : World) (ha : RdI w A l) (hl : l.length = n) (hn : n ≤ 1000000) (hR : allR l 0 4611686018427387903 = true) :
    Calls Tryz.prog 115 #[.slice A n c] w fun e w' => e = .returned (.int .i64 (hInt l)) ∧ Ext w w' := by
  have HR : Hid (∀ x ∈ (l.length : Int) :: l, 0 ≤ x ∧ x ≤ 4611686018427387903) := by
    intro x hx
    rcases List.mem_cons.1 hx with rfl | hx
    · omega
    · exact allR_iff.1 hR x hx
  clear hR
  subst hl
  have hB := Blk.new w 131 #[.int .i64 1, .int .i64 2]
  have hE0 : Ext w (w.alloc (.cells #[.int .i64 1, .int .i64 2] 131)) := (Ext.refl w).alloc _
  go_enter Tryz.func115, Tryz.ntmps115
  go_wp2_with fail
  refine (absorb_any _ 1 2 (l.length : Int) _ hB (by omega) (by omega) (by omega)).mono ?_
  rintro e w1 ⟨rfl, hB1, hOn1⟩
  have hE1 : Ext w w1 := hE0.only hOn1 (by intro b hb; simp at hb; omega)
  have hP : hFold (((l.length : Int) :: l).take 1) = hSt (1, 2) l.length := rfl
  rw [← hP] at hB1
  clear hP
  go_wp2
  go_loopw [14] (fun i wr => ∃ k : Nat, k ≤ l.length ∧ i = .int .i64 k ∧ Blk wr w.heap.size 131 #[.int .i64 (hFold (((l.length : Int) :: l).take (k + 1))).1, .int .i64 (hFold (((l.length : Int) :: l).take (k + 1))).2] ∧ Ext w wr) (fun i _ => l.length - (intOf i).toNat)
  case atStart => exact ⟨0, Nat.zero_le _, rfl, hB1, hE1⟩
  case round =>
    obtain ⟨k, hk, rfl, hBr, hE⟩ := hrel
    have hb := hFold_bd (((l.length : Int) :: l).take (k + 1))
    by_cases hlt : k < l.length
    · obtain ⟨ad, rfl, hc⟩ := (ha.ext hE).at_ hlt
      have hx := HR.out _ (List.mem_cons_of_mem _ (List.getElem_mem hlt))
      have hs := hFold_take (l := (l.length : Int) :: l) (j := k + 1) (by simp; omega)
      rw [List.getElem_cons_succ] at hs
      generalize l[k] = x at *
      generalize hFold (((l.length : Int) :: l).take (k + 1)) = p at *
      generalize hp' : hFold (((l.length : Int) :: l).take (k + 1 + 1)) = p' at *
      have HP' := Lib.hid hp'
      clear hp'
      obtain ⟨s, t⟩ := p
      have HS := Lib.hid hs
      clear hs
      simp only at hb hBr
      go_wp2_with fail
      refine (absorb_any _ s t x _ hBr (by omega) (by omega) (by omega)).mono ?_
      rintro e w2 ⟨rfl, hB2, hOn2⟩
      rw [← HS.out] at hB2
      have hE2 : Ext w w2 := hE.only hOn2 (by intro b hb; simp at hb; omega)
      go_wp2
      go_roundw
      case rel => exact ⟨k + 1, by omega, by go_num, by rw [HP'.out]; exact hB2, hE2⟩
      case measure => simp [intOf]; omega
    · obtain rfl : k = l.length := by omega
      have hv : hInt l = (hFold (((l.length : Int) :: l).take (l.length + 1))).1 * 2147483648 + (hFold (((l.length : Int) :: l).take (l.length + 1))).2 := by
        rw [List.take_of_length_le (by simp)]; rfl
      generalize hFold (((l.length : Int) :: l).take (l.length + 1)) = p at *
      obtain ⟨s, t⟩ := p
      have HV : Hid (hInt l = s * 2147483648 + t) := hv
      clear hv
      simp only at hb hBr
      have C := hBr.cells
      go_wp2
      go_quiet (fail)
      go_wp2
      go_ret
      exact ⟨by rw [HV.out]; rfl, hE.drewN _⟩
end Go.Proofs.YtnhdohjlbchniaaGreat

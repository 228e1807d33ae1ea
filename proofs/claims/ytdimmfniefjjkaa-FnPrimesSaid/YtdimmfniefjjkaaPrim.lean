/- Contracts for factorisations and primitive roots: the exported functions. -/
import Derived.Test.YtdimmfniefjjkaaProg
import Derived.Test.YtdimmfniefjjkaaFac
import Derived.Test.YtdimmfniefjjkaaFunC
import Derived.Test.YtdimmfniefjjkaaPrimP
import Derived.Test.YtdimmfniefjjkaaCurR
namespace Go.Proofs.Ytdimmfniefjjkaa
open Go.RowKit

theorem quietP {P : Program} {f : FuncId} {args : Array Value} {w : World} {n : Nat} {v : Value} (h : Calls P f args (w.drewN n) fun e w' => e = .returned v ∧ w.drewN n = w') :
    Calls P f args (w.drewN n) fun e w'' => e = .returned v ∧ ∃ m, w'' = w.drewN m := h.mono fun _ _ ⟨he, hm⟩ => ⟨he, n, hm.symm⟩
/-- A factorisation as a list, if there is one. -/
def facR (n : Int) : List (Nat × Nat) := if inR n 1 2000000000 then fac n.toNat 2 else []
def FacPost (n : Int) (w : World) (e : Ending) (w' : World) : Prop :=
  ∃ A k c, e = .returned (.tuple #[.slice A k c, .bool (inR n 1 2000000000)]) ∧ OwnC w' w.heap.size 30 A k c (fz (facR n)) ∧ Ext w w'
set_option maxHeartbeats 1000000 in
theorem iFactorOf_any (n : Int) (w : World) : Calls Try.prog 16 #[.int .i64 n] w fun e w' => FacPost n w e w' := by
  cases h : inR n 1 2000000000
  · have hr : facR n = [] := by unfold facR; rw [h]; rfl
    unfold FacPost
    rw [h, hr]
    go_enter Try.func16, Try.ntmps16
    go_wp2_with fail
    refine (within_any _ _ _ _).mono ?_
    rintro e w1 ⟨he, rfl⟩
    rw [h] at he; subst he
    go_wp2
    go_ret2
    exact ⟨_, _, _, rfl, OwnC.nil _ _ _, Ext.refl _⟩
  · have hb := inR_iff.1 h
    have hr : facR n = fac n.toNat 2 := by unfold facR; rw [h]; rfl
    unfold FacPost
    rw [h, hr]
    clear hr
    obtain ⟨N, rfl⟩ := Int.eq_ofNat_of_zero_le (show 0 ≤ n by omega)
    rw [Int.toNat_natCast]
    have H := Lib.hid h
    clear h
    go_enter Try.func16, Try.ntmps16
    go_wp2_with fail
    refine (within_any _ _ _ _).mono ?_
    rintro e w1 ⟨he, rfl⟩
    rw [H.out] at he; subst he
    go_wp2_with fail
    refine (factors_any N _ (by omega) (by omega)).mono ?_
    rintro e w2 ⟨A, k, c, rfl, hO, hE⟩
    go_wp2
    go_ret2
    exact ⟨_, _, _, rfl, hO, hE⟩
set_option maxHeartbeats 1000000 in
theorem sFactorOf_any (n : Int) (w : World) : Calls Try.prog 17 #[.int .i64 n] w fun e w' => FacPost n w e w' := by
  cases h : inR n 1 2000000000
  · have hr : facR n = [] := by unfold facR; rw [h]; rfl
    unfold FacPost
    rw [h, hr]
    go_enter Try.func17, Try.ntmps17
    go_wp2_with fail
    refine (l1In_any _ _ _ _).mono ?_
    rintro e w1 ⟨he, rfl⟩
    rw [h] at he; subst he
    go_wp2
    go_ret2
    exact ⟨_, _, _, rfl, OwnC.nil _ _ _, Ext.refl _⟩
  · have hb := inR_iff.1 h
    have hr : facR n = fac n.toNat 2 := by unfold facR; rw [h]; rfl
    unfold FacPost
    rw [h, hr]
    clear hr
    obtain ⟨N, rfl⟩ := Int.eq_ofNat_of_zero_le (show 0 ≤ n by omega)
    rw [Int.toNat_natCast]
    have H := Lib.hid h
    clear h
    go_enter Try.func17, Try.ntmps17
    go_wp2_with fail
    refine (l1In_any _ _ _ _).mono ?_
    rintro e w1 ⟨he, rfl⟩
    rw [H.out] at he; subst he
    go_wp2_with fail
    refine (nFactor_any N _ (by omega) (by omega)).mono ?_
    rintro e w2 ⟨A, k, c, rfl, hO, hE⟩
    go_wp2
    go_ret2
    exact ⟨_, _, _, rfl, hO, hE⟩

set_option maxHeartbeats 1000000 in
theorem iIsPrime_any (n : Int) (w : World) (h0 : 0 ≤ n) (h2 : n ≤ 2000000000) : Calls Try.prog 21 #[.int .i64 n] w fun e w' => e = .returned (.tuple #[.bool (fieldB n), .bool true]) ∧ w = w' := by
  have h : inR n 0 2000000000 = true := inR_iff.2 ⟨h0, h2⟩
  go_enter Try.func21, Try.ntmps21
  go_wp2_with fail
  refine (within_any _ _ _ _).mono ?_
  rintro e w1 ⟨he, rfl⟩
  rw [h] at he; subst he
  go_wp2_with fail
  refine (isPrime_any _ _).mono ?_
  rintro e w1 ⟨rfl, rfl⟩
  go_wp2
  go_ret2
  exact ⟨rfl, rfl⟩

/-- What a test of one factor answers. -/
def rtF (p g : Nat) (f : Int × Int) : Bool := powM g (((p : Int) - 1) / f.1) p == 1
theorem rtF_fz (p g a b : Nat) (hp : 1 ≤ p) : rtF p g ((a : Int), (b : Int)) = decide (g ^ ((p - 1) / a) % p = 1) := by
  unfold rtF
  rw [show ((p : Int) - 1) / ((a : Int)) = (((p - 1) / a : Nat) : Int) by rw [show (p : Int) - 1 = ((p - 1 : Nat) : Int) by omega, Int.natCast_ediv], powM_nat]
  rw [Bool.eq_iff_iff, beq_iff_eq, decide_eq_true_iff]
  generalize g ^ ((p - 1) / a) % p = z
  omega
theorem rt_iff {p g : Nat} (hp : 2 ≤ p) {l : List (Nat × Nat)} : (fz l).any (rtF p g) = false ↔ IsRt p (p - 1) l g := by
  unfold IsRt fz
  rw [List.any_eq_false]
  constructor
  · intro h f hf he
    have h1 := h ((f.1 : Int), (f.2 : Int)) (List.mem_map.2 ⟨f, hf, rfl⟩)
    rw [rtF_fz _ _ _ _ (by omega)] at h1
    unfold eqm at he
    rw [Nat.mod_eq_of_lt (show 1 < p by omega)] at he
    simp [he] at h1
  · intro h x hx
    obtain ⟨f, hf, rfl⟩ := List.mem_map.1 hx
    rw [rtF_fz _ _ _ _ (by omega)]
    have h1 := h f hf
    unfold eqm at h1
    rw [Nat.mod_eq_of_lt (show 1 < p by omega)] at h1
    simp [h1]
theorem fac_mem {n : Nat} (hn : 1 ≤ n) {f : Nat × Nat} (hf : f ∈ fac n 2) : 2 ≤ f.1 ∧ f.1 ≤ n := by
  obtain ⟨h1, h2⟩ := fac_facts _ n 2 (Nat.le_refl _) hn (Nat.le_refl _) (fun e h1 h3 => absurd h3 (by omega))
  obtain ⟨h3, h4⟩ := h2 f hf
  refine ⟨h3.1, ?_⟩
  obtain ⟨s, t, hst⟩ := List.append_of_mem hf
  rw [hst, prodF_append, prodF] at h1
  have h6 : f.1 ∣ f.1 ^ f.2 := by
    have := Nat.pow_dvd_pow f.1 h4
    rwa [Nat.pow_one] at this
  refine Nat.le_of_dvd (by omega) ?_
  rw [← h1]
  exact Nat.dvd_trans h6 (Nat.dvd_mul_left_of_dvd (Nat.dvd_mul_right _ _) _)
theorem fz_mem {n : Nat} (hn : 1 ≤ n) {x : Int × Int} (hx : x ∈ fz (fac n 2)) : 2 ≤ x.1 ∧ x.1 ≤ n := by
  obtain ⟨f, hf, rfl⟩ := List.mem_map.1 hx
  have := fac_mem hn hf
  simp only
  omega

set_option maxHeartbeats 1000000 in
theorem root1_any (p g a b : Nat) (fa : Int × Int) (w : World) (hA : Blk w a 3 #[.int .i64 g]) (hB : Blk w b 3 #[.int .i64 p]) (hp : 2 ≤ p) (hp2 : p ≤ 2000000000) (hg : g < p) (hf : 2 ≤ fa.1) (hf2 : fa.1 ≤ p) :
    Calls Try.prog 105 #[.agg #[.int .i64 fa.1, .int .i64 fa.2], .pointer (some ⟨a, 0, none⟩), .pointer (some ⟨b, 0, none⟩)] w fun e w' => e = .returned (.bool (rtF p g fa)) ∧ Ext w w' := by
  obtain ⟨x, y⟩ := fa
  simp only at hf hf2
  have E := (Ext.refl w).alloc (.cells #[.int .i64 x, .int .i64 y] 30)
  have B := Blk.new w 30 #[.int .i64 x, .int .i64 y]
  have CA := (hA.ext E).cells
  have CB := (hB.ext E).cells
  have CC := B.cells
  have hx0 : (x == 0) = false := by simp; omega
  have hd1 : 0 ≤ ((p : Int) - 1) / x := Int.ediv_nonneg (by omega) (by omega)
  have hd2 : ((p : Int) - 1) / x ≤ (p : Int) - 1 := Int.ediv_le_self _ (by omega)
  unfold rtF
  go_enter Try.func105, Try.ntmps105
  go_wp2
  go_quiet ((go_at_call 106; exact quietP (power_any g (((p : Int) - 1) / x) p _ (by omega) (by omega) (by omega) (by omega) (by omega) (by omega))))
  go_wp2
  go_ret
  exact ⟨rfl, E.drewN _⟩

def cellN (w : World) (g : Nat) : Nat := match w.cell? ⟨g, 0, none⟩ with
  | some (.int _ n) => n.toNat
  | _ => 0
theorem cellN_of {w : World} {g : Nat} {k : IntKind} {n : Int} (h : w.cell? ⟨g, 0, none⟩ = some (.int k n)) : cellN w g = n.toNat := by simp [cellN, h]
/-- What a primitive root's answer is. -/
def RootPost (p : Int) (w : World) (e : Ending) (w' : World) : Prop :=
  (fieldB p = false ∧ e = .returned (.tuple #[.int .i64 0, .bool false]) ∨ fieldB p = true ∧ ∃ g : Nat, IsLst p.toNat g ∧ e = .returned (.tuple #[.int .i64 g, .bool true])) ∧ Ext w w'

set_option maxRecDepth 100000 in
set_option maxHeartbeats 4000000 in
theorem iRoot_yes (p : Nat) (w : World) (hf : fieldB (p : Int) = true) :
    Calls Try.prog 19 #[.int .i64 p] w fun e w' => (∃ g : Nat, IsLst p g ∧ e = .returned (.tuple #[.int .i64 g, .bool true])) ∧ Ext w w' := by
  have hff := hf
  unfold fieldB at hff
  rw [Bool.and_eq_true] at hff
  obtain ⟨h2, h3⟩ := inR_iff.1 hff.1
  have hp : PrimeN p := by have := primeB_iff.1 hff.2; rwa [Int.toNat_natCast] at this
  obtain ⟨g0, hg1, hg2, hg3⟩ := root_ex hp
  have HP := Lib.hid hp
  have HF := Lib.hid hf
  have HG := Lib.hid hg3
  clear hff hp hf hg3
  have B := Blk.new w 3 #[.int .i64 p]
  have E := (Ext.refl w).alloc (.cells #[.int .i64 p] 3)
  go_enter Try.func19, Try.ntmps19
  have C := B.cells
  go_wp2_with fail
  refine (isPrime_any _ _).mono ?_
  rintro e w1 ⟨he, rfl⟩
  rw [HF.out] at he; subst he
  have hsub : (p : Int) - 1 = ((p - 1 : Nat) : Int) := by omega
  have HS := Lib.hid hsub
  clear hsub
  go_wp2_with fail
  rw [HS.out]
  refine (factors_any (p - 1) _ (by omega) (by omega)).mono ?_
  rintro e w2 ⟨A, n, c, rfl, hO, hb⟩
  replace E := E.trans hb
  replace B := B.ext hb
  clear C hb
  have G := Blk.new w2 3 #[.int .i64 1]
  have hE2 := (Ext.refl w2).alloc (.cells #[.int .i64 1] 3)
  have hbl := B.lt
  have hn : n ≤ maxLen := hO.le
  have hmem : ∀ x ∈ fz (fac (p - 1) 2), 2 ≤ x.1 ∧ x.1 ≤ ((p - 1 : Nat) : Int) := fun x hx => fz_mem (by omega) hx
  replace E := E.trans hE2
  replace B := B.ext hE2
  have hO' := hO.ext hE2
  have hw2 := E.size
  simp only [World.size_alloc] at hw2
  have hlen := hO.len
  have HAL := Lib.hid (fun a (h : A = some a) => (hO.lt a h).2)
  generalize hL : fz (fac (p - 1) 2) = L at *
  have HLL := Lib.hid hL
  have HMEM := Lib.hid hmem
  clear hL hmem hO
  go_wp2
  go_loopw [14] (fun _ wr => ∃ g : Nat, Blk wr w2.heap.size 3 #[.int .i64 g] ∧ Blk wr w.heap.size 3 #[.int .i64 p] ∧ OwnC wr (w.alloc (.cells #[.int .i64 p] 3)).heap.size 30 A n c L ∧ 1 ≤ g ∧ g ≤ g0 ∧ Hid (∀ h, 1 ≤ h → h < g → ¬ IsRt p (p - 1) (fac (p - 1) 2) h) ∧ Ext w wr) (fun _ wr => g0 - cellN wr w2.heap.size)
  case atStart => exact ⟨1, G, B, hO', Nat.le_refl _, hg1, (fun h a b => absurd b (by omega)), E⟩
  case round =>
    clear G B hO' E hE2
    obtain ⟨g, G, B, hO, ha, hb, HN, E⟩ := hrel
    have CG := G.cells
    have CB := B.cells
    have FG := G.frozen
    have hans : AnsC 105 #[.pointer (some ⟨w2.heap.size, 0, none⟩), .pointer (some ⟨w.heap.size, 0, none⟩)] wr L (rtF p g) := by
      refine ⟨fun args w => by kernel_rfl, fun x hx w' hw' => ?_⟩
      obtain ⟨x1, x2⟩ := HMEM.out x hx
      exact root1_any p g _ _ x w' (G.ext hw') (B.ext hw') (by omega) (by omega) (by omega) x1 (by omega)
    cases hr : L.any (rtF p g)
    · have hrt := (rt_iff (l := fac (p - 1) 2) (show 2 ≤ p by omega)).1 (by rw [HLL.out]; exact hr)
      have hlst : IsLst p g := ⟨ha, hrt, HN.out⟩
      have HLS := Lib.hid hlst
      have HR := Lib.hid hr
      clear hr hrt hlst
      go_wp2_with fail
      refine (ContainsFuncPP_any _ _ _ L _ _ _ (rtF p g) hO.rd hlen hn hans).mono ?_
      rintro e w3 ⟨he, hb3⟩
      rw [HR.out] at he; subst he
      have CG3 := (G.ext hb3).cells
      go_wp2
      go_ret2
      exact ⟨⟨g, HLS.out, rfl⟩, E.trans hb3⟩
    · have hnr : ¬ IsRt p (p - 1) (fac (p - 1) 2) g := fun h => by
        have := (rt_iff (l := fac (p - 1) 2) (show 2 ≤ p by omega)).2 h
        rw [HLL.out, hr] at this
        cases this
      have hlt : g < g0 := by
        rcases Nat.lt_or_ge g g0 with h | h
        · exact h
        · have : g = g0 := by omega
          subst this
          exact absurd HG.out hnr
      have HNR := Lib.hid hnr
      have HR := Lib.hid hr
      clear hr hnr
      go_wp2_with fail
      refine (ContainsFuncPP_any _ _ _ L _ _ _ (rtF p g) hO.rd hlen hn hans).mono ?_
      rintro e w3 ⟨he, hb3⟩
      rw [HR.out] at he; subst he
      have G3 := G.ext hb3
      have CG3 := G3.cells
      have FG3 := G3.frozen
      have G4 := G3.set_ 0 (.int .i64 ((g : Int) + 1))
      have CG4 := G4.cells
      have hO3 := hO.ext hb3
      have hsz3 := G3.lt
      go_wp2
      go_roundw
      case rel =>
        refine ⟨g + 1, by push_cast; exact G4, (B.ext hb3).far (p := ⟨w2.heap.size, 0, none⟩) (by simp; omega) _, ?_, by omega, by omega, (fun h a b => ?_), (E.trans hb3).setCell (by simp; omega) _⟩
        · exact hO3.keep fun a ha => Below.heap_setCell _ _ _ _ (fun e => by have := HAL.out a ha; simp only at e; omega)
        · by_cases e : h = g
          · subst e; exact HNR.out
          · exact HN.out h a (by omega)
      case measure =>
        rw [cellN_of (CG 0), cellN_of (CG4 0)]
        omega

set_option maxHeartbeats 1000000 in
theorem iPrimitiveRoot_any (p : Int) (w : World) : Calls Try.prog 19 #[.int .i64 p] w fun e w' => RootPost p w e w' := by
  cases h : fieldB p
  · have H := Lib.hid h
    have E := (Ext.refl w).alloc (.cells #[.int .i64 p] 3)
    have C := (Blk.new w 3 #[.int .i64 p]).cells
    clear h
    go_enter Try.func19, Try.ntmps19
    go_wp2_with fail
    refine (isPrime_any _ _).mono ?_
    rintro e w1 ⟨he, rfl⟩
    rw [H.out] at he; subst he
    go_wp2
    go_ret2
    exact ⟨.inl ⟨H.out, rfl⟩, E⟩
  · have hff := h
    unfold fieldB at hff
    rw [Bool.and_eq_true] at hff
    obtain ⟨h2, h3⟩ := inR_iff.1 hff.1
    obtain ⟨P, rfl⟩ := Int.eq_ofNat_of_zero_le (show 0 ≤ p by omega)
    refine (iRoot_yes P w h).mono ?_
    rintro e w1 ⟨⟨g, h4, rfl⟩, E⟩
    exact ⟨.inr ⟨h, g, by rw [Int.toNat_natCast]; exact h4, rfl⟩, E⟩

theorem any_take {α : Type} {l : List α} {f : α → Bool} {j : Nat} (hj : j < l.length) : (l.take (j + 1)).any f = ((l.take j).any f || f l[j]) := by
  rw [List.take_succ_eq_append_getElem hj, List.any_append]
  simp
set_option maxRecDepth 100000 in
set_option maxHeartbeats 4000000 in
theorem sRoot_yes (p : Nat) (w : World) (hf : fieldB (p : Int) = true) :
    Calls Try.prog 20 #[.int .i64 p] w fun e w' => (∃ g : Nat, IsLst p g ∧ e = .returned (.tuple #[.int .i64 g, .bool true])) ∧ Ext w w' := by
  have hff := hf
  unfold fieldB at hff
  rw [Bool.and_eq_true] at hff
  obtain ⟨h2, h3⟩ := inR_iff.1 hff.1
  have hp : PrimeN p := by have := primeB_iff.1 hff.2; rwa [Int.toNat_natCast] at this
  obtain ⟨g0, hg1, hg2, hg3⟩ := root_ex hp
  have H1 := Lib.hid hff.1
  have H2 := Lib.hid hff.2
  have HG := Lib.hid hg3
  have hsub : (p : Int) - 1 = ((p - 1 : Nat) : Int) := by omega
  have HS := Lib.hid hsub
  clear hff hp hf hg3 hsub
  go_enter Try.func20, Try.ntmps20
  go_wp2_with fail
  refine (l1In_any _ _ _ _).mono ?_
  rintro e w1 ⟨he, rfl⟩
  rw [H1.out] at he; subst he
  go_wp2_with fail
  refine (nPrime_any _ _ (by omega)).mono ?_
  rintro e w1 ⟨he, rfl⟩
  rw [H2.out] at he; subst he
  go_wp2_with fail
  rw [HS.out]
  refine (nFactor_any (p - 1) _ (by omega) (by omega)).mono ?_
  rintro e w2 ⟨A, n, c, rfl, hO, E⟩
  have hn : n ≤ maxLen := hO.le
  unfold maxLen at hn
  have hmem : ∀ x ∈ fz (fac (p - 1) 2), 2 ≤ x.1 ∧ x.1 ≤ ((p - 1 : Nat) : Int) := fun x hx => fz_mem (by omega) hx
  have hlen := hO.len
  generalize hL : fz (fac (p - 1) 2) = L at *
  have HLL := Lib.hid hL
  have HMEM := Lib.hid hmem
  clear hL hmem
  subst hlen
  go_wp2
  go_loopw [5] (fun u wr => ∃ g : Nat, u = .int .i64 g ∧ RdC wr A L ∧ 1 ≤ g ∧ g ≤ g0 ∧ Hid (∀ h, 1 ≤ h → h < g → ¬ IsRt p (p - 1) (fac (p - 1) 2) h) ∧ Ext w wr) (fun u _ => g0 + 1 - (intOf u).toNat)
  case atStart => exact ⟨1, rfl, hO.rd, Nat.le_refl _, hg1, (fun h a b => absurd b (by omega)), E⟩
  case round =>
    clear hO E
    obtain ⟨g, rfl, hR, ha, hb, HN, E⟩ := hrel
    go_wp2
    go_loopw [6, 24] (fun b i ws => ∃ (bb : Bool) (j : Nat), b = .bool bb ∧ i = .int .i64 j ∧ j ≤ L.length ∧ Hid (bb = !(L.take j).any (rtF p g)) ∧ Ext wr ws) (fun _ i _ => L.length - (intOf i).toNat)
    case atStart => exact ⟨true, 0, rfl, rfl, Nat.zero_le _, rfl, Ext.refl _⟩
    case round =>
      obtain ⟨bb, j, rfl, rfl, hj, HB, E2⟩ := hrel
      by_cases hlt : j < L.length
      · obtain ⟨ad, rfl, hc, hd⟩ := (hR.ext E2).at_ hlt
        obtain ⟨x1, x2⟩ := HMEM.out _ (List.getElem_mem hlt)
        have hstep := any_take (f := rtF p g) hlt
        have HST := Lib.hid hstep
        clear hstep
        generalize hx : L[j] = x at *
        have HX := Lib.hid hx
        clear hx
        have hd1 : 0 ≤ ((p : Int) - 1) / x.1 := Int.ediv_nonneg (by omega) (by omega)
        have hd2 : ((p : Int) - 1) / x.1 ≤ (p : Int) - 1 := Int.ediv_le_self _ (by omega)
        have hx0 : (x.1 == 0) = false := by simp; omega
        have hE3 := (Ext.refl wr).alloc (.cells #[.int .i64 x.1, .int .i64 x.2] 30)
        cases bb
        · have hnew : false = !(L.take (j + 1)).any (rtF p g) := by
            rw [HST.out]
            have := HB.out
            cases h9 : (L.take j).any (rtF p g)
            · rw [h9] at this; cases this
            · rfl
          have HNEW := Lib.hid hnew
          clear hnew
          go_wp2
          go_roundw
          case rel => exact ⟨false, j + 1, rfl, by go_num, by omega, HNEW.out, E2.trans hE3⟩
          case measure => simp [intOf]; omega
        · have hold : (L.take j).any (rtF p g) = false := by
            have := HB.out
            cases h9 : (L.take j).any (rtF p g)
            · rfl
            · rw [h9] at this; cases this
          have hnew : (!rtF p g x) = !(L.take (j + 1)).any (rtF p g) := by
            rw [HST.out, hold, Bool.false_or]
          have hv : (powM g (((p : Int) - 1) / x.1) p != 1) = !rtF p g x := rfl
          have HNEW := Lib.hid hnew
          have HV := Lib.hid hv
          clear hnew hold hv
          go_wp2_with fail
          refine (nPower_any g (((p : Int) - 1) / x.1) p _ (by omega) (by omega) (by omega) (by omega) (by omega) (by omega)).mono ?_
          rintro e w4 ⟨rfl, rfl⟩
          go_wp2
          go_roundw
          case rel => exact ⟨!rtF p g x, j + 1, by rw [← HV.out], by go_num, by omega, HNEW.out, E2.trans hE3⟩
          case measure => simp [intOf]; omega
      · obtain rfl : j = L.length := by omega
        have hfin := HB.out
        rw [List.take_length] at hfin
        cases hr : L.any (rtF p g)
        · rw [hr] at hfin
          have hrt := (rt_iff (l := fac (p - 1) 2) (show 2 ≤ p by omega)).1 (by rw [HLL.out]; exact hr)
          have hlst : IsLst p g := ⟨ha, hrt, HN.out⟩
          have HLS := Lib.hid hlst
          have hbt : bb = true := hfin
          clear hr hrt hlst hfin HB
          subst hbt
          go_wp2
          go_ret2
          exact ⟨⟨g, HLS.out, rfl⟩, E.trans E2⟩
        · rw [hr] at hfin
          have hnr : ¬ IsRt p (p - 1) (fac (p - 1) 2) g := fun h => by
            have := (rt_iff (l := fac (p - 1) 2) (show 2 ≤ p by omega)).2 h
            rw [HLL.out, hr] at this
            cases this
          have hlt : g < g0 := by
            rcases Nat.lt_or_ge g g0 with h | h
            · exact h
            · have : g = g0 := by omega
              subst this
              exact absurd HG.out hnr
          have HNR := Lib.hid hnr
          have hbt : bb = false := hfin
          clear hr hnr hfin HB
          subst hbt
          go_wp2
          go_roundw
          case rel =>
            refine ⟨g + 1, by go_num, hR.ext E2, by omega, by omega, (fun h a b => ?_), E.trans E2⟩
            by_cases e : h = g
            · subst e; exact HNR.out
            · exact HN.out h a (by omega)
          case measure => simp [intOf]; omega
set_option maxHeartbeats 1000000 in
theorem sPrimitiveRoot_any (p : Int) (w : World) : Calls Try.prog 20 #[.int .i64 p] w fun e w' => RootPost p w e w' := by
  cases h1 : inR p 2 2000000000
  · have hf : fieldB p = false := by unfold fieldB; rw [h1]; rfl
    have H1 := Lib.hid h1
    clear h1
    go_enter Try.func20, Try.ntmps20
    go_wp2_with fail
    refine (l1In_any _ _ _ _).mono ?_
    rintro e w1 ⟨he, rfl⟩
    rw [H1.out] at he; subst he
    go_wp2
    go_ret2
    exact ⟨.inl ⟨hf, rfl⟩, Ext.refl _⟩
  have hb := inR_iff.1 h1
  cases h2 : primeB p
  · have hf : fieldB p = false := by unfold fieldB; rw [h2, Bool.and_false]
    have H1 := Lib.hid h1
    have H2 := Lib.hid h2
    have HF := Lib.hid hf
    clear h1 h2 hf
    go_enter Try.func20, Try.ntmps20
    go_wp2_with fail
    refine (l1In_any _ _ _ _).mono ?_
    rintro e w1 ⟨he, rfl⟩
    rw [H1.out] at he; subst he
    go_wp2_with fail
    refine (nPrime_any _ _ (by omega)).mono ?_
    rintro e w1 ⟨he, rfl⟩
    rw [H2.out] at he; subst he
    go_wp2
    go_ret2
    exact ⟨.inl ⟨HF.out, rfl⟩, Ext.refl _⟩
  · obtain ⟨P, rfl⟩ := Int.eq_ofNat_of_zero_le (show 0 ≤ p by omega)
    have hf : fieldB (P : Int) = true := by unfold fieldB; rw [h1, h2]; rfl
    refine (sRoot_yes P w hf).mono ?_
    rintro e w1 ⟨⟨g, h4, rfl⟩, E⟩
    exact ⟨.inr ⟨hf, g, by rw [Int.toNat_natCast]; exact h4, rfl⟩, E⟩

set_option maxHeartbeats 1000000 in
theorem iPowerMod_ok (a e m : Int) (w : World) (hm : inR m 2 2000000000 = true) (ha : inR a 0 (m - 1) = true) (he : inR e 0 2000000000 = true) :
    Calls Try.prog 22 #[.int .i64 a, .int .i64 e, .int .i64 m] w fun e' w' => e' = .returned (.tuple #[.int .i64 (powM a e m), .bool true]) ∧ w = w' := by
  have h1 := inR_iff.1 hm
  have h2 := inR_iff.1 ha
  have h3 := inR_iff.1 he
  have H1 := Lib.hid hm
  have H2 := Lib.hid ha
  have H3 := Lib.hid he
  clear hm ha he
  go_enter Try.func22, Try.ntmps22
  go_wp2_with fail
  refine (isModulus_any _ _).mono ?_
  rintro e w1 ⟨he, rfl⟩
  rw [H1.out] at he; subst he
  go_wp2_with fail
  refine (within_any _ _ _ _).mono ?_
  rintro e w1 ⟨he, rfl⟩
  rw [H2.out] at he; subst he
  go_wp2_with fail
  refine (within_any _ _ _ _).mono ?_
  rintro e w1 ⟨he, rfl⟩
  rw [H3.out] at he; subst he
  go_wp2_with fail
  refine (power_any _ _ _ _ (by omega) (by omega) (by omega) (by omega) (by omega) (by omega)).mono ?_
  rintro e w1 ⟨rfl, rfl⟩
  go_wp2
  go_ret2
  exact ⟨rfl, rfl⟩
set_option maxHeartbeats 1000000 in
theorem iLegendreOf_neg (a p : Int) (w : World) (hf : fieldB p = true) (hp : 3 ≤ p) (ha : inR a 0 (p - 1) = true) (hv : powM a ((p - 1) / 2) p = p - 1) :
    Calls Try.prog 23 #[.int .i64 a, .int .i64 p] w fun e' w' => e' = .returned (.tuple #[.int .i64 (-1), .bool true]) ∧ w = w' := by
  have hff := hf
  unfold fieldB at hff
  rw [Bool.and_eq_true] at hff
  have h1 := inR_iff.1 hff.1
  have h2 := inR_iff.1 ha
  have HF := Lib.hid hf
  have HA := Lib.hid ha
  have HV := Lib.hid hv
  have hp2 : (p == 2) = false := by simp; omega
  have hself : (p - 1 == p - 1) = true := by simp
  clear hf ha hv hff
  go_enter Try.func23, Try.ntmps23
  go_wp2_with fail
  refine (isPrime_any _ _).mono ?_
  rintro e w1 ⟨he, rfl⟩
  rw [HF.out] at he; subst he
  go_wp2_with fail
  refine (within_any _ _ _ _).mono ?_
  rintro e w1 ⟨he, rfl⟩
  rw [HA.out] at he; subst he
  go_wp2_with fail
  refine (power_any a ((p - 1) / 2) p _ (by omega) (by omega) (by omega) (by omega) (by omega) (by omega)).mono ?_
  rintro e w1 ⟨he, rfl⟩
  rw [HV.out] at he; subst he
  go_wp2
  go_ret2
  exact ⟨rfl, rfl⟩

set_option maxHeartbeats 2000000 in
theorem DrawFactorOf_any (A : Option Addr) (n c : Nat) (l : List Int) (w : World) (hR : RdB w A l) (hl : l.length = n) (hn : n ≤ 9223372036854775807) (hx : ∀ x ∈ l, 0 ≤ x ∧ x ≤ 255) :
    Calls Try.prog 15 #[.slice A n c] w fun e w' => ∃ r : Int, e = .returned (.int .i64 r) ∧ -2000000000 ≤ r ∧ r ≤ 2000000001 ∧ Ext w w' := by
  have hC := new_cur (c := c) hR hl hn hx
  clear hl hx hR
  go_enter Try.func15, Try.ntmps15
  go_wp2_with fail
  refine (one_any w.heap.size 0 6 _ hC (by omega) (by omega)).mono ?_
  rintro e w1 ⟨b, rfl, hO1, hC1⟩
  have hz := hO1.size
  rw [World.size_alloc] at hz
  cases b
  · go_wp2_with fail
    refine (pick_any w.heap.size _ 60000 _ hC1 (by omega) (by omega)).mono ?_
    rintro e w2 ⟨r, rfl, hr, hO2, hC2⟩
    go_wp2
    go_ret
    exact ⟨_, rfl, by omega, by omega, ext_cur (hO1.thenOnly hO2)⟩
  · go_wp2_with fail
    refine (among_new w.heap.size _ 6 [0, -1, 2000000000, 2000000001, 1999999973, 1073741824] _ w1 hC1 (by omega) rfl rfl (by omega) (by omega) hz).mono ?_
    rintro e w2 ⟨r, rfl, hr, hO2, hC2⟩
    have hrb : -2000000000 ≤ r ∧ r ≤ 2000000001 := by simp only [List.mem_cons, List.not_mem_nil, or_false] at hr; omega
    clear hr
    go_wp2
    go_ret
    exact ⟨_, rfl, hrb.1, hrb.2, ext_cur (hO1.thenOnly hO2)⟩
set_option maxHeartbeats 1000000 in
theorem prime_any {B : Nat} (g k : Nat) (w : World) (h : CurS B w g k) (hk : k ≤ 10000000) (hB : B ≤ w.heap.size) :
    Calls Try.prog 200 #[.pointer (some ⟨g, 0, none⟩)] w fun e w' => ∃ r : Int, e = .returned (.int .i64 r) ∧ 0 ≤ r ∧ r ≤ 2000000011 ∧ Only [g] w w' ∧ CurS B w' g (k + 2) := by
  go_enter Try.func200, Try.ntmps200
  go_wp2_with fail
  refine (among_new g k 17 [2, 3, 5, 7, 11, 13, 23, 47, 101, 2039, 65537, 1000000007, 1999999973, 1, 9, 0, 2000000011] _ w h (by omega) rfl rfl (by omega) (by omega) hB).mono ?_
  rintro e w1 ⟨r, rfl, hr, hO, hC⟩
  go_wp2
  go_ret
  refine ⟨r, rfl, ?_, ?_, hO, hC⟩ <;> (simp only [List.mem_cons, List.not_mem_nil, or_false] at hr; omega)
set_option maxHeartbeats 2000000 in
theorem DrawIsPrime_any (A : Option Addr) (n c : Nat) (l : List Int) (w : World) (hR : RdB w A l) (hl : l.length = n) (hn : n ≤ 9223372036854775807) (hx : ∀ x ∈ l, 0 ≤ x ∧ x ≤ 255) :
    Calls Try.prog 102 #[.slice A n c] w fun e w' => ∃ r : Int, e = .returned (.int .i64 r) ∧ -10 ≤ r ∧ r ≤ 2000000011 ∧ Ext w w' := by
  have hC := new_cur (c := c) hR hl hn hx
  clear hl hx hR
  go_enter Try.func102, Try.ntmps102
  go_wp2_with fail
  refine (one_any w.heap.size 0 3 _ hC (by omega) (by omega)).mono ?_
  rintro e w1 ⟨b, rfl, hO1, hC1⟩
  have hz := hO1.size
  rw [World.size_alloc] at hz
  cases b
  · go_wp2_with fail
    refine (pick_any w.heap.size _ 300 _ hC1 (by omega) (by omega)).mono ?_
    rintro e w2 ⟨r, rfl, hr, hO2, hC2⟩
    go_wp2_with fail
    refine (pick_any w.heap.size _ 20 _ hC2 (by omega) (by omega)).mono ?_
    rintro e w3 ⟨s, rfl, hs, hO3, hC3⟩
    go_wp2
    go_ret
    exact ⟨_, rfl, by omega, by omega, ext_cur ((hO1.thenOnly hO2).thenOnly hO3)⟩
  · go_wp2_with fail
    refine (prime_any w.heap.size _ _ hC1 (by omega) hz).mono ?_
    rintro e w2 ⟨r, rfl, hr1, hr2, hO2, hC2⟩
    go_wp2
    go_ret
    exact ⟨_, rfl, by omega, by omega, ext_cur (hO1.thenOnly hO2)⟩
set_option maxHeartbeats 1000000 in
theorem DrawPrimitiveRoot_any (A : Option Addr) (n c : Nat) (l : List Int) (w : World) (hR : RdB w A l) (hl : l.length = n) (hn : n ≤ 9223372036854775807) (hx : ∀ x ∈ l, 0 ≤ x ∧ x ≤ 255) :
    Calls Try.prog 18 #[.slice A n c] w fun e w' => ∃ r : Int, e = .returned (.int .i64 r) ∧ -10 ≤ r ∧ r ≤ 2000000011 ∧ Ext w w' := by
  go_enter Try.func18, Try.ntmps18
  go_wp2_with fail
  refine (DrawIsPrime_any A n c l _ hR hl hn hx).mono ?_
  rintro e w1 ⟨r, rfl, h1, h2, E⟩
  go_wp2
  go_ret
  exact ⟨r, rfl, h1, h2, E⟩
end Go.Proofs.Ytdimmfniefjjkaa

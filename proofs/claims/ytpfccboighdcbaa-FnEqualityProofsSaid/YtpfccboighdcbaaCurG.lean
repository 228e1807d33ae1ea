/- Drawn groups. -/
import Derived.Test.YtpfccboighdcbaaProg
import Derived.Test.YtpfccboighdcbaaCurR
import Derived.Test.YtpfccboighdcbaaMkG
import Derived.Deep.CutRange
import Derived.Deep.CutBlock
import Derived.RegionTactic
import Derived.ChangeAlike
import Derived.Deep.RegionHeld3
import Derived.Deep.RegionLaw
namespace Go.Proofs.Ytpfccboighdcbaa
open Go.RowKit
set_option linter.unusedVariables false
set_option linter.unusedSimpArgs false

theorem primeN_of {n d : Nat} (h2 : 2 ≤ n) (hd : n < d * d) (h : (List.range d).all (fun e => decide (e < 2) || decide (n % e ≠ 0)) = true) : PrimeN n := by
  refine prime_of_trial h2 hd fun e h1 h3 hdv => ?_
  have h4 := List.all_eq_true.1 h e (List.mem_range.2 h3)
  rw [Bool.or_eq_true, decide_eq_true_eq, decide_eq_true_eq] at h4
  rcases h4 with h4 | h4
  · omega
  · exact h4 (Nat.mod_eq_zero_of_dvd hdv)
theorem mk_exists {q : Nat} : ∀ t, 1 ≤ t → q * t + 1 ≤ 2000000000 → PrimeN (q * t + 1) → ∃ t', 1 ≤ t' ∧ t' ≤ t ∧ IsMk q (q * t' + 1) := by
  intro t
  induction t using Nat.strongRecOn with
  | _ t ih =>
    intro h1 h2 h3
    by_cases hl : ∃ s, 1 ≤ s ∧ s < t ∧ PrimeN (q * s + 1)
    · obtain ⟨s, a, b, c⟩ := hl
      have : q * s ≤ q * t := Nat.mul_le_mul_left q (by omega)
      obtain ⟨t', x, y, z⟩ := ih s b a (by omega) c
      exact ⟨t', x, by omega, z⟩
    · exact ⟨t, h1, Nat.le_refl _, t, h1, rfl, h2, h3, fun s a b c => hl ⟨s, a, b, c⟩⟩
theorem mk_wit {q t : Nat} {v : Value} {ok : Bool} (hq : 2 ≤ q ∧ q ≤ 1000000) (hpq : PrimeN q) (ht : 1 ≤ t) (hb : q * t + 1 ≤ 12000000) (hp : PrimeN (q * t + 1)) (h : MkOut (q : Int) v ok) :
    ∃ P G : Int, v = .agg #[.int .i64 P, .int .i64 q, .int .i64 G] ∧ (q : Int) < P ∧ P ≤ 12000000 ∧ 0 ≤ G ∧ G < P := by
  obtain ⟨t', x, y, z⟩ := mk_exists t ht (by omega) hp
  rcases h with ⟨_, P, s, h, a1, a2, a3, rfl, _⟩ | ⟨h, _⟩
  · rw [Int.toNat_natCast] at a1 a2
    have := IsMk.uniq (by omega) a1 z
    have h1 : q * t' ≤ q * t := Nat.mul_le_mul_left q y
    have h2 : q * 1 ≤ q * t' := Nat.mul_le_mul_left q x
    refine ⟨P, powM h s P, rfl, by omega, by omega, ?_, ?_⟩
    · rw [powM_nat]; exact Int.natCast_nonneg _
    · rw [powM_nat]; have := Nat.mod_lt (h ^ s) (show 0 < P by omega); omega
  · exfalso
    rcases h with h | h
    · rw [inR_iff.2 (by omega), primeB_iff.2 (by rw [Int.toNat_natCast]; exact hpq)] at h
      cases h
    · exact h ⟨_, by rw [Int.toNat_natCast]; exact z⟩
/-- At the return: a struct of three ints that lies in a cell. -/
theorem ret_three {fn : Func} {w : World} {g : Nat} {t : Tmp} {a b c : Int} {tm : Array Value} {Q : Ending → World → Prop}
    (B : Blk w g 38 #[.int .i64 a, .int .i64 b, .int .i64 c])
    (h : fn.results = #[.cell t 38]) (ht : tm.getD t undef = .pointer (some ⟨g, 0, none⟩)) (hQ : Q (.returned (.agg #[.int .i64 a, .int .i64 b, .int .i64 c])) w) :
    bodyPost Try.prog fn Q .ret { tmps := tm, defers := [] } w := by
  have C := B.cells
  refine bodyPost_ret (v := .agg #[.int .i64 a, .int .i64 b, .int .i64 c]) ?_ rfl hQ
  have ht' : (tm[t]?).getD undef = .pointer (some ⟨g, 0, none⟩) := by simpa using ht
  simp [results, h, ht', go_sem, C]
theorem below_three {g : Nat} (u : World) (a b c : Value) : Below g u (((u.setCell ⟨g, 0, none⟩ a).setCell ⟨g, 1, none⟩ b).setCell ⟨g, 2, none⟩ c) :=
  (((Below.refl g u).setCell (p := ⟨g, 0, none⟩) (Nat.le_refl _) a).setCell (p := ⟨g, 1, none⟩) (Nat.le_refl _) b).setCell (p := ⟨g, 2, none⟩) (Nat.le_refl _) c

theorem among_newh {B : Nat} (g k n : Nat) (L : List Int) (cs : Array Value) (w : World) (hs : Nat) (hh : w.heap.size = hs) (h : CurS B w g k) (hk : k ≤ 100000000) (hcs : cs = (ints L).toArray) (hl : L.length = n) (hn : 0 < n) (hn2 : n ≤ 1000) (hB : B ≤ w.heap.size) :
    Calls Try.prog 135 #[.pointer (some ⟨g, 0, none⟩), .slice (some ⟨hs, 0, none⟩) n n] (w.alloc (.cells cs 3)) fun e w' => ∃ r : Int, e = .returned (.int .i64 r) ∧ r ∈ L ∧ Only [g] w w' ∧ CurS B w' g (k + 2) := by
  subst hh
  exact among_new g k n L cs w h hk hcs hl hn hn2 hB

theorem tiny_wit {r : Int} (hr : r ∈ [3, 5, 5, 7, 11, 11, 13, 23]) {v : Value} {ok : Bool} (h : MkOut r v ok) : ∃ P Q G : Int, v = .agg #[.int .i64 P, .int .i64 Q, .int .i64 G] ∧ 3 ≤ Q ∧ Q < P ∧ P ≤ 12000000 ∧ 0 ≤ G ∧ G < P := by
  have key : ∀ (q t : Nat), r = (q : Int) → 3 ≤ q ∧ q ≤ 1000000 → PrimeN q → 1 ≤ t → q * t + 1 ≤ 12000000 → PrimeN (q * t + 1) → ∃ P Q G : Int, v = .agg #[.int .i64 P, .int .i64 Q, .int .i64 G] ∧ 3 ≤ Q ∧ Q < P ∧ P ≤ 12000000 ∧ 0 ≤ G ∧ G < P := by
    intro q t e h1 h2 h3 h4 h5
    subst e
    obtain ⟨P, G, a, b, c, d, f⟩ := mk_wit (by omega) h2 h3 h4 h5 h
    exact ⟨P, q, G, a, by omega, b, c, d, f⟩
  have hc : r = 3 ∨ r = 5 ∨ r = 7 ∨ r = 11 ∨ r = 13 ∨ r = 23 := by simp at hr; omega
  rcases hc with e | e | e | e | e | e
  · exact key 3 2 e (by omega) (primeN_of (d := 2) (by omega) (by omega) (by decide +kernel)) (by omega) (by omega) (primeN_of (d := 3) (by omega) (by omega) (by decide +kernel))
  · exact key 5 2 e (by omega) (primeN_of (d := 3) (by omega) (by omega) (by decide +kernel)) (by omega) (by omega) (primeN_of (d := 4) (by omega) (by omega) (by decide +kernel))
  · exact key 7 4 e (by omega) (primeN_of (d := 3) (by omega) (by omega) (by decide +kernel)) (by omega) (by omega) (primeN_of (d := 6) (by omega) (by omega) (by decide +kernel))
  · exact key 11 2 e (by omega) (primeN_of (d := 4) (by omega) (by omega) (by decide +kernel)) (by omega) (by omega) (primeN_of (d := 5) (by omega) (by omega) (by decide +kernel))
  · exact key 13 4 e (by omega) (primeN_of (d := 4) (by omega) (by omega) (by decide +kernel)) (by omega) (by omega) (primeN_of (d := 8) (by omega) (by omega) (by decide +kernel))
  · exact key 23 2 e (by omega) (primeN_of (d := 5) (by omega) (by omega) (by decide +kernel)) (by omega) (by omega) (primeN_of (d := 7) (by omega) (by omega) (by decide +kernel))
set_option maxRecDepth 100000 in
set_option maxHeartbeats 4000000 in
theorem tiny_any {B : Nat} (g k : Nat) (w : World) (h : CurS B w g k) (hk : k ≤ 100000) (hB : B ≤ w.heap.size) :
    Calls Try.prog 224 #[.pointer (some ⟨g, 0, none⟩)] w fun e w' => ∃ P Q G : Int, e = .returned (.agg #[.int .i64 P, .int .i64 Q, .int .i64 G]) ∧ 3 ≤ Q ∧ Q < P ∧ P ≤ 12000000 ∧ 0 ≤ G ∧ G < P ∧ Only [g] w w' ∧ CurS B w' g (k + 2) := by
  have hg := h.lt
  have hE0 := (Ext.refl w).alloc (.cells #[.int .i64 0, .int .i64 0, .int .i64 0] 38)
  have B2 := Blk.new w 38 #[.int .i64 0, .int .i64 0, .int .i64 0]
  have h0 := h.ext hE0
  go_enter Try.func224, Try.ntmps224
  go_wp2_with fail
  refine (among_newh g k 8 [3, 5, 5, 7, 11, 11, 13, 23] _ (w.alloc (.cells #[.int .i64 0, .int .i64 0, .int .i64 0] 38)) (w.heap.size + 1) (by simp) h0 (by omega) rfl rfl (by omega) (by omega) (by simp; omega)).mono ?_
  rintro e w1 ⟨r, rfl, hr, hO1, hC1⟩
  go_wp2_with fail
  refine (sMakeGroup_any r _).mono ?_
  rintro e w2 ⟨v, ok, rfl, ho, hb⟩
  obtain ⟨P, Q, G, rfl, hQ, hQP, hP, hG0, hG⟩ := tiny_wit hr ho
  have hO := ((hE0.toOnly [g]).thenOnly hO1).thenOnly (hb.toOnly [g])
  have B22 := ((B2.only hO1 (by simp <;> omega)).ext hb).alloc (.cells #[.int .i64 P, .int .i64 Q, .int .i64 G] 38)
  have hE3 := (Ext.refl w2).alloc (.cells #[.int .i64 P, .int .i64 Q, .int .i64 G] 38)
  have hC2 := (hC1.ext hb).ext hE3
  have C22 := B22.cells
  have F22 := B22.frozen
  have CN := (Blk.new w2 38 #[.int .i64 P, .int .i64 Q, .int .i64 G]).cells
  clear ho hr h h0 hE0 B2
  go_wp2
  refine ret_three (a := P) (b := Q) (c := G) (((B22.set_ 0 (.int .i64 P)).set_ 1 (.int .i64 Q)).set_ 2 (.int .i64 G)) rfl rfl ?_
  have L9 := below_three (g := w.heap.size) (w2.alloc (.cells #[.int .i64 P, .int .i64 Q, .int .i64 G] 38)) (.int .i64 P) (.int .i64 Q) (.int .i64 G)
  exact ⟨P, Q, G, rfl, hQ, hQP, hP, hG0, hG, (hO.thenOnly (hE3.toOnly [g])).thenBelow L9 (Nat.le_refl _), hC2.below (L9.mono hB)⟩

theorem gpw_bd (p q x : Int) (e : Int) (h : 1 ≤ p) : 0 ≤ gpw p q x e ∧ gpw p q x e < p := by
  unfold gpw powM
  have := Nat.mod_lt (x.toNat ^ (e % q).toNat) (show 0 < p.toNat by omega)
  omega

theorem grp_wit {r : Int} (hr : r ∈ [101, 1009, 1019, 65537, 999983]) {v : Value} {ok : Bool} (h : MkOut r v ok) : ∃ P Q G : Int, v = .agg #[.int .i64 P, .int .i64 Q, .int .i64 G] ∧ 3 ≤ Q ∧ Q < P ∧ P ≤ 12000000 ∧ 0 ≤ G ∧ G < P := by
  have key : ∀ (q t : Nat), r = (q : Int) → 3 ≤ q ∧ q ≤ 1000000 → PrimeN q → 1 ≤ t → q * t + 1 ≤ 12000000 → PrimeN (q * t + 1) → ∃ P Q G : Int, v = .agg #[.int .i64 P, .int .i64 Q, .int .i64 G] ∧ 3 ≤ Q ∧ Q < P ∧ P ≤ 12000000 ∧ 0 ≤ G ∧ G < P := by
    intro q t e h1 h2 h3 h4 h5
    subst e
    obtain ⟨P, G, a, b, c, d, f⟩ := mk_wit (by omega) h2 h3 h4 h5 h
    exact ⟨P, q, G, a, by omega, b, c, d, f⟩
  have hc : r = 101 ∨ r = 1009 ∨ r = 1019 ∨ r = 65537 ∨ r = 999983 := by simp at hr; omega
  rcases hc with e | e | e | e | e
  · exact key 101 6 e (by omega) (primeN_of (d := 11) (by omega) (by omega) (by decide +kernel)) (by omega) (by omega) (primeN_of (d := 26) (by omega) (by omega) (by decide +kernel))
  · exact key 1009 10 e (by omega) (primeN_of (d := 33) (by omega) (by omega) (by decide +kernel)) (by omega) (by omega) (primeN_of (d := 102) (by omega) (by omega) (by decide +kernel))
  · exact key 1019 2 e (by omega) (primeN_of (d := 33) (by omega) (by omega) (by decide +kernel)) (by omega) (by omega) (primeN_of (d := 47) (by omega) (by omega) (by decide +kernel))
  · exact key 65537 14 e (by omega) (primeN_of (d := 300) (by omega) (by omega) (by decide +kernel)) (by omega) (by omega) (primeN_of (d := 960) (by omega) (by omega) (by decide +kernel))
  · exact key 999983 12 e (by omega) (primeN_of (d := 1001) (by omega) (by omega) (by decide +kernel)) (by omega) (by omega) (primeN_of (d := 3466) (by omega) (by omega) (by decide +kernel))
set_option maxRecDepth 100000 in
set_option maxHeartbeats 4000000 in
theorem group_any {B : Nat} (g k : Nat) (w : World) (h : CurS B w g k) (hk : k ≤ 90000) (hB : B ≤ w.heap.size) :
    Calls Try.prog 196 #[.pointer (some ⟨g, 0, none⟩)] w fun e w' => ∃ P Q G : Int, e = .returned (.agg #[.int .i64 P, .int .i64 Q, .int .i64 G]) ∧ 3 ≤ Q ∧ Q < P ∧ P ≤ 1000000007 ∧ 0 ≤ G ∧ G < P ∧ Only [g] w w' ∧ CurS B w' g (k + 10) := by
  have hg := h.lt
  have hE0 := (Ext.refl w).alloc (.cells #[.int .i64 0, .int .i64 0, .int .i64 0] 38)
  have B2 := Blk.new w 38 #[.int .i64 0, .int .i64 0, .int .i64 0]
  have h0 := h.ext hE0
  go_enter Try.func196, Try.ntmps196
  go_wp2_with fail
  refine (pick_any g k 6 _ h0 (by omega) (by omega)).mono ?_
  rintro e w1 ⟨x, rfl, hx, hO1, hC1⟩
  have hO := (hE0.toOnly [g]).thenOnly hO1
  have B22 := B2.only hO1 (by simp <;> omega)
  have hsz : w.heap.size + 1 ≤ w1.heap.size := B22.lt
  clear h h0 hE0 B2 hO1
  have hc : x = 0 ∨ x = 1 ∨ 2 ≤ x := by omega
  rcases hc with rfl | rfl | hx2
  · have C22 := B22.cells
    have F22 := B22.frozen
    go_wp2
    refine ret_three (a := 1000000007) (b := 500000003) (c := 4) (((B22.set_ 0 (.int .i64 1000000007)).set_ 1 (.int .i64 500000003)).set_ 2 (.int .i64 4)) rfl rfl ?_
    have L9 := below_three (g := w.heap.size) w1 (.int .i64 1000000007) (.int .i64 500000003) (.int .i64 4)
    exact ⟨1000000007, 500000003, 4, rfl, by omega, by omega, by omega, by omega, by omega, hO.thenBelow L9 (Nat.le_refl _), (hC1.below (L9.mono hB)).more (by omega)⟩
  · go_wp2_with fail
    refine (among_new g _ 5 [101, 1009, 1019, 65537, 999983] _ w1 hC1 (by omega) rfl rfl (by omega) (by omega) (by omega)).mono ?_
    rintro e w3 ⟨r, rfl, hr, hO3, hC3⟩
    go_wp2_with fail
    refine (sMakeGroup_any r _).mono ?_
    rintro e w4 ⟨v, ok, rfl, ho, hb⟩
    obtain ⟨P, Q, G, rfl, hQ, hQP, hP, hG0, hG⟩ := grp_wit hr ho
    have B23 := ((B22.only hO3 (by simp <;> omega)).ext hb).alloc (.cells #[.int .i64 P, .int .i64 Q, .int .i64 G] 38)
    have hE3 := (Ext.refl w4).alloc (.cells #[.int .i64 P, .int .i64 Q, .int .i64 G] 38)
    have hC4 := (hC3.ext hb).ext hE3
    have C22 := B23.cells
    have F22 := B23.frozen
    have CN := (Blk.new w4 38 #[.int .i64 P, .int .i64 Q, .int .i64 G]).cells
    clear ho hr
    go_wp2
    refine ret_three (a := P) (b := Q) (c := G) (((B23.set_ 0 (.int .i64 P)).set_ 1 (.int .i64 Q)).set_ 2 (.int .i64 G)) rfl rfl ?_
    have L9 := below_three (g := w.heap.size) (w4.alloc (.cells #[.int .i64 P, .int .i64 Q, .int .i64 G] 38)) (.int .i64 P) (.int .i64 Q) (.int .i64 G)
    exact ⟨P, Q, G, rfl, hQ, hQP, by omega, hG0, hG, (((hO.thenOnly hO3).thenOnly (hb.toOnly [g])).thenOnly (hE3.toOnly [g])).thenBelow L9 (Nat.le_refl _), (hC4.below (L9.mono hB)).more (by omega)⟩
  · have e0 : ((x : Int) == 0) = false := by simp; omega
    have e1 : ((x : Int) == 1) = false := by simp; omega
    go_wp2_with fail
    refine (tiny_any g _ _ hC1 (by omega) (by omega)).mono ?_
    rintro e w3 ⟨P, Q, G, rfl, hQ, hQP, hP, hG0, hG, hO3, hC3⟩
    have B23 := (B22.only hO3 (by simp <;> omega)).alloc (.cells #[.int .i64 P, .int .i64 Q, .int .i64 G] 38)
    have hE3 := (Ext.refl w3).alloc (.cells #[.int .i64 P, .int .i64 Q, .int .i64 G] 38)
    have BN := Blk.new w3 38 #[.int .i64 P, .int .i64 Q, .int .i64 G]
    have hC4 := hC3.ext hE3
    have hsz3 : w.heap.size < w3.heap.size := (B22.only hO3 (by simp <;> omega)).lt
    replace hO := (hO.thenOnly hO3).thenOnly (hE3.toOnly [g])
    clear hE3 hC3 hO3 hC1 B22
    go_upto_region 8 with (fail)
    generalize hg5 : w3.heap.size = g5 at *
    generalize hW5 : w3.alloc (.cells #[.int .i64 P, .int .i64 Q, .int .i64 G] 38) = w5 at *
    clear hW5 hg5
    have CN := BN.drew.cells
    have FN := BN.drew.frozen
    have hgb : GrpB P Q := ⟨by omega, by omega, by omega, by omega⟩
    have hs1 : IntKind.i64.wrap (Q - 1) = Q - 1 := by rw [IntKind.wrap_i64]; omega
    go_cut [5] from 23 to 33 (fun s wx => s = .pointer (some ⟨g5, 0, none⟩) ∧ ∃ G' : Int, 0 ≤ G' ∧ G' < P ∧ Blk wx g5 38 #[.int .i64 P, .int .i64 Q, .int .i64 G'] ∧ Blk wx w.heap.size 38 #[.int .i64 0, .int .i64 0, .int .i64 0] ∧ Only [g] w wx ∧ CurS B wx g (k + 8))
    case first =>
      have hgp := gpw_bd P Q G
      go_region_with (first
          | (refine (pick_any g _ (Q - 1) _ (hC4.ext ((Ext.refl _).drew)) (by omega) (by omega)).mono ?_; rintro e w6 ⟨r, rfl, hr, hO6, hC6⟩; have hr2 : (r : Int) ≤ 12000000 := (by omega); have B6 := BN.drew.only hO6 (by simp <;> omega); have C6 := B6.cells; have F6 := B6.frozen; have hs3 : IntKind.i64.wrap (1 + (r : Int)) = 1 + (r : Int) := by rw [IntKind.wrap_i64]; omega)
          | (refine (gExp_any P Q G G (1 + (r : Int)) _ hgb hG0 (by omega) (by omega) (by omega)).mono ?_; rintro e w7 ⟨rfl, hb7⟩; have B7 := B6.ext hb7; have C7 := B7.cells; have F7 := B7.frozen))
      all_goals
        have L7 : Below (w.heap.size + 1) w7 (w7.setCell ⟨g5, 2, none⟩ (.int .i64 (gpw P Q G (1 + (r : Int))))) := (Below.refl _ _).setCell (by simp; omega) _
        go_wp2
        go_meet
        exact ⟨rfl, gpw P Q G (1 + (r : Int)), (hgp _ (by omega)).1, (hgp _ (by omega)).2, B7.set_ 2 _, (((B23.drew.only hO6 (by simp <;> omega)).ext hb7).below L7 (by omega)), ((((hO.drewN 1)).thenOnly hO6).thenOnly (hb7.toOnly [g])).thenBelow L7 (by omega), ((hC6.ext hb7).below (L7.mono (by omega))).more (by omega)⟩
    case rest =>
      clear hC4 hO B23 BN CN FN
      obtain ⟨rfl, G', hG1, hG2, BN, B23, hO, hC⟩ := hcut
      have CN := BN.cells
      have C22 := B23.cells
      have F22 := B23.frozen
      go_wp2
      refine ret_three (a := P) (b := Q) (c := G') (((B23.set_ 0 (.int .i64 P)).set_ 1 (.int .i64 Q)).set_ 2 (.int .i64 G')) rfl rfl ?_
      have L9 := below_three (g := w.heap.size) wc (.int .i64 P) (.int .i64 Q) (.int .i64 G')
      exact ⟨P, Q, G', rfl, hQ, hQP, by omega, hG1, hG2, hO.thenBelow L9 (Nat.le_refl _), (hC.below (L9.mono hB)).more (by omega)⟩
end Go.Proofs.Ytpfccboighdcbaa

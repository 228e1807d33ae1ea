/- Drawn votes, spoilt or not; drawn contests with votes, with codes. -/
import Derived.Test.YtnekpofaflpmdaaGreatDoorProg
import Derived.Test.YtnekpofaflpmdaaGreatDoorCurVo
import Derived.Test.YtnekpofaflpmdaaGreatDoorHeldL
import Derived.Test.YtnekpofaflpmdaaGreatDoorOpen
namespace Go.Proofs.YtnekpofaflpmdaaGreatDoor
open Go.RowKit

/-- What a drawn list is. -/
def DrawnL (B : Nat) (w : World) (g k : Nat) (e : Ending) (w' : World) : Prop :=
  ∃ (A : Option Addr) (n q : Nat) (v : List Int), e = .returned (.slice A n q) ∧ RdI w' A v ∧ v.length = n ∧ n ≤ 20 ∧ n ≤ q ∧ q ≤ maxLen ∧ (∀ x, A = some x → w.heap.size ≤ x.block) ∧ Only [g] w w' ∧ CurS B w' g (k + 210)
set_option maxRecDepth 100000 in
set_option maxHeartbeats 4000000 in
theorem anyVote_any {B : Nat} (g k : Nat) (a b c d f : Int) (w : World) (h : CurS B w g k) (hk : k ≤ 80000) (hB : B ≤ w.heap.size) :
    Calls Tryz.prog 35 #[.pointer (some ⟨g, 0, none⟩), .agg #[.int .i64 a, .int .i64 b, .int .i64 c, .int .i64 d, .int .i64 f]] w fun e w' => DrawnL B w g k e w' := by
  have hg := h.lt
  have hE0 := (Ext.refl w).alloc (.cells #[.int .i64 a, .int .i64 b, .int .i64 c, .int .i64 d, .int .i64 f] 25)
  have B2 := Blk.new w 25 #[.int .i64 a, .int .i64 b, .int .i64 c, .int .i64 d, .int .i64 f]
  cases hv : validCt a b c d f
  · have HV := Lib.hid hv
    clear hv
    go_enter Tryz.func35, Tryz.ntmps35
    go_wp2_with fail
    refine (vContest_any _ _ _ _ _ _).mono ?_
    rintro e w1 ⟨he, hb⟩
    rw [HV.out] at he; subst he
    have E1 := hE0.trans hb
    have hI : OwnI (w1.alloc (.cells #[.int .i64 0] 3)) w1.heap.size 3 (some ⟨w1.heap.size, 0, none⟩) 1 1 [0] := ownI_lit [0] rfl rfl (Nat.le_refl _) (by unfold maxLen; omega)
    have E2 := E1.alloc (.cells #[.int .i64 0] 3)
    have hC := (h.ext E2).more (k' := k + 210) (by omega)
    clear hb hE0
    go_wp2
    go_ret
    exact ⟨_, _, _, [0], rfl, hI.rd, rfl, by omega, by omega, by unfold maxLen; omega, fun x hx => by obtain rfl := (Option.some.inj hx).symm; exact E1.size, E2.toOnly [g], hC⟩
  · have HV := Lib.hid hv
    clear hv
    go_enter Tryz.func35, Tryz.ntmps35
    go_wp2_with fail
    refine (vContest_any _ _ _ _ _ _).mono ?_
    rintro e w1 ⟨he, hb⟩
    rw [HV.out] at he; subst he
    have E1 := hE0.trans hb
    have B3 := B2.ext hb
    have C3 := B3.cells
    have hC1 := h.ext E1
    have hsz1 := E1.size
    have hz1 := E1.toOnly [g]
    clear hb hE0 B2 h E1
    go_wp2_with fail
    refine (vote_any g k a b c d f _ hC1 (by omega) (by omega) HV.out).mono ?_
    rintro e w2 ⟨A, n, q, v, rfl, hO, hVP, hO2, hC2⟩
    have hn8 : n ≤ 8 := by rw [← hO.len]; exact hVP.2.2.2.2
    have hz2 := hz1.thenOnly hO2
    have hsz2 := Nat.le_trans hsz1 hO2.size
    clear hz1 C3 B3 hC1 hsz1 hO2 hVP
    go_wp2_with fail
    refine (l1Own_any _ _ _ v _ hO.rd hO.len (by omega)).mono ?_
    rintro e w3 ⟨A3, q3, rfl, hO3, hb3⟩
    have hz3 := hz2.thenOnly (hb3.toOnly [g])
    have hszA : w2.heap.size ≤ w3.heap.size := hb3.size
    have hC3 := hC2.ext hb3
    clear hz2 hb3 hC2 hO
    go_wp2_with fail
    refine (pick_any g _ 14 _ hC3 (by omega) (by omega)).mono ?_
    rintro e w4 ⟨r, rfl, hr, hO4, hC4⟩
    replace hO3 := hO3.only hO4 (apart_of hO3.high (by omega))
    have hz4 := hz3.thenOnly hO4
    have hszB := Nat.le_trans hszA hO4.size
    have hlen := hO3.len
    have hcp := hO3.cap
    clear hz3 hO4 hC3 hszA
    have hr' : r = 0 ∨ r = 1 ∨ r = 2 ∨ 3 ≤ r := by omega
    rcases hr' with rfl | rfl | rfl | hr3
    · go_wp2_with fail
      refine (pick_any g _ 9 _ hC4 (by omega) (by omega)).mono ?_
      rintro e w5 ⟨r2, rfl, hr2, hO5, hC5⟩
      replace hO3 := hO3.only hO5 (apart_of hO3.high (by omega))
      have hszC := Nat.le_trans hszB hO5.size
      go_wp2_with (at_builtin; refine wpList_app1 intSl rfl _ _ rfl hO3 rfl rfl (by omega) hszC ?_; intro A6 d6 w6 hO6 hb6)
      go_ret
      exact ⟨A6, n + 1, d6, _, rfl, hO6.rd, hO6.len, by omega, hO6.cap.1, hO6.cap.2, fun x hx => Nat.le_trans hsz2 (hO6.lt x hx).1, (hz4.thenOnly hO5).thenBelow hb6 (by omega), (hC5.below (hb6.mono (by omega))).more (by omega)⟩
    · by_cases hn0 : n = 0
      · subst hn0
        go_wp2
        go_ret
        exact ⟨_, _, _, _, rfl, hO3.rd, hlen, by omega, hcp.1, hcp.2, fun x hx => Nat.le_trans hsz2 (hO3.lt x hx).1, hz4, hC4.more (by omega)⟩
      · go_wp2_with fail
        refine (pick_any g _ (n : Int) _ hC4 (by omega) (by omega)).mono ?_
        rintro e w5 ⟨r2, rfl, hr2, hO5, hC5⟩
        replace hO3 := hO3.only hO5 (apart_of hO3.high (by omega))
        have hszC := Nat.le_trans hszB hO5.size
        replace hz4 := hz4.thenOnly hO5
        clear hO5 hC4
        go_wp2_with fail
        refine (among_new g _ 8 [-1, 0, 1, 5, 6, 8, 26, 27] _ w5 hC5 (by omega) rfl rfl (by omega) (by omega) (by omega)).mono ?_
        rintro e w6 ⟨r3, rfl, _, hO6, hC6⟩
        replace hO3 := hO3.only hO6 (apart_of hO3.high (by omega))
        replace hz4 := hz4.thenOnly hO6
        have hszD := Nat.le_trans hszC hO6.size
        obtain ⟨ga, rfl, hga, -, -⟩ := hO3.addr (by omega)
        have hr2l : r2 < v.length := by omega
        obtain ⟨c1, c2⟩ := hO3.at0 r2 hr2l
        have hO7 := hO3.set (j := r2) r3
        have L9 : Below w2.heap.size w6 (w6.setCell ⟨ga, r2, none⟩ (.int .i64 r3)) := (Below.refl _ _).setCell (by simp; omega) _
        have hr2n : (r2 : Int) < n := by omega
        clear hO6 hC5
        go_wp2
        go_ret
        exact ⟨_, _, _, _, rfl, hO7.rd, hO7.len, by omega, hcp.1, hcp.2, fun x hx => Nat.le_trans hsz2 (hO7.lt x hx).1, hz4.thenBelow L9 (by omega), (hC6.below (L9.mono (by omega))).more (by omega)⟩
    · by_cases hn0 : n = 0
      · subst hn0
        go_wp2
        go_ret
        exact ⟨_, _, _, _, rfl, hO3.rd, hlen, by omega, hcp.1, hcp.2, fun x hx => Nat.le_trans hsz2 (hO3.lt x hx).1, hz4, hC4.more (by omega)⟩
      · have h9 := RdI.drop (cap := q3) hO3.rd 1 (by omega)
        obtain ⟨ga, rfl, hga, -, -⟩ := hO3.addr (by omega)
        by_cases hq1 : q3 = 1
        · subst hq1
          rw [if_pos rfl] at h9
          go_wp2
          go_ret
          exact ⟨_, 0, 0, v.drop 1, rfl, h9, by rw [List.length_drop]; omega, by omega, by omega, by omega, fun x hx => by obtain rfl := (Option.some.inj hx).symm; exact Nat.le_trans hsz2 hga, hz4, hC4.more (by omega)⟩
        · rw [if_neg hq1] at h9
          go_wp2
          go_ret
          exact ⟨_, n - 1, q3 - 1, v.drop 1, rfl, h9, by rw [List.length_drop]; omega, by omega, by omega, by omega, fun x hx => by obtain rfl := (Option.some.inj hx).symm; exact Nat.le_trans hsz2 hga, hz4, hC4.more (by omega)⟩
    · have e0 : ((r : Int) == 0) = false := by simp; omega
      have e1 : ((r : Int) == 1) = false := by simp; omega
      have e2 : ((r : Int) == 2) = false := by simp; omega
      go_wp2
      go_ret
      exact ⟨_, _, _, _, rfl, hO3.rd, hlen, by omega, hcp.1, hcp.2, fun x hx => Nat.le_trans hsz2 (hO3.lt x hx).1, hz4, hC4.more (by omega)⟩
theorem farS {w : World} {g : Nat} {t : TypeId} {cs : Array Value} {p : Addr} {u : Value} (hp : g ≠ p.block) (h : Blk w g t cs) : Blk (w.setCell p u) g t cs := h.far hp u
/-- At the return: a contest that lies in a cell, a slice. -/
theorem ret_cs {fn : Func} {w : World} {g : Nat} {t u : Tmp} {a b c d f : Int} {x : Value} {tm : Array Value} {Q : Ending → World → Prop} {ty : TypeId} (hz : ty = 25)
    (B : Blk w g 25 #[.int .i64 a, .int .i64 b, .int .i64 c, .int .i64 d, .int .i64 f])
    (h : fn.results = #[.cell t ty, .tmp u]) (ht : tm.getD t undef = .pointer (some ⟨g, 0, none⟩)) (hu : tm.getD u undef = x) (hQ : Q (.returned (.tuple #[.agg #[.int .i64 a, .int .i64 b, .int .i64 c, .int .i64 d, .int .i64 f], x])) w) :
    bodyPost Tryz.prog fn Q .ret { tmps := tm, defers := [] } w := by
  subst hz
  have C := B.cells
  refine bodyPost_ret (v := .tuple #[.agg #[.int .i64 a, .int .i64 b, .int .i64 c, .int .i64 d, .int .i64 f], x]) ?_ rfl hQ
  have ht' : (tm[t]?).getD undef = .pointer (some ⟨g, 0, none⟩) := by simpa using ht
  have hu' : (tm[u]?).getD undef = x := by simpa using hu
  simp [results, h, ht', hu', go_sem, C]
/-- A drawn contest with a drawn list. -/
def DrawnCL (w : World) (e : Ending) (w' : World) : Prop :=
  ∃ (a b c d f : Int) (A : Option Addr) (n q : Nat) (v : List Int), e = .returned (.tuple #[.agg #[.int .i64 a, .int .i64 b, .int .i64 c, .int .i64 d, .int .i64 f], .slice A n q]) ∧ RdI w' A v ∧ v.length = n ∧ n ≤ 20 ∧ n ≤ q ∧ q ≤ maxLen ∧ (∀ x, A = some x → w.heap.size ≤ x.block) ∧ Ext w w'
set_option maxRecDepth 100000 in
set_option maxHeartbeats 4000000 in
theorem DrawIsValidVote_any (A : Option Addr) (n c : Nat) (l : List Int) (w : World) (hR : RdB w A l) (hl : l.length = n) (hn : n ≤ 9223372036854775807) (hx : ∀ x ∈ l, 0 ≤ x ∧ x ≤ 255) :
    Calls Tryz.prog 17 #[.slice A n c] w fun e w' => DrawnCL w e w' := by
  have hE0 := (Ext.refl w).alloc (.cells #[.int .i64 0, .int .i64 0, .int .i64 0, .int .i64 0, .int .i64 0] 25)
  have B2 := Blk.new w 25 #[.int .i64 0, .int .i64 0, .int .i64 0, .int .i64 0, .int .i64 0]
  have hC := new_cur (c := c) (hR.ext hE0) hl hn hx
  simp only [World.size_alloc] at hC
  clear hl hx hR
  replace B2 := B2.alloc (.cells #[.slice A n c, .int .i64 0, .int .u64 0] 58)
  have hE1 := hE0.alloc (.cells #[.slice A n c, .int .i64 0, .int .u64 0] 58)
  go_enter Tryz.func17, Tryz.ntmps17
  go_wp2_with fail
  refine (anyContest_any (w.heap.size + 1) 0 _ hC (by omega) (by simp)).mono ?_
  rintro e w1 ⟨a, b, c2, d, f, rfl, hO1, hC1⟩
  have hsz1 : w.heap.size + 2 ≤ w1.heap.size := by have := hO1.size; simp at this; omega
  have E := hE1.only hO1 (fun b hb => by simp at hb; omega)
  have B6 := Blk.new w1 25 #[.int .i64 a, .int .i64 b, .int .i64 c2, .int .i64 d, .int .i64 f]
  have E6 := (Ext.refl w1).alloc (.cells #[.int .i64 a, .int .i64 b, .int .i64 c2, .int .i64 d, .int .i64 f] 25)
  replace B2 := (B2.only hO1 (by simp)).ext E6
  replace E := E.trans E6
  have hC5 := hC1.ext E6
  clear hE0 hE1 hC hO1 hC1 E6
  go_upto_region 3 with (fail)
  have hs5 : w1.heap.size < (w1.alloc (.cells #[.int .i64 a, .int .i64 b, .int .i64 c2, .int .i64 d, .int .i64 f] 25)).heap.size := by simp
  generalize hg6 : w1.heap.size = g6 at *
  generalize hW6 : w1.alloc (.cells #[.int .i64 a, .int .i64 b, .int .i64 c2, .int .i64 d, .int .i64 f] 25) = w2 at *
  clear hW6 hg6 w1
  have hS : ∀ V, Blk V g6 25 #[.int .i64 a, .int .i64 b, .int .i64 c2, .int .i64 d, .int .i64 f] → V.cell? ⟨g6, 0, none⟩ = some (.int .i64 a) ∧ V.cell? ⟨g6, 1, none⟩ = some (.int .i64 b) ∧ V.cell? ⟨g6, 2, none⟩ = some (.int .i64 c2) ∧ V.cell? ⟨g6, 3, none⟩ = some (.int .i64 d) ∧ V.cell? ⟨g6, 4, none⟩ = some (.int .i64 f) := fun V h => ⟨h.cells 0, h.cells 1, h.cells 2, h.cells 3, h.cells 4⟩
  go_region_held3 (fun V => V.cell? ⟨g6, 0, none⟩ = some (.int .i64 a) ∧ V.cell? ⟨g6, 1, none⟩ = some (.int .i64 b) ∧ V.cell? ⟨g6, 2, none⟩ = some (.int .i64 c2) ∧ V.cell? ⟨g6, 3, none⟩ = some (.int .i64 d) ∧ V.cell? ⟨g6, 4, none⟩ = some (.int .i64 f)) (exact hS _ (by repeat (first | with_reducible assumption | with_reducible refine Blk.drew ?_ | with_reducible refine Blk.drewN ?_ _ | with_reducible refine Blk.alloc ?_ _ | with_reducible refine farS ?_ ?_ | (show _ ≠ _; first | omega | (simp; done) | (simp; omega)))))
    ((go_at_call 35; refine (anyVote_any (w.heap.size + 1) _ a b c2 d f _ (hC5.ext ((Ext.refl _).drew)) (by omega) (by simp; omega)).mono ?_; rintro e w3 ⟨A3, n3, q3, v3, rfl, hR3, hl3, hn3, hq3, hm3, hlo3, hO3, hC3⟩; have B7 := B6.drew.only hO3 (by simp <;> omega); have B8 := B2.drew.only hO3 (by simp <;> omega); have C8 := B8.cells; have F8 := B8.frozen))
  go_wp2
  refine ret_cs (a := a) (b := b) (c := c2) (d := d) (f := f) rfl (((((B8.set_ 0 (.int .i64 a)).set_ 1 (.int .i64 b)).set_ 2 (.int .i64 c2)).set_ 3 (.int .i64 d)).set_ 4 (.int .i64 f)) rfl rfl rfl ?_
  have hon := ((((((Only.refl [w.heap.size] w3).setCell (p := ⟨w.heap.size, 0, none⟩) (by simp) (.int .i64 a)).setCell (p := ⟨w.heap.size, 1, none⟩) (by simp) (.int .i64 b)).setCell (p := ⟨w.heap.size, 2, none⟩) (by simp) (.int .i64 c2)).setCell (p := ⟨w.heap.size, 3, none⟩) (by simp) (.int .i64 d)).setCell (p := ⟨w.heap.size, 4, none⟩) (by simp) (.int .i64 f))
  refine ⟨a, b, c2, d, f, A3, n3, q3, v3, rfl, Rd.only hR3 hon (fun x hx _ => ?_), hl3, hn3, hq3, hm3, fun x hx => ?_, Ext.only ((E.drew).only hO3 (fun b hb => by simp at hb; omega)) hon (fun b hb => by simp at hb; omega)⟩
  · have := hlo3 x hx
    simp at this ⊢
    omega
  · have := hlo3 x hx
    simp at this
    omega
set_option maxHeartbeats 1000000 in
theorem DrawCodeOf_any (A : Option Addr) (n c : Nat) (l : List Int) (w : World) (hR : RdB w A l) (hl : l.length = n) (hn : n ≤ 9223372036854775807) (hx : ∀ x ∈ l, 0 ≤ x ∧ x ≤ 255) :
    Calls Tryz.prog 5 #[.slice A n c] w fun e w' => DrawnCL w e w' := by
  have hE0 := (Ext.refl w).alloc (.cells #[.int .i64 0, .int .i64 0, .int .i64 0, .int .i64 0, .int .i64 0] 25)
  have B2 := Blk.new w 25 #[.int .i64 0, .int .i64 0, .int .i64 0, .int .i64 0, .int .i64 0]
  have HL := Lib.hid hl
  have HX := Lib.hid hx
  clear hl hx
  go_enter Tryz.func5, Tryz.ntmps5
  go_wp2_with fail
  refine (DrawIsValidVote_any A n c l _ (hR.ext hE0) HL.out hn HX.out).mono ?_
  rintro e w3 ⟨a, b, c2, d, f, A3, n3, q3, v3, rfl, hR3, hl3, hn3, hq3, hm3, hlo3, hb⟩
  have B8 := B2.ext hb
  have C8 := B8.cells
  have F8 := B8.frozen
  have E := hE0.trans hb
  go_wp2
  refine ret_cs (a := a) (b := b) (c := c2) (d := d) (f := f) rfl (((((B8.set_ 0 (.int .i64 a)).set_ 1 (.int .i64 b)).set_ 2 (.int .i64 c2)).set_ 3 (.int .i64 d)).set_ 4 (.int .i64 f)) rfl rfl rfl ?_
  have hon := ((((((Only.refl [w.heap.size] w3).setCell (p := ⟨w.heap.size, 0, none⟩) (by simp) (.int .i64 a)).setCell (p := ⟨w.heap.size, 1, none⟩) (by simp) (.int .i64 b)).setCell (p := ⟨w.heap.size, 2, none⟩) (by simp) (.int .i64 c2)).setCell (p := ⟨w.heap.size, 3, none⟩) (by simp) (.int .i64 d)).setCell (p := ⟨w.heap.size, 4, none⟩) (by simp) (.int .i64 f))
  refine ⟨a, b, c2, d, f, A3, n3, q3, v3, rfl, Rd.only hR3 hon (fun x hx _ => ?_), hl3, hn3, hq3, hm3, fun x hx => ?_, Ext.only E hon (fun b hb => by simp at hb; omega)⟩
  · have := hlo3 x hx
    simp at this ⊢
    omega
  · have := hlo3 x hx
    simp at this
    omega
theorem code_bd {a b c d f : Int} {v : List Int} (hc : validCt a b c d f = true) (hq : VoteParts a b f v) : 0 ≤ codeV a b f v ∧ codeV a b f v ≤ 282429536481 := by
  obtain ⟨h1, hb0, hb8, hf0, hf5, _⟩ := valid_kind hc
  obtain ⟨q1, q2, q3, q4, q5⟩ := hq
  unfold codeV
  rcases h1 with rfl | rfl | rfl | rfl
  · rw [if_pos rfl]
    exact numR_le (l := marksL b.toNat v) (by decide) (by decide) (by have := marksAt_length b.toNat v v.length; rw [marksAt_all] at this; omega) (fun x hx => by have := marksL_rng _ v x hx; omega) 0
  · rw [if_neg (by decide), if_pos rfl]
    exact numR_le (l := v) (by omega) (by omega) q5 (fun x hx => by have := allR_iff.1 (q2 rfl).2 x hx; omega) 0
  · rw [if_neg (by decide), if_neg (by decide), if_pos rfl]
    exact numR_le (l := v) (by omega) (by omega) q5 (fun x hx => by have := allR_iff.1 (q3 rfl).1 x hx; omega) 0
  · rw [if_neg (by decide), if_neg (by decide), if_neg (by decide)]
    exact numR_le (l := v) (by omega) (by omega) q5 (fun x hx => by have := allR_iff.1 (q4 rfl).1 x hx; omega) 0
theorem among_newz {B : Nat} (g k n z : Nat) (L : List Int) (cs : Array Value) (w : World) (h : CurS B w g k) (hk : k ≤ 100000000) (hcs : cs = (ints L).toArray) (hl : L.length = n) (hn : 0 < n) (hn2 : n ≤ 1000) (hB : B ≤ w.heap.size) (hz : w.heap.size = z) :
    Calls Tryz.prog 32 #[.pointer (some ⟨g, 0, none⟩), .slice (some ⟨z, 0, none⟩) n n] (w.alloc (.cells cs 3)) fun e w' => ∃ r : Int, e = .returned (.int .i64 r) ∧ r ∈ L ∧ Only [g] w w' ∧ CurS B w' g (k + 2) := by
  subst hz
  exact among_new g k n L cs w h hk hcs hl hn hn2 hB
/-- A drawn contest with a drawn code. -/
def DrawnCK (w : World) (e : Ending) (w' : World) : Prop :=
  ∃ (a b c d f k : Int), e = .returned (.tuple #[.agg #[.int .i64 a, .int .i64 b, .int .i64 c, .int .i64 d, .int .i64 f], .int .i64 k]) ∧ Fits k ∧ Ext w w'
set_option maxRecDepth 100000 in
set_option maxHeartbeats 4000000 in
theorem DrawDecodeVote_any (A : Option Addr) (n c : Nat) (l : List Int) (w : World) (hR : RdB w A l) (hl : l.length = n) (hn : n ≤ 9223372036854775807) (hx : ∀ x ∈ l, 0 ≤ x ∧ x ≤ 255) :
    Calls Tryz.prog 15 #[.slice A n c] w fun e w' => DrawnCK w e w' := by
  have hE0 := (Ext.refl w).alloc (.cells #[.int .i64 0, .int .i64 0, .int .i64 0, .int .i64 0, .int .i64 0] 25)
  have B2 := Blk.new w 25 #[.int .i64 0, .int .i64 0, .int .i64 0, .int .i64 0, .int .i64 0]
  have hC := new_cur (c := c) (hR.ext hE0) hl hn hx
  simp only [World.size_alloc] at hC
  clear hl hx hR
  replace B2 := B2.alloc (.cells #[.slice A n c, .int .i64 0, .int .u64 0] 58)
  have hE1 := hE0.alloc (.cells #[.slice A n c, .int .i64 0, .int .u64 0] 58)
  go_enter Tryz.func15, Tryz.ntmps15
  go_wp2_with fail
  refine (anyContest_any (w.heap.size + 1) 0 _ hC (by omega) (by simp)).mono ?_
  rintro e w1 ⟨a, b, c2, d, f, rfl, hO1, hC1⟩
  have hsz1 : w.heap.size + 2 ≤ w1.heap.size := by have := hO1.size; simp at this; omega
  have E := hE1.only hO1 (fun b hb => by simp at hb; omega)
  have B6 := Blk.new w1 25 #[.int .i64 a, .int .i64 b, .int .i64 c2, .int .i64 d, .int .i64 f]
  have E6 := (Ext.refl w1).alloc (.cells #[.int .i64 a, .int .i64 b, .int .i64 c2, .int .i64 d, .int .i64 f] 25)
  replace B2 := (B2.only hO1 (by simp)).ext E6
  replace E := E.trans E6
  have hC5 := hC1.ext E6
  clear hE0 hE1 hC hO1 hC1 E6
  go_upto_region 3 with (fail)
  have hs5 : w1.heap.size < (w1.alloc (.cells #[.int .i64 a, .int .i64 b, .int .i64 c2, .int .i64 d, .int .i64 f] 25)).heap.size := by simp
  generalize hg6 : w1.heap.size = g6 at *
  generalize hW6 : w1.alloc (.cells #[.int .i64 a, .int .i64 b, .int .i64 c2, .int .i64 d, .int .i64 f] 25) = w2 at *
  clear hW6 hg6 w1
  have hS : ∀ V, Blk V g6 25 #[.int .i64 a, .int .i64 b, .int .i64 c2, .int .i64 d, .int .i64 f] → V.cell? ⟨g6, 0, none⟩ = some (.int .i64 a) ∧ V.cell? ⟨g6, 1, none⟩ = some (.int .i64 b) ∧ V.cell? ⟨g6, 2, none⟩ = some (.int .i64 c2) ∧ V.cell? ⟨g6, 3, none⟩ = some (.int .i64 d) ∧ V.cell? ⟨g6, 4, none⟩ = some (.int .i64 f) := fun V h => ⟨h.cells 0, h.cells 1, h.cells 2, h.cells 3, h.cells 4⟩
  cases hv : validCt a b c2 d f
  · have HV := Lib.hid hv
    clear hv
    have C6 := B6.cells
    go_wp2_with fail
    refine (vContest_any _ _ _ _ _ _).mono ?_
    rintro e w3 ⟨he, hb3⟩
    rw [HV.out] at he; subst he
    replace B6 := B6.ext hb3
    replace B2 := B2.ext hb3
    replace hC5 := hC5.ext hb3
    replace E := E.trans hb3
    have hsz3 := hb3.size
    clear C6
    -- R5 hC5
    go_wp2
    refine wp_region_held_drew (S := fun V => V.cell? ⟨g6, 0, none⟩ = some (.int .i64 a) ∧ V.cell? ⟨g6, 1, none⟩ = some (.int .i64 b) ∧ V.cell? ⟨g6, 2, none⟩ = some (.int .i64 c2) ∧ V.cell? ⟨g6, 3, none⟩ = some (.int .i64 d) ∧ V.cell? ⟨g6, 4, none⟩ = some (.int .i64 f)) (by kernel_rfl) ?_ (fun hHeld => ?_)
    · exact hS _ (by repeat (first | with_reducible assumption | with_reducible refine Blk.drew ?_ | with_reducible refine Blk.drewN ?_ _ | with_reducible refine Blk.alloc ?_ _ | with_reducible refine farS ?_ ?_ | (show _ ≠ _; first | omega | (simp; done) | (simp; omega))))
    refine' wpAnyH_take (i := 0) (v := _) ?hi0 (by kernel_rfl) (by kernel_rfl) (by kernel_rfl) ?hQ0 ?hy0 (by assumption) ?_
    case hi0 => (simp only [List.getElem?_toArray, List.getElem?_cons_zero]; rfl)
    case hy0 => refine Or.inl ⟨by rfl, ?_⟩; intro w hSw; (try dsimp only at hSw); go_simp <;> with_reducible rfl
    case hQ0 => exact fun _ _ _ h => h
    try simp only [Act.put, List.setIfInBounds_toArray, List.set_cons_zero, List.set_cons_succ]
    refine' wpAnyH_take (i := 1) (v := _) ?hi1 (by kernel_rfl) (by kernel_rfl) (by kernel_rfl) ?hQ1 ?hy1 (by assumption) ?_
    case hi1 => (simp only [List.getElem?_toArray, List.getElem?_cons_succ, List.getElem?_cons_zero]; rfl)
    case hy1 => refine Or.inl ⟨by rfl, ?_⟩; intro w hSw; (try dsimp only at hSw); go_simp <;> with_reducible rfl
    case hQ1 => exact fun _ _ _ h => h
    try simp only [Act.put, List.setIfInBounds_toArray, List.set_cons_zero, List.set_cons_succ]
    refine' wpAnyH_take (i := 2) (v := _) ?hi2 (by kernel_rfl) (by kernel_rfl) (by kernel_rfl) ?hQ2 ?hy2 (by assumption) ?_
    case hi2 => (simp only [List.getElem?_toArray, List.getElem?_cons_succ, List.getElem?_cons_zero]; rfl)
    case hy2 => refine Or.inl ⟨by rfl, ?_⟩; intro w hSw; (try dsimp only at hSw); go_simp <;> with_reducible rfl
    case hQ2 => exact fun _ _ _ h => h
    try simp only [Act.put, List.setIfInBounds_toArray, List.set_cons_zero, List.set_cons_succ]
    refine' wpAnyH_take (i := 4) (v := _) ?hi4 (by kernel_rfl) (by kernel_rfl) (by kernel_rfl) ?hQ4 ?hy4 (by assumption) ?_
    case hi4 => (simp only [List.getElem?_toArray, List.getElem?_cons_succ, List.getElem?_cons_zero]; rfl)
    case hy4 => refine Or.inl ⟨by rfl, ?_⟩; intro w hSw; (try dsimp only at hSw); go_simp <;> with_reducible rfl
    case hQ4 => exact fun _ _ _ h => h
    try simp only [Act.put, List.setIfInBounds_toArray, List.set_cons_zero, List.set_cons_succ]
    refine wpAnyH_ready (rs := [3]) (by kernel_rfl) (by simp) ?_
    refine AllReadyH.cons rfl (fun KK hKK => ?_) ?_
    · go_simp
      go_at_call 33
      refine (pick_any (w.heap.size + 1) _ 60 _ (hC5.ext ((Ext.refl _).drew)) (by omega) (by omega)).mono ?_
      rintro e w5 ⟨r5, rfl, hr5, hO5, hC7⟩
      have B7 := B6.drew.only hO5 (by simp <;> omega)
      have B9 := B2.drew.only hO5 (by simp <;> omega)
      have hsz5 := hO5.size
      refine hKK.out _ _ ?_ (fun hHeld => ?_)
      · exact hS _ (by repeat (first | with_reducible assumption | with_reducible refine Blk.drew ?_ | with_reducible refine Blk.drewN ?_ _ | with_reducible refine Blk.alloc ?_ _ | with_reducible refine farS ?_ ?_ | (show _ ≠ _; first | omega | (simp; done) | (simp; omega))))
      clear hKK KK
      try simp only [Act.put, List.setIfInBounds_toArray, List.set_cons_zero, List.set_cons_succ]
      refine wpAnyH_ready (rs := [5]) (by kernel_rfl) (by simp) ?_
      refine AllReadyH.cons rfl (fun KK hKK => ?_) ?_
      · go_simp
        go_at_call 33
        refine (pick_any (w.heap.size + 1) _ 5000 _ hC7 (by omega) (by omega)).mono ?_
        rintro e w6 ⟨r6, rfl, hr6, hO6, hC8⟩
        have B10 := B7.only hO6 (by simp <;> omega)
        have B11 := B9.only hO6 (by simp <;> omega)
        have hsz6 := hO6.size
        refine hKK.out _ _ ?_ (fun hHeld => ?_)
        · exact hS _ (by repeat (first | with_reducible assumption | with_reducible refine Blk.drew ?_ | with_reducible refine Blk.drewN ?_ _ | with_reducible refine Blk.alloc ?_ _ | with_reducible refine farS ?_ ?_ | (show _ ≠ _; first | omega | (simp; done) | (simp; omega))))
        clear hKK KK
        try simp only [Act.put, List.setIfInBounds_toArray, List.set_cons_zero, List.set_cons_succ]
        refine wpAnyH_ready (rs := [6]) (by kernel_rfl) (by simp) ?_
        refine AllReadyH.cons rfl (fun KK hKK => ?_) ?_
        · go_simp
          refine hKK.out _ _ ?_ (fun hHeld => ?_)
          · exact hS _ (by repeat (first | with_reducible assumption | with_reducible refine Blk.drew ?_ | with_reducible refine Blk.drewN ?_ _ | with_reducible refine Blk.alloc ?_ _ | with_reducible refine farS ?_ ?_ | (show _ ≠ _; first | omega | (simp; done) | (simp; omega))))
          clear hKK KK
          try simp only [Act.put, List.setIfInBounds_toArray, List.set_cons_zero, List.set_cons_succ]
          refine wpAnyH_ready (rs := [7]) (by kernel_rfl) (by simp) ?_
          refine AllReadyH.cons rfl (fun KK hKK => ?_) ?_
          · go_simp
            go_at_call 32
            refine (among_newz (w.heap.size + 1) _ 5 _ [(r5 : Int), (r6 : Int), -1, 14348906, 43046720] _ w6 hC8 (by omega) rfl rfl (by omega) (by omega) (by simp at hsz5; omega) rfl).mono ?_
            rintro e w7 ⟨r7, rfl, hr7, hO7, hC9⟩
            have B12 := B10.only hO7 (by simp <;> omega)
            have B8 := B11.only hO7 (by simp <;> omega)
            refine hKK.out _ _ ?_ (fun hHeld => ?_)
            · exact hS _ (by repeat (first | with_reducible assumption | with_reducible refine Blk.drew ?_ | with_reducible refine Blk.drewN ?_ _ | with_reducible refine Blk.alloc ?_ _ | with_reducible refine farS ?_ ?_ | (show _ ≠ _; first | omega | (simp; done) | (simp; omega))))
            clear hKK KK
            try simp only [Act.put, List.setIfInBounds_toArray, List.set_cons_zero, List.set_cons_succ]
            refine wpAnyH_ready (rs := [8]) (by kernel_rfl) (by simp) ?_
            refine AllReadyH.cons rfl (fun KK hKK => ?_) ?_
            · have C8 := B8.cells
              have F8 := B8.frozen
              go_simp
              refine hKK.out _ _ ?_ (fun hHeld => ?_)
              · exact hS _ (by repeat (first | with_reducible assumption | with_reducible refine Blk.drew ?_ | with_reducible refine Blk.drewN ?_ _ | with_reducible refine Blk.alloc ?_ _ | with_reducible refine farS ?_ ?_ | (show _ ≠ _; first | omega | (simp; done) | (simp; omega))))
              clear hKK KK
              try simp only [Act.put, List.setIfInBounds_toArray, List.set_cons_zero, List.set_cons_succ]
              refine' wpAnyH_take (i := 9) (v := _) ?hi9 (by kernel_rfl) (by kernel_rfl) (by kernel_rfl) ?hQ9 ?hy9 (by assumption) ?_
              case hi9 => (simp only [List.getElem?_toArray, List.getElem?_cons_succ, List.getElem?_cons_zero]; rfl)
              case hy9 => refine Or.inl ⟨by rfl, ?_⟩; intro w hSw; (try dsimp only at hSw); go_simp <;> with_reducible rfl
              case hQ9 => exact fun _ _ _ h => h
              try simp only [Act.put, List.setIfInBounds_toArray, List.set_cons_zero, List.set_cons_succ]
              refine wpAnyH_done (by kernel_rfl) ?_ _
              go_wp2
              refine ret_cs (a := a) (b := b) (c := c2) (d := d) (f := f) rfl (((((B8.set_ 0 (.int .i64 a)).set_ 1 (.int .i64 b)).set_ 2 (.int .i64 c2)).set_ 3 (.int .i64 d)).set_ 4 (.int .i64 f)) rfl rfl rfl ?_
              have hon := ((((((Only.refl [w.heap.size] w7).setCell (p := ⟨w.heap.size, 0, none⟩) (by simp) (.int .i64 a)).setCell (p := ⟨w.heap.size, 1, none⟩) (by simp) (.int .i64 b)).setCell (p := ⟨w.heap.size, 2, none⟩) (by simp) (.int .i64 c2)).setCell (p := ⟨w.heap.size, 3, none⟩) (by simp) (.int .i64 d)).setCell (p := ⟨w.heap.size, 4, none⟩) (by simp) (.int .i64 f))
              refine ⟨a, b, c2, d, f, _, rfl, ?_, Ext.only (((E.drew).only hO5 (fun b hb => by simp at hb; omega)).only (hO6.thenOnly hO7) (fun b hb => by simp at hb; omega)) hon (fun b hb => by simp at hb; omega)⟩
              simp only [List.mem_cons, List.not_mem_nil, or_false] at hr7
              unfold Fits
              omega
            exact AllReadyH.nil
          exact AllReadyH.nil
        exact AllReadyH.nil
      exact AllReadyH.nil
    exact AllReadyH.nil
    -- R5 end
  · have HV := Lib.hid hv
    clear hv
    have C6 := B6.cells
    go_wp2_with fail
    refine (vContest_any _ _ _ _ _ _).mono ?_
    rintro e w3 ⟨he, hb3⟩
    rw [HV.out] at he; subst he
    replace B6 := B6.ext hb3
    replace B2 := B2.ext hb3
    replace hC5 := hC5.ext hb3
    replace E := E.trans hb3
    have hsz3 := hb3.size
    clear C6
    go_wp2_with fail
    refine (one_any (w.heap.size + 1) _ 2 _ hC5 (by omega) (by omega)).mono ?_
    rintro e w4 ⟨t, rfl, hO4, hC4⟩
    replace B6 := B6.only hO4 (by simp <;> omega)
    replace B2 := B2.only hO4 (by simp <;> omega)
    replace E := E.only hO4 (fun b hb => by simp at hb; omega)
    have hsz4 := hO4.size
    clear hO4 hC5
    cases t
    · -- R5 hC4
      go_wp2
      refine wp_region_held_drew (S := fun V => V.cell? ⟨g6, 0, none⟩ = some (.int .i64 a) ∧ V.cell? ⟨g6, 1, none⟩ = some (.int .i64 b) ∧ V.cell? ⟨g6, 2, none⟩ = some (.int .i64 c2) ∧ V.cell? ⟨g6, 3, none⟩ = some (.int .i64 d) ∧ V.cell? ⟨g6, 4, none⟩ = some (.int .i64 f)) (by kernel_rfl) ?_ (fun hHeld => ?_)
      · exact hS _ (by repeat (first | with_reducible assumption | with_reducible refine Blk.drew ?_ | with_reducible refine Blk.drewN ?_ _ | with_reducible refine Blk.alloc ?_ _ | with_reducible refine farS ?_ ?_ | (show _ ≠ _; first | omega | (simp; done) | (simp; omega))))
      refine' wpAnyH_take (i := 0) (v := _) ?hi0 (by kernel_rfl) (by kernel_rfl) (by kernel_rfl) ?hQ0 ?hy0 (by assumption) ?_
      case hi0 => (simp only [List.getElem?_toArray, List.getElem?_cons_zero]; rfl)
      case hy0 => refine Or.inl ⟨by rfl, ?_⟩; intro w hSw; (try dsimp only at hSw); go_simp <;> with_reducible rfl
      case hQ0 => exact fun _ _ _ h => h
      try simp only [Act.put, List.setIfInBounds_toArray, List.set_cons_zero, List.set_cons_succ]
      refine' wpAnyH_take (i := 1) (v := _) ?hi1 (by kernel_rfl) (by kernel_rfl) (by kernel_rfl) ?hQ1 ?hy1 (by assumption) ?_
      case hi1 => (simp only [List.getElem?_toArray, List.getElem?_cons_succ, List.getElem?_cons_zero]; rfl)
      case hy1 => refine Or.inl ⟨by rfl, ?_⟩; intro w hSw; (try dsimp only at hSw); go_simp <;> with_reducible rfl
      case hQ1 => exact fun _ _ _ h => h
      try simp only [Act.put, List.setIfInBounds_toArray, List.set_cons_zero, List.set_cons_succ]
      refine' wpAnyH_take (i := 2) (v := _) ?hi2 (by kernel_rfl) (by kernel_rfl) (by kernel_rfl) ?hQ2 ?hy2 (by assumption) ?_
      case hi2 => (simp only [List.getElem?_toArray, List.getElem?_cons_succ, List.getElem?_cons_zero]; rfl)
      case hy2 => refine Or.inl ⟨by rfl, ?_⟩; intro w hSw; (try dsimp only at hSw); go_simp <;> with_reducible rfl
      case hQ2 => exact fun _ _ _ h => h
      try simp only [Act.put, List.setIfInBounds_toArray, List.set_cons_zero, List.set_cons_succ]
      refine' wpAnyH_take (i := 4) (v := _) ?hi4 (by kernel_rfl) (by kernel_rfl) (by kernel_rfl) ?hQ4 ?hy4 (by assumption) ?_
      case hi4 => (simp only [List.getElem?_toArray, List.getElem?_cons_succ, List.getElem?_cons_zero]; rfl)
      case hy4 => refine Or.inl ⟨by rfl, ?_⟩; intro w hSw; (try dsimp only at hSw); go_simp <;> with_reducible rfl
      case hQ4 => exact fun _ _ _ h => h
      try simp only [Act.put, List.setIfInBounds_toArray, List.set_cons_zero, List.set_cons_succ]
      refine wpAnyH_ready (rs := [3]) (by kernel_rfl) (by simp) ?_
      refine AllReadyH.cons rfl (fun KK hKK => ?_) ?_
      · go_simp
        go_at_call 33
        refine (pick_any (w.heap.size + 1) _ 60 _ (hC4.ext ((Ext.refl _).drew)) (by omega) (by omega)).mono ?_
        rintro e w5 ⟨r5, rfl, hr5, hO5, hC7⟩
        have B7 := B6.drew.only hO5 (by simp <;> omega)
        have B9 := B2.drew.only hO5 (by simp <;> omega)
        have hsz5 := hO5.size
        refine hKK.out _ _ ?_ (fun hHeld => ?_)
        · exact hS _ (by repeat (first | with_reducible assumption | with_reducible refine Blk.drew ?_ | with_reducible refine Blk.drewN ?_ _ | with_reducible refine Blk.alloc ?_ _ | with_reducible refine farS ?_ ?_ | (show _ ≠ _; first | omega | (simp; done) | (simp; omega))))
        clear hKK KK
        try simp only [Act.put, List.setIfInBounds_toArray, List.set_cons_zero, List.set_cons_succ]
        refine wpAnyH_ready (rs := [5]) (by kernel_rfl) (by simp) ?_
        refine AllReadyH.cons rfl (fun KK hKK => ?_) ?_
        · go_simp
          go_at_call 33
          refine (pick_any (w.heap.size + 1) _ 5000 _ hC7 (by omega) (by omega)).mono ?_
          rintro e w6 ⟨r6, rfl, hr6, hO6, hC8⟩
          have B10 := B7.only hO6 (by simp <;> omega)
          have B11 := B9.only hO6 (by simp <;> omega)
          have hsz6 := hO6.size
          refine hKK.out _ _ ?_ (fun hHeld => ?_)
          · exact hS _ (by repeat (first | with_reducible assumption | with_reducible refine Blk.drew ?_ | with_reducible refine Blk.drewN ?_ _ | with_reducible refine Blk.alloc ?_ _ | with_reducible refine farS ?_ ?_ | (show _ ≠ _; first | omega | (simp; done) | (simp; omega))))
          clear hKK KK
          try simp only [Act.put, List.setIfInBounds_toArray, List.set_cons_zero, List.set_cons_succ]
          refine wpAnyH_ready (rs := [6]) (by kernel_rfl) (by simp) ?_
          refine AllReadyH.cons rfl (fun KK hKK => ?_) ?_
          · go_simp
            refine hKK.out _ _ ?_ (fun hHeld => ?_)
            · exact hS _ (by repeat (first | with_reducible assumption | with_reducible refine Blk.drew ?_ | with_reducible refine Blk.drewN ?_ _ | with_reducible refine Blk.alloc ?_ _ | with_reducible refine farS ?_ ?_ | (show _ ≠ _; first | omega | (simp; done) | (simp; omega))))
            clear hKK KK
            try simp only [Act.put, List.setIfInBounds_toArray, List.set_cons_zero, List.set_cons_succ]
            refine wpAnyH_ready (rs := [7]) (by kernel_rfl) (by simp) ?_
            refine AllReadyH.cons rfl (fun KK hKK => ?_) ?_
            · go_simp
              go_at_call 32
              refine (among_newz (w.heap.size + 1) _ 5 _ [(r5 : Int), (r6 : Int), -1, 14348906, 43046720] _ w6 hC8 (by omega) rfl rfl (by omega) (by omega) (by simp at hsz5; omega) rfl).mono ?_
              rintro e w7 ⟨r7, rfl, hr7, hO7, hC9⟩
              have B12 := B10.only hO7 (by simp <;> omega)
              have B8 := B11.only hO7 (by simp <;> omega)
              refine hKK.out _ _ ?_ (fun hHeld => ?_)
              · exact hS _ (by repeat (first | with_reducible assumption | with_reducible refine Blk.drew ?_ | with_reducible refine Blk.drewN ?_ _ | with_reducible refine Blk.alloc ?_ _ | with_reducible refine farS ?_ ?_ | (show _ ≠ _; first | omega | (simp; done) | (simp; omega))))
              clear hKK KK
              try simp only [Act.put, List.setIfInBounds_toArray, List.set_cons_zero, List.set_cons_succ]
              refine wpAnyH_ready (rs := [8]) (by kernel_rfl) (by simp) ?_
              refine AllReadyH.cons rfl (fun KK hKK => ?_) ?_
              · have C8 := B8.cells
                have F8 := B8.frozen
                go_simp
                refine hKK.out _ _ ?_ (fun hHeld => ?_)
                · exact hS _ (by repeat (first | with_reducible assumption | with_reducible refine Blk.drew ?_ | with_reducible refine Blk.drewN ?_ _ | with_reducible refine Blk.alloc ?_ _ | with_reducible refine farS ?_ ?_ | (show _ ≠ _; first | omega | (simp; done) | (simp; omega))))
                clear hKK KK
                try simp only [Act.put, List.setIfInBounds_toArray, List.set_cons_zero, List.set_cons_succ]
                refine' wpAnyH_take (i := 9) (v := _) ?hi9 (by kernel_rfl) (by kernel_rfl) (by kernel_rfl) ?hQ9 ?hy9 (by assumption) ?_
                case hi9 => (simp only [List.getElem?_toArray, List.getElem?_cons_succ, List.getElem?_cons_zero]; rfl)
                case hy9 => refine Or.inl ⟨by rfl, ?_⟩; intro w hSw; (try dsimp only at hSw); go_simp <;> with_reducible rfl
                case hQ9 => exact fun _ _ _ h => h
                try simp only [Act.put, List.setIfInBounds_toArray, List.set_cons_zero, List.set_cons_succ]
                refine wpAnyH_done (by kernel_rfl) ?_ _
                go_wp2
                refine ret_cs (a := a) (b := b) (c := c2) (d := d) (f := f) rfl (((((B8.set_ 0 (.int .i64 a)).set_ 1 (.int .i64 b)).set_ 2 (.int .i64 c2)).set_ 3 (.int .i64 d)).set_ 4 (.int .i64 f)) rfl rfl rfl ?_
                have hon := ((((((Only.refl [w.heap.size] w7).setCell (p := ⟨w.heap.size, 0, none⟩) (by simp) (.int .i64 a)).setCell (p := ⟨w.heap.size, 1, none⟩) (by simp) (.int .i64 b)).setCell (p := ⟨w.heap.size, 2, none⟩) (by simp) (.int .i64 c2)).setCell (p := ⟨w.heap.size, 3, none⟩) (by simp) (.int .i64 d)).setCell (p := ⟨w.heap.size, 4, none⟩) (by simp) (.int .i64 f))
                refine ⟨a, b, c2, d, f, _, rfl, ?_, Ext.only (((E.drew).only hO5 (fun b hb => by simp at hb; omega)).only (hO6.thenOnly hO7) (fun b hb => by simp at hb; omega)) hon (fun b hb => by simp at hb; omega)⟩
                simp only [List.mem_cons, List.not_mem_nil, or_false] at hr7
                unfold Fits
                omega
              exact AllReadyH.nil
            exact AllReadyH.nil
          exact AllReadyH.nil
        exact AllReadyH.nil
      exact AllReadyH.nil
      -- R5 end
    · go_wp2
      go_region_held3 (fun V => V.cell? ⟨g6, 0, none⟩ = some (.int .i64 a) ∧ V.cell? ⟨g6, 1, none⟩ = some (.int .i64 b) ∧ V.cell? ⟨g6, 2, none⟩ = some (.int .i64 c2) ∧ V.cell? ⟨g6, 3, none⟩ = some (.int .i64 d) ∧ V.cell? ⟨g6, 4, none⟩ = some (.int .i64 f)) (exact hS _ (by repeat (first | with_reducible assumption | with_reducible refine Blk.drew ?_ | with_reducible refine Blk.drewN ?_ _ | with_reducible refine Blk.alloc ?_ _ | with_reducible refine farS ?_ ?_ | (show _ ≠ _; first | omega | (simp; done) | (simp; omega)))))
        (first | (go_at_call 31; refine (vote_any (w.heap.size + 1) _ a b c2 d f _ (hC4.ext ((Ext.refl _).drew)) (by omega) (by simp; omega) HV.out).mono ?_; rintro e w5 ⟨A3, n3, q3, v3, rfl, hO3, hP3, hO5, hC7⟩; have B7 := B6.drew.only hO5 (by simp <;> omega); have B9 := B2.drew.only hO5 (by simp <;> omega)) | (go_at_call 21; refine (vCode_w a b c2 d f A3 n3 q3 v3 _ HV.out hP3 hO3.rd hO3.len (by have := hO3.len; have := hP3.2.2.2.2; omega)).mono ?_; rintro e w6 ⟨rfl, hb6⟩; have B10 := B7.ext hb6; have B8 := B9.ext hb6; have C8 := B8.cells; have F8 := B8.frozen))
      all_goals
        go_wp2
        refine ret_cs (a := a) (b := b) (c := c2) (d := d) (f := f) rfl (((((B8.set_ 0 (.int .i64 a)).set_ 1 (.int .i64 b)).set_ 2 (.int .i64 c2)).set_ 3 (.int .i64 d)).set_ 4 (.int .i64 f)) rfl rfl rfl ?_
        have hon := ((((((Only.refl [w.heap.size] w6).setCell (p := ⟨w.heap.size, 0, none⟩) (by simp) (.int .i64 a)).setCell (p := ⟨w.heap.size, 1, none⟩) (by simp) (.int .i64 b)).setCell (p := ⟨w.heap.size, 2, none⟩) (by simp) (.int .i64 c2)).setCell (p := ⟨w.heap.size, 3, none⟩) (by simp) (.int .i64 d)).setCell (p := ⟨w.heap.size, 4, none⟩) (by simp) (.int .i64 f))
        refine ⟨a, b, c2, d, f, _, rfl, ?_, Ext.only (((E.drew).only hO5 (fun b hb => by simp at hb; omega)).trans hb6) hon (fun b hb => by simp at hb; omega)⟩
        have := code_bd HV.out hP3
        unfold Fits
        omega
end Go.Proofs.YtnekpofaflpmdaaGreatDoor

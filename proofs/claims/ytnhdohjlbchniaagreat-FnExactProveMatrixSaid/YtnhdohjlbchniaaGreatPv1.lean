/- ProveMatrix: what it computes, in plain Lean; sums; the mix, the chain of commitments, the taker. (Printed by tools/gen_pv1.py.) -/
import Derived.Test.YtnhdohjlbchniaaGreatProg
import Derived.Test.YtnhdohjlbchniaaGreatVmw
import Derived.Test.YtnhdohjlbchniaaGreatMix
import Derived.Test.YtnhdohjlbchniaaGreatHeldL
import Derived.Test.YtnhdohjlbchniaaGreatEncG
import Derived.Deep.CutRange
namespace Go.Proofs.YtnhdohjlbchniaaGreat
open Go.RowKit
set_option linter.unusedVariables false
set_option linter.unusedSimpArgs false

/-- A ciphertext anew; the mix. -/
def pmC (p q g key : Int) (c : Int × Int) (r : Int) : Int × Int := (gmul p [c.1, gencA p q g r], gmul p [c.2, gencB p q key 1 r])
def pmM (p q g key : Int) (a : List (Int × Int)) (perm rs : List Int) (i : Nat) : Int × Int := pmC p q g key (a.getD (perm.getD i 0).toNat (0, 0)) (rs.getD i 0)
def pmO (p q g key : Int) (a : List (Int × Int)) (perm rs : List Int) (k : Nat) : List (Int × Int) := (List.range k).map (pmM p q g key a perm rs)
theorem pmO_succ (p q g key : Int) (a : List (Int × Int)) (perm rs : List Int) (k : Nat) : pmO p q g key a perm rs (k + 1) = pmO p q g key a perm rs k ++ [pmM p q g key a perm rs k] := by
  unfold pmO; rw [List.range_succ, List.map_append, List.map_cons, List.map_nil]
theorem pmO_length (p q g key : Int) (a : List (Int × Int)) (perm rs : List Int) (k : Nat) : (pmO p q g key a perm rs k).length = k := by simp [pmO]
theorem pmC_rg {p q : Int} (h : GrpB p q) (g key : Int) {c : Int × Int} (hc : 0 ≤ c.1 ∧ 0 ≤ c.2) (r : Int) : (0 ≤ (pmC p q g key c r).1 ∧ (pmC p q g key c r).1 ≤ 2000000000) ∧ 0 ≤ (pmC p q g key c r).2 ∧ (pmC p q g key c r).2 ≤ 2000000000 :=
  ⟨gmul2_rg h hc.1 (gpw_rg p q g r h).1, gmul2_rg h hc.2 (gmul2_rg h (by omega) (gpw_rg p q key r h).1).1⟩
theorem pmO_rg {p q : Int} (h : GrpB p q) (g key : Int) {a : List (Int × Int)} (ha : ∀ c ∈ a, 0 ≤ c.1 ∧ 0 ≤ c.2) (perm rs : List Int) (k : Nat) : ∀ c ∈ pmO p q g key a perm rs k, (0 ≤ c.1 ∧ c.1 ≤ 2000000000) ∧ 0 ≤ c.2 ∧ c.2 ≤ 2000000000 := fun c hc => by
  obtain ⟨i, _, rfl⟩ := List.mem_map.1 hc
  refine pmC_rg h g key ?_ _
  rw [List.getD_eq_getElem?_getD]
  cases hq : a[(perm.getD i 0).toNat]? with
  | none => simp
  | some x => exact ha x (List.mem_of_getElem? hq)
/-- The chain. -/
def pmH (p q g H : Int) (es ts : List Int) : Nat → Int
  | 0 => H
  | k + 1 => gmul p [gpw p q g (ts.getD k 0), gpw p q (pmH p q g H es ts k) (es.getD k 0)]
def pmN (p q g H : Int) (es ts : List Int) (k : Nat) : List Int := (List.range k).map fun i => pmH p q g H es ts (i + 1)
theorem pmN_succ (p q g H : Int) (es ts : List Int) (k : Nat) : pmN p q g H es ts (k + 1) = pmN p q g H es ts k ++ [pmH p q g H es ts (k + 1)] := by
  unfold pmN; rw [List.range_succ, List.map_append, List.map_cons, List.map_nil]
theorem pmN_length (p q g H : Int) (es ts : List Int) (k : Nat) : (pmN p q g H es ts k).length = k := by simp [pmN]
theorem pmH_rg {p q : Int} (h : GrpB p q) (g : Int) {H : Int} (hH : 0 ≤ H ∧ H ≤ 3000000000) (es ts : List Int) : ∀ k, 0 ≤ pmH p q g H es ts k ∧ pmH p q g H es ts k ≤ 3000000000
  | 0 => hH
  | k + 1 => by
    have h9 := gmul2_rg h (gpw_rg p q g (ts.getD k 0) h).1 (gpw_rg p q (pmH p q g H es ts k) (es.getD k 0) h).1
    exact ⟨h9.1, by have := h9.2; show gmul p _ ≤ _; omega⟩
theorem pmN_rg {p q : Int} (h : GrpB p q) (g : Int) {H : Int} (hH : 0 ≤ H ∧ H ≤ 3000000000) (es ts : List Int) (k : Nat) : ∀ x ∈ pmN p q g H es ts k, 0 ≤ x ∧ x ≤ 3000000000 := fun x hx => by
  obtain ⟨i, _, rfl⟩ := List.mem_map.1 hx
  exact pmH_rg h g hH es ts _
/-- The exponent behind the chain. -/
def pmY (q : Int) (es ts : List Int) : Nat → Int
  | 0 => 0
  | k + 1 => (ts.getD k 0 + es.getD k 0 * pmY q es ts k) % q
theorem pmY_rg {q : Int} (hq : 2 ≤ q) (es ts : List Int) : ∀ k, 0 ≤ pmY q es ts k ∧ pmY q es ts k < q
  | 0 => ⟨by simp [pmY], by simp [pmY]; omega⟩
  | k + 1 => ⟨Int.emod_nonneg _ (by omega), Int.emod_lt_of_pos _ (by omega)⟩
theorem mul_le4 {a b q : Int} (hq : q ≤ 2000000000) (ha : 0 ≤ a ∧ a < q) (hb : 0 ≤ b ∧ b < q) : 0 ≤ a * b ∧ a * b ≤ 4000000000000000000 :=
  ⟨Int.mul_nonneg ha.1 hb.1, Int.le_trans (Int.mul_le_mul (show a ≤ 2000000000 by omega) (show b ≤ 2000000000 by omega) hb.1 (by omega)) (by decide)⟩
/-- The commitments. -/
def pmA (p q g key : Int) (hs oa ob : List Int) (A B D F : Int) (xs : List Int) (n : Nat) : List Int :=
  [gpw p q g A, gmul p [gpw p q g B, prodV p q hs xs n], gpw p q g D, gmul p [gpw p q g (-F), prodV p q oa xs n], gmul p [gpw p q key (-F), prodV p q ob xs n]]
def pmT (p q g H : Int) (cn ws xs : List Int) (i : Nat) : Int := gmul p [gpw p q g (ws.getD i 0), gpw p q ((H :: cn).getD i 0) (xs.getD i 0)]
def pmK (p q g key H : Int) (hs oa ob cn : List Int) (A B D F : Int) (ws xs : List Int) (n k : Nat) : List Int := pmA p q g key hs oa ob A B D F xs n ++ (List.range k).map (pmT p q g H cn ws xs)
theorem pmK_succ (p q g key H : Int) (hs oa ob cn : List Int) (A B D F : Int) (ws xs : List Int) (n k : Nat) : pmK p q g key H hs oa ob cn A B D F ws xs n (k + 1) = pmK p q g key H hs oa ob cn A B D F ws xs n k ++ [pmT p q g H cn ws xs k] := by
  unfold pmK; rw [List.range_succ, List.map_append, List.map_cons, List.map_nil, List.append_assoc]
theorem pmK_length (p q g key H : Int) (hs oa ob cn : List Int) (A B D F : Int) (ws xs : List Int) (n k : Nat) : (pmK p q g key H hs oa ob cn A B D F ws xs n k).length = 5 + k := by
  unfold pmK pmA; simp; omega
theorem pmK_rg {p q : Int} (h : GrpB p q) (g key H : Int) (hs oa ob cn : List Int) (A B D F : Int) (ws xs : List Int) (n k : Nat) : ∀ x ∈ pmK p q g key H hs oa ob cn A B D F ws xs n k, 0 ≤ x ∧ x ≤ 3000000000 := fun x hx => by
  unfold pmK pmA at hx
  have t1 := gpw_rg p q g A h
  have t2 := gmul2_rg h (gpw_rg p q g B h).1 (prod_bd h hs xs n).1
  have t3 := gpw_rg p q g D h
  have t4 := gmul2_rg h (gpw_rg p q g (-F) h).1 (prod_bd h oa xs n).1
  have t5 := gmul2_rg h (gpw_rg p q key (-F) h).1 (prod_bd h ob xs n).1
  rcases List.mem_append.1 hx with hx | hx
  · simp only [List.mem_cons, List.not_mem_nil, or_false] at hx
    rcases hx with rfl | rfl | rfl | rfl | rfl <;> omega
  · obtain ⟨i, _, rfl⟩ := List.mem_map.1 hx
    have t6 := gmul2_rg h (gpw_rg p q g (ws.getD i 0) h).1 (gpw_rg p q ((H :: cn).getD i 0) (xs.getD i 0) h).1
    unfold pmT
    omega
/-- The responses. -/
def pmB (q z A B D F y : Int) (s e rs own : List Int) (n : Nat) : List Int := [(A + z * sumV s q n) % q, (B + z * dotV s e q n) % q, (D + z * y) % q, (F + z * dotV rs own q n) % q]
def pmU (q z : Int) (ws ts : List Int) (i : Nat) : Int := (ws.getD i 0 + z * ts.getD i 0) % q
def pmR (q z A B D F y : Int) (s e rs own ws ts xs : List Int) (n k m : Nat) : List Int := pmB q z A B D F y s e rs own n ++ (List.range k).map (pmU q z ws ts) ++ (List.range m).map (pmU q z xs own)
theorem pmR_k (q z A B D F y : Int) (s e rs own ws ts xs : List Int) (n k : Nat) : pmR q z A B D F y s e rs own ws ts xs n (k + 1) 0 = pmR q z A B D F y s e rs own ws ts xs n k 0 ++ [pmU q z ws ts k] := by
  unfold pmR; simp only [List.range_zero, List.map_nil, List.append_nil, List.range_succ, List.map_append, List.map_cons, List.append_assoc]
theorem pmR_m (q z A B D F y : Int) (s e rs own ws ts xs : List Int) (n k m : Nat) : pmR q z A B D F y s e rs own ws ts xs n k (m + 1) = pmR q z A B D F y s e rs own ws ts xs n k m ++ [pmU q z xs own m] := by
  unfold pmR; simp only [List.range_succ, List.map_append, List.map_cons, List.map_nil, List.append_assoc]
theorem pmR_length (q z A B D F y : Int) (s e rs own ws ts xs : List Int) (n k m : Nat) : (pmR q z A B D F y s e rs own ws ts xs n k m).length = 4 + k + m := by
  unfold pmR pmB; simp; omega
/-- The lists that are hashed are lists of digests. -/
theorem fl2_rg {l : List (Int × Int)} (h : ∀ c ∈ l, (0 ≤ c.1 ∧ c.1 ≤ 3000000000) ∧ 0 ≤ c.2 ∧ c.2 ≤ 3000000000) : ∀ x ∈ fl2 l, 0 ≤ x ∧ x ≤ 3000000000 := by
  induction l with
  | nil => intro x hx; simp [fl2] at hx
  | cons y t ih =>
    have hy := h y (List.mem_cons_self ..)
    intro x hx
    simp only [fl2, List.mem_cons] at hx
    rcases hx with rfl | rfl | hx
    · exact hy.1
    · exact hy.2
    · exact ih (fun c hc => h c (List.mem_cons_of_mem _ hc)) x hx
theorem mlL_rg {key : Int} {a b : List (Int × Int)} {r : List Int} (hk : 0 ≤ key ∧ key ≤ 3000000000) (ha : ∀ c ∈ a, (0 ≤ c.1 ∧ c.1 ≤ 3000000000) ∧ 0 ≤ c.2 ∧ c.2 ≤ 3000000000) (hb : ∀ c ∈ b, (0 ≤ c.1 ∧ c.1 ≤ 3000000000) ∧ 0 ≤ c.2 ∧ c.2 ≤ 3000000000) (hr : ∀ x ∈ r, 0 ≤ x ∧ x ≤ 3000000000) : ∀ x ∈ mlL key a b r, 0 ≤ x ∧ x ≤ 3000000000 := by
  intro x hx
  simp only [mlL, List.mem_append, List.mem_singleton] at hx
  rcases hx with ((rfl | h) | h) | h
  · exact hk
  · exact fl2_rg ha x h
  · exact fl2_rg hb x h
  · exact hr x h
theorem allR_bd {l : List Int} (h : ∀ x ∈ l, 0 ≤ x ∧ x ≤ 3000000000) : allR l 0 4611686018427387903 = true := by
  rw [allR_iff]
  intro x hx
  have := h x hx
  omega
theorem pv_chs {key : Int} {a b : List (Int × Int)} {co : List Int} (hm : ∀ x ∈ mlL key a b co, 0 ≤ x ∧ x ≤ 3000000000) (l1 : a.length ≤ 12) (l2 : b.length ≤ 12) (l3 : co.length ≤ 12) : chN 4 colS (mlL key a b co) = true := by
  unfold chN
  simp only [Bool.and_eq_true, decide_eq_true_eq]
  refine ⟨by decide, ?_, allR_bd hm⟩
  have hs : colS.size = 11 := rfl
  rw [mlL_length, hs]; omega
theorem pv_ch {p q g key : Int} {a b : List (Int × Int)} {co cn cm : List Int} (hG : grpB p q g = true) (hm : ∀ x ∈ mlL key a b co, 0 ≤ x ∧ x ≤ 3000000000) (l1 : a.length ≤ 12) (l2 : b.length ≤ 12) (l3 : co.length ≤ 12)
    (h2 : ∀ x ∈ cn, 0 ≤ x ∧ x ≤ 3000000000) (l4 : cn.length ≤ 12) (h3 : ∀ x ∈ cm, 0 ≤ x ∧ x ≤ 3000000000) (l5 : cm.length ≤ 17) : chK p q g endS (mlL key a b co ++ cn ++ cm) = true ∧ allR (mlL key a b co ++ cn ++ cm) 0 4611686018427387903 = true := by
  have hr : allR (mlL key a b co ++ cn ++ cm) 0 4611686018427387903 = true := allR_bd fun x hx => by
    simp only [List.mem_append] at hx
    rcases hx with (h | h) | h
    · exact hm x h
    · exact h2 x h
    · exact h3 x h
  refine ⟨?_, hr⟩
  rw [chK_eq hG]
  unfold chN
  simp only [Bool.and_eq_true, decide_eq_true_eq]
  refine ⟨by decide, ?_, hr⟩
  have hs : endS.size = 9 := rfl
  simp only [List.length_append, mlL_length, hs]; omega
/-- Cells that are not hit stay. -/
theorem Only.cellK {fp : List Nat} {w w' : World} (h : Only fp w w') {p : Addr} {u : Value} (hp : w.cell? p = some u) (hn : p.block ∉ fp) : w'.cell? p = some u :=
  (World.cell?_of_block (w := w) (h.block p.block (World.block_lt_of_cell? w p hp) hn)).trans hp
/-- A slice of ints lies in no block without ints. -/
theorem RdI.keepP {w w' : World} {g : Nat} {t : TypeId} {cs : Array Value} {A : Option Addr} {l : List Int} (h : RdI w A l) (hB : Blk w g t cs) (hc : ∀ (i : Nat) (z : Int), cs[i]? ≠ some (Value.int .i64 z)) (ho : Only [g] w w') : RdI w' A l := by
  rcases h with h | ⟨ad, hA, hk⟩
  · exact .inl h
  · refine .inr ⟨ad, hA, fun j u hu => ?_⟩
    have h1 := hk j u hu
    refine ho.cellK h1 ?_
    intro hm
    have hlt := World.block_lt_of_cell? w _ h1
    rw [List.mem_singleton] at hm
    simp only [ints, List.getElem?_map, Option.map_eq_some_iff] at hu
    obtain ⟨y, _, rfl⟩ := hu
    unfold Blk at hB
    simp only [World.cell?, hm, hB] at h1
    split at h1
    · cases h1
    · exact hc _ y h1
/-- 'append' of one pair that lies in a cell. -/
theorem step_app1C {P : Program} {w : World} {ops : Array Oper} {o : Oper} {a : Act} {K : Act → World → Prop} {Q : Exit → Act → World → Prop} {E : Prop} {t e : TypeId} (S : PairSl P t e) {y z : Int}
    (hg : o.guard = none) (s x : Operand) (ho : o.op = .call { callee := .builtin .append, args := #[s, x], argTypes := #[t, t] })
    {base : Nat} {A : Option Addr} {n c c' : Nat} {l : List (Int × Int)} (hown : OwnC w base e A n c l) (hs : a.eval s = .slice A n c)
    (ad : Addr) (hx : a.eval x = .slice (some ad) 1 c') (hy : w.cell? ad = some (.int .i64 y)) (hz : w.cell? ⟨ad.block, ad.off + 1, none⟩ = some (.int .i64 z)) (hn : n ≤ 1000000000) (hb : base ≤ w.heap.size)
    (hK : ∀ A' d w', OwnC w' base e A' (n + 1) d (l ++ [(y, z)]) → Below base w w' → K (a.put o.dst (.slice A' (n + 1) d)) w') :
    if Region.wanted o (yielded ops a.tmps) = true then Oper.wp P o a w K Q else E := by
  have hw : Region.wanted o (yielded ops a.tmps) = true := by simp [Region.wanted, hg]
  rw [if_pos hw]
  obtain ⟨i, h2, h3, h4, h5⟩ := S.hi
  refine wp_append_own w s x t ho base e i _ 2 16 S.ht h2 h3 h4 h5 rfl (by omega) (.slice A n c) n (cs2 l) hs hown ad 1 c' [.int .i64 y, .int .i64 z] hx (by simp) ?_ (by simp [Value.oneCell']) (by unfold maxLen; omega) (by omega) hb ?_
  · intro j u hu
    match j with
    | 0 => simp only [List.getElem?_cons_zero, Option.some.injEq] at hu; subst hu; exact hy
    | 1 => simp only [List.getElem?_cons_succ, List.getElem?_cons_zero, Option.some.injEq] at hu; subst hu; exact hz
    | j + 2 => simp at hu
  · intro v' w' h6 h7 h8
    have h9 : cs2 l ++ [Value.int .i64 y, .int .i64 z] = cs2 (l ++ [(y, z)]) := by rw [cs2_append]; rfl
    rw [h9] at h6
    have hbl : Below base w w' := (Below.refl base w).grown h7 hb fun k hk => (World.ownsRow.lt (v := .slice A n c) hown k hk).1
    rcases h6.2 with ⟨_, h0⟩ | ⟨g, cap, cur, rfl, rest⟩
    · omega
    · exact hK _ _ w' h6 hbl
theorem ownC_nil_lit {w : World} {base e : Nat} (hb : base ≤ w.heap.size) : OwnC (w.alloc (.cells #[] e)) base e (some ⟨w.heap.size, 0, none⟩) 0 0 [] := by
  have h := World.ownsRow_lit (base := base) (e := e) (size := 2) w #[] 0 hb (by unfold maxLen; omega) (by simp)
  simpa [OwnC, cs2] using h
theorem gmul_id {p x : Int} (h0 : 0 ≤ x) (h1 : x < p) : gmul p [1, x] = x := by
  simp only [gmul, List.foldl_cons, List.foldl_nil, Int.one_mul]
  rcases Int.lt_or_le 1 p with hp | hp
  · rw [Int.emod_eq_of_lt (by omega) hp, Int.one_mul, Int.emod_eq_of_lt h0 h1]
  · have : p = 1 := by omega
    subst this
    have : x = 0 := by omega
    subst this; rfl
theorem gmul_rgp {p q : Int} (h : GrpB p q) (x y : Int) : 0 ≤ gmul p [x, y] ∧ gmul p [x, y] < p := by
  obtain ⟨p1, _, _, _⟩ := h
  simp only [gmul, List.foldl_cons, List.foldl_nil]
  exact ⟨Int.emod_nonneg _ (by omega), Int.emod_lt_of_pos _ (by omega)⟩
theorem rdC_two {w : World} {a b c d : Int} {k : Nat} {e : TypeId} (hk : k = w.heap.size) : RdC (w.alloc (.cells #[.int .i64 a, .int .i64 b, .int .i64 c, .int .i64 d] e)) (some ⟨k, 0, none⟩) [(a, b), (c, d)] := by
  subst hk
  refine .inr ⟨_, rfl, fun j u hu => ?_⟩
  have B := (Blk.new w e #[.int .i64 a, .int .i64 b, .int .i64 c, .int .i64 d]).cells
  match j with
  | 0 => simp only [cs2, List.flatMap_cons, List.flatMap_nil, List.append_nil, List.cons_append, List.nil_append, List.getElem?_cons_zero, Option.some.injEq] at hu; subst hu; exact B 0
  | 1 => simp only [cs2, List.flatMap_cons, List.flatMap_nil, List.append_nil, List.cons_append, List.nil_append, List.getElem?_cons_succ, List.getElem?_cons_zero, Option.some.injEq] at hu; subst hu; exact B 1
  | 2 => simp only [cs2, List.flatMap_cons, List.flatMap_nil, List.append_nil, List.cons_append, List.nil_append, List.getElem?_cons_succ, List.getElem?_cons_zero, Option.some.injEq] at hu; subst hu; exact B 2
  | 3 => simp only [cs2, List.flatMap_cons, List.flatMap_nil, List.append_nil, List.cons_append, List.nil_append, List.getElem?_cons_succ, List.getElem?_cons_zero, Option.some.injEq] at hu; subst hu; exact B 3
  | j + 4 => simp [cs2] at hu
theorem mod_in (q y t : Int) : (y + t % q) % q = (y + t) % q := by rw [Int.add_comm, Int.emod_add_emod, Int.add_comm]
/-- The reference's product of ciphertexts. -/
def emStep (p : Int) (o c : Int × Int) : Int × Int := (gmul p [o.1, c.1], gmul p [o.2, c.2])
def emF (p : Int) (l : List (Int × Int)) : Int × Int := l.foldl (emStep p) (1, 1)
theorem emF_take {p : Int} {l : List (Int × Int)} {j : Nat} (hj : j < l.length) : emF p (l.take (j + 1)) = emStep p (emF p (l.take j)) l[j] := by
  unfold emF
  rw [List.take_succ_eq_append_getElem hj, List.foldl_append]; rfl
theorem emF_rg {p q : Int} (h : GrpB p q) : ∀ (l : List (Int × Int)), (∀ c ∈ l, 0 ≤ c.1 ∧ 0 ≤ c.2) → (0 ≤ (emF p l).1 ∧ (emF p l).1 ≤ 2000000000) ∧ 0 ≤ (emF p l).2 ∧ (emF p l).2 ≤ 2000000000 := by
  suffices H : ∀ (l : List (Int × Int)) (o : Int × Int), (∀ c ∈ l, 0 ≤ c.1 ∧ 0 ≤ c.2) → ((0 ≤ o.1 ∧ o.1 ≤ 2000000000) ∧ 0 ≤ o.2 ∧ o.2 ≤ 2000000000) → (0 ≤ (l.foldl (emStep p) o).1 ∧ (l.foldl (emStep p) o).1 ≤ 2000000000) ∧ 0 ≤ (l.foldl (emStep p) o).2 ∧ (l.foldl (emStep p) o).2 ≤ 2000000000 from
    fun l hl => H l (1, 1) hl ⟨by simp, by simp⟩
  intro l
  induction l with
  | nil => intro o _ ho; exact ho
  | cons c l ih =>
    intro o hl ho
    have hc := hl c (List.mem_cons_self ..)
    exact ih _ (fun d hd => hl d (List.mem_cons_of_mem _ hd)) ⟨gmul2_rg h ho.1.1 hc.1, gmul2_rg h ho.2.1 hc.2⟩
theorem rd_twoE {w V : World} {x y : Int} {k : Nat} (hk : k = w.heap.size) (hE : Ext (w.alloc (.cells #[.int .i64 x, .int .i64 y] 3)) V) : RdI V (some ⟨k, 0, none⟩) [x, y] := (rd_two hk).ext hE
set_option maxRecDepth 100000 in
set_option maxHeartbeats 8000000 in
theorem eMul_any (p q g : Int) (A : Option Addr) (n c : Nat) (l : List (Int × Int)) (w : World) (h : GrpB p q) (ha : RdC w A l) (hl : l.length = n) (hn : n ≤ 1000000) (hr : ∀ x ∈ l, (0 ≤ x.1 ∧ x.1 ≤ 3000000000) ∧ 0 ≤ x.2 ∧ x.2 ≤ 3000000000) :
    Calls Tryz.prog 102 #[.agg #[.int .i64 p, .int .i64 q, .int .i64 g], .slice A n c] w fun e w' => e = .returned (.agg #[.int .i64 (emF p l).1, .int .i64 (emF p l).2]) ∧ Ext w w' := by
  have hn9 : n ≤ 9223372036854775807 := by omega
  subst hl
  have E := ((((Ext.refl w).alloc (.cells #[.int .i64 p, .int .i64 q, .int .i64 g] 33)).alloc (.cells #[.int .i64 0, .int .i64 0] 54)).alloc (.cells #[.int .i64 1, .int .i64 1] 54))
  have B0 := (((Blk.new w 33 #[.int .i64 p, .int .i64 q, .int .i64 g]).alloc (.cells #[.int .i64 0, .int .i64 0] 54)).alloc (.cells #[.int .i64 1, .int .i64 1] 54))
  have B1 := ((Blk.new (w.alloc (.cells #[.int .i64 p, .int .i64 q, .int .i64 g] 33)) 54 #[.int .i64 0, .int .i64 0]).alloc (.cells #[.int .i64 1, .int .i64 1] 54))
  have B2 := (Blk.new ((w.alloc (.cells #[.int .i64 p, .int .i64 q, .int .i64 g] 33)).alloc (.cells #[.int .i64 0, .int .i64 0] 54)) 54 #[.int .i64 1, .int .i64 1])
  simp only [World.size_alloc] at B1 B2
  have HR := Lib.hid hr
  clear hr
  go_enter Tryz.func102, Tryz.ntmps102
  go_wp2
  go_loopw [11] (fun i wr => ∃ j : Nat, j ≤ l.length ∧ i = .int .i64 j ∧ Blk wr w.heap.size 33 #[.int .i64 p, .int .i64 q, .int .i64 g] ∧ Blk wr (w.heap.size + 1) 54 #[.int .i64 0, .int .i64 0] ∧ Blk wr (w.heap.size + 1 + 1) 54 #[.int .i64 (emF p (l.take j)).1, .int .i64 (emF p (l.take j)).2] ∧ Ext w wr) (fun i _ => l.length - (intOf i).toNat)
  case atStart => exact ⟨0, Nat.zero_le _, rfl, B0, B1, B2, E⟩
  case round =>
    clear B0 B1 B2 E
    obtain ⟨j, hj, rfl, B0, B1, B2, E⟩ := hrel
    by_cases hlt : j < l.length
    · obtain ⟨ad, rfl, hc, hd⟩ := (ha.ext E).at_ hlt
      have hx := HR.out _ (List.getElem_mem hlt)
      have ho := emF_rg h (l.take j) (fun c hc => by have := HR.out c (List.mem_of_mem_take hc); omega)
      have HS := Lib.hid (emF_take (p := p) hlt)
      generalize l[j] = x at *
      obtain ⟨x1, x2⟩ := x
      generalize emF p (l.take j) = o at *
      obtain ⟨o1, o2⟩ := o
      simp only at hc hd hx ho B2
      have hW := (Ext.refl wr).alloc (.cells #[.int .i64 x1, .int .i64 x2] 54)
      have B6 := Blk.new wr 54 #[.int .i64 x1, .int .i64 x2]
      have hS : ∀ V, Ext (wr.alloc (.cells #[.int .i64 x1, .int .i64 x2] 54)) V → V.cell? ⟨w.heap.size, 0, none⟩ = some (.int .i64 p) ∧ V.cell? ⟨w.heap.size, 1, none⟩ = some (.int .i64 q) ∧ V.cell? ⟨w.heap.size, 2, none⟩ = some (.int .i64 g) ∧ V.cell? ⟨w.heap.size + 1 + 1, 0, none⟩ = some (.int .i64 o1) ∧ V.cell? ⟨w.heap.size + 1 + 1, 1, none⟩ = some (.int .i64 o2) ∧ V.cell? ⟨wr.heap.size, 0, none⟩ = some (.int .i64 x1) ∧ V.cell? ⟨wr.heap.size, 1, none⟩ = some (.int .i64 x2) := fun V hV => by
        have a0 := (B0.ext (hW.trans hV)).cells
        have a2 := (B2.ext (hW.trans hV)).cells
        have a6 := (B6.ext hV).cells
        exact ⟨a0 0, a0 1, a0 2, a2 0, a2 1, a6 0, a6 1⟩
      have hF : ∀ V, Ext (wr.alloc (.cells #[.int .i64 x1, .int .i64 x2] 54)) V → V.frozen? ⟨w.heap.size + 1 + 1, 0, none⟩ = false ∧ V.frozen? ⟨w.heap.size + 1 + 1, 1, none⟩ = false := fun V hV => by
        have a2 := (B2.ext (hW.trans hV)).frozen
        exact ⟨a2 0, a2 1⟩
      have fin : ∀ V, Ext (wr.alloc (.cells #[.int .i64 x1, .int .i64 x2] 54)) V → Blk ((V.setCell ⟨w.heap.size + 1 + 1, 0, none⟩ (.int .i64 (gmul p [o1, x1]))).setCell ⟨w.heap.size + 1 + 1, 1, none⟩ (.int .i64 (gmul p [o2, x2]))) w.heap.size 33 #[.int .i64 p, .int .i64 q, .int .i64 g] ∧ Blk ((V.setCell ⟨w.heap.size + 1 + 1, 0, none⟩ (.int .i64 (gmul p [o1, x1]))).setCell ⟨w.heap.size + 1 + 1, 1, none⟩ (.int .i64 (gmul p [o2, x2]))) (w.heap.size + 1) 54 #[.int .i64 0, .int .i64 0] ∧ Blk ((V.setCell ⟨w.heap.size + 1 + 1, 0, none⟩ (.int .i64 (gmul p [o1, x1]))).setCell ⟨w.heap.size + 1 + 1, 1, none⟩ (.int .i64 (gmul p [o2, x2]))) (w.heap.size + 1 + 1) 54 #[.int .i64 (gmul p [o1, x1]), .int .i64 (gmul p [o2, x2])] ∧ Ext w ((V.setCell ⟨w.heap.size + 1 + 1, 0, none⟩ (.int .i64 (gmul p [o1, x1]))).setCell ⟨w.heap.size + 1 + 1, 1, none⟩ (.int .i64 (gmul p [o2, x2]))) := fun V hV => by
        have h9 := hW.trans hV
        exact ⟨((B0.ext h9).far (p := ⟨w.heap.size + 1 + 1, 0, none⟩) (by simp; omega) _).far (p := ⟨w.heap.size + 1 + 1, 1, none⟩) (by simp; omega) _, ((B1.ext h9).far (p := ⟨w.heap.size + 1 + 1, 0, none⟩) (by simp) _).far (p := ⟨w.heap.size + 1 + 1, 1, none⟩) (by simp) _, ((B2.ext h9).set_ 0 _).set_ 1 _, ((E.trans h9).setCell (p := ⟨w.heap.size + 1 + 1, 0, none⟩) (by simp; omega) _).setCell (p := ⟨w.heap.size + 1 + 1, 1, none⟩) (by simp; omega) _⟩
      have HSx := Lib.hid hS
      have HFx := Lib.hid hF
      have HFin := Lib.hid fin
      clear fin hF
      have C0 := B0.cells
      have C2 := B2.cells
      go_wp2
      refine wp_region_heldL (S := fun V => V.cell? ⟨w.heap.size, 0, none⟩ = some (.int .i64 p) ∧ V.cell? ⟨w.heap.size, 1, none⟩ = some (.int .i64 q) ∧ V.cell? ⟨w.heap.size, 2, none⟩ = some (.int .i64 g) ∧ V.cell? ⟨w.heap.size + 1 + 1, 0, none⟩ = some (.int .i64 o1) ∧ V.cell? ⟨w.heap.size + 1 + 1, 1, none⟩ = some (.int .i64 o2) ∧ V.cell? ⟨wr.heap.size, 0, none⟩ = some (.int .i64 x1) ∧ V.cell? ⟨wr.heap.size, 1, none⟩ = some (.int .i64 x2)) 15 (by kernel_rfl) ?_ (fun hHeld => ?_)
      · exact hS _ (by repeat (first | with_reducible assumption | with_reducible exact Ext.refl _ | with_reducible apply Ext.alloc | with_reducible apply Ext.drew | with_reducible apply Ext.drewN))
      refine' wpAnyL_take (i := 0) (v := _) ?hi0 (by kernel_rfl) (by kernel_rfl) (by kernel_rfl) [15] (by kernel_rfl) ?hQ0 ?hy0 (by assumption) ?_
      case hi0 => (simp only [List.getElem?_toArray, List.getElem?_cons_zero]; rfl)
      case hy0 => refine Or.inl ⟨by rfl, ?_⟩; intro w hSw; (try dsimp only at hSw); go_simp <;> with_reducible rfl
      case hQ0 => exact fun _ _ _ h => h
      try simp only [Act.put, List.setIfInBounds_toArray, List.set_cons_zero, List.set_cons_succ]
      refine' wpAnyL_take (i := 1) (v := _) ?hi1 (by kernel_rfl) (by kernel_rfl) (by kernel_rfl) [15] (by kernel_rfl) ?hQ1 ?hy1 (by assumption) ?_
      case hi1 => (simp only [List.getElem?_toArray, List.getElem?_cons_succ, List.getElem?_cons_zero]; rfl)
      case hy1 => refine Or.inl ⟨by rfl, ?_⟩; intro w hSw; (try dsimp only at hSw); go_simp <;> with_reducible rfl
      case hQ1 => exact fun _ _ _ h => h
      try simp only [Act.put, List.setIfInBounds_toArray, List.set_cons_zero, List.set_cons_succ]
      refine' wpAnyL_take (i := 2) (v := _) ?hi2 (by kernel_rfl) (by kernel_rfl) (by kernel_rfl) [15] (by kernel_rfl) ?hQ2 ?hy2 (by assumption) ?_
      case hi2 => (simp only [List.getElem?_toArray, List.getElem?_cons_succ, List.getElem?_cons_zero]; rfl)
      case hy2 => refine Or.inl ⟨by rfl, ?_⟩; intro w hSw; (try dsimp only at hSw); go_simp <;> with_reducible rfl
      case hQ2 => exact fun _ _ _ h => h
      try simp only [Act.put, List.setIfInBounds_toArray, List.set_cons_zero, List.set_cons_succ]
      refine' wpAnyL_take (i := 3) (v := _) ?hi3 (by kernel_rfl) (by kernel_rfl) (by kernel_rfl) [15] (by kernel_rfl) ?hQ3 ?hy3 (by assumption) ?_
      case hi3 => (simp only [List.getElem?_toArray, List.getElem?_cons_succ, List.getElem?_cons_zero]; rfl)
      case hy3 => refine Or.inl ⟨by rfl, ?_⟩; intro w hSw; (try dsimp only at hSw); go_simp <;> with_reducible rfl
      case hQ3 => exact fun _ _ _ h => h
      try simp only [Act.put, List.setIfInBounds_toArray, List.set_cons_zero, List.set_cons_succ]
      refine' wpAnyL_take (i := 4) (v := _) ?hi4 (by kernel_rfl) (by kernel_rfl) (by kernel_rfl) [15] (by kernel_rfl) ?hQ4 ?hy4 (by assumption) ?_
      case hi4 => (simp only [List.getElem?_toArray, List.getElem?_cons_succ, List.getElem?_cons_zero]; rfl)
      case hy4 => refine Or.inl ⟨by rfl, ?_⟩; intro w hSw; (try dsimp only at hSw); go_simp <;> with_reducible rfl
      case hQ4 => exact fun _ _ _ h => h
      try simp only [Act.put, List.setIfInBounds_toArray, List.set_cons_zero, List.set_cons_succ]
      refine' wpAnyL_take (i := 7) (v := _) ?hi7 (by kernel_rfl) (by kernel_rfl) (by kernel_rfl) [15] (by kernel_rfl) ?hQ7 ?hy7 (by assumption) ?_
      case hi7 => (simp only [List.getElem?_toArray, List.getElem?_cons_succ, List.getElem?_cons_zero]; rfl)
      case hy7 => refine Or.inl ⟨by rfl, ?_⟩; intro w hSw; (try dsimp only at hSw); go_simp <;> with_reducible rfl
      case hQ7 => exact fun _ _ _ h => h
      try simp only [Act.put, List.setIfInBounds_toArray, List.set_cons_zero, List.set_cons_succ]
      refine' wpAnyL_take (i := 8) (v := _) ?hi8 (by kernel_rfl) (by kernel_rfl) (by kernel_rfl) [15] (by kernel_rfl) ?hQ8 ?hy8 (by assumption) ?_
      case hi8 => (simp only [List.getElem?_toArray, List.getElem?_cons_succ, List.getElem?_cons_zero]; rfl)
      case hy8 => refine Or.inl ⟨by rfl, ?_⟩; intro w hSw; (try dsimp only at hSw); go_simp <;> with_reducible rfl
      case hQ8 => exact fun _ _ _ h => h
      try simp only [Act.put, List.setIfInBounds_toArray, List.set_cons_zero, List.set_cons_succ]
      refine' wpAnyL_take (i := 9) (v := _) ?hi9 (by kernel_rfl) (by kernel_rfl) (by kernel_rfl) [15] (by kernel_rfl) ?hQ9 ?hy9 (by assumption) ?_
      case hi9 => (simp only [List.getElem?_toArray, List.getElem?_cons_succ, List.getElem?_cons_zero]; rfl)
      case hy9 => refine Or.inl ⟨by rfl, ?_⟩; intro w hSw; (try dsimp only at hSw); go_simp <;> with_reducible rfl
      case hQ9 => exact fun _ _ _ h => h
      try simp only [Act.put, List.setIfInBounds_toArray, List.set_cons_zero, List.set_cons_succ]
      refine' wpAnyL_take (i := 10) (v := _) ?hi10 (by kernel_rfl) (by kernel_rfl) (by kernel_rfl) [15] (by kernel_rfl) ?hQ10 ?hy10 (by assumption) ?_
      case hi10 => (simp only [List.getElem?_toArray, List.getElem?_cons_succ, List.getElem?_cons_zero]; rfl)
      case hy10 => refine Or.inl ⟨by rfl, ?_⟩; intro w hSw; (try dsimp only at hSw); go_simp <;> with_reducible rfl
      case hQ10 => exact fun _ _ _ h => h
      try simp only [Act.put, List.setIfInBounds_toArray, List.set_cons_zero, List.set_cons_succ]
      refine' wpAnyL_take (i := 11) (v := _) ?hi11 (by kernel_rfl) (by kernel_rfl) (by kernel_rfl) [15] (by kernel_rfl) ?hQ11 ?hy11 (by assumption) ?_
      case hi11 => (simp only [List.getElem?_toArray, List.getElem?_cons_succ, List.getElem?_cons_zero]; rfl)
      case hy11 => refine Or.inl ⟨by rfl, ?_⟩; intro w hSw; (try dsimp only at hSw); go_simp <;> with_reducible rfl
      case hQ11 => exact fun _ _ _ h => h
      try simp only [Act.put, List.setIfInBounds_toArray, List.set_cons_zero, List.set_cons_succ]
      refine wpAnyL_ready (rs := [5, 12]) (by kernel_rfl) (by simp) ?_
      refine AllReadyL.cons rfl (by kernel_rfl) (fun KK hKK => ?_) ?_
      · go_simp
        refine hKK.out _ _ ?_ (fun hHeld => ?_)
        · exact hS _ (by repeat (first | with_reducible assumption | with_reducible exact Ext.refl _ | with_reducible apply Ext.alloc | with_reducible apply Ext.drew | with_reducible apply Ext.drewN))
        clear hKK KK
        try simp only [Act.put, List.setIfInBounds_toArray, List.set_cons_zero, List.set_cons_succ]
        refine wpAnyL_ready (rs := [6, 12]) (by kernel_rfl) (by simp) ?_
        refine AllReadyL.cons rfl (by kernel_rfl) (fun KK hKK => ?_) ?_
        · go_simp
          go_at_call 46
          refine (gMul_any p q g _ 2 2 [o1, x1] _ h (by exact rd_twoE (w := (wr.alloc (.cells #[.int .i64 x1, .int .i64 x2] 54))) (by first | (simp; done) | (simp; omega)) (by repeat (first | with_reducible assumption | with_reducible exact Ext.refl _ | with_reducible apply Ext.alloc | with_reducible apply Ext.drew | with_reducible apply Ext.drewN))) rfl (by decide) (two_rg (by omega) (by omega))).mono ?_
          rintro ek wk6 ⟨rfl, hbk6⟩
          have hxk6 := Ext.trans (w := (wr.alloc (.cells #[.int .i64 x1, .int .i64 x2] 54))) (by repeat (first | with_reducible assumption | with_reducible exact Ext.refl _ | with_reducible apply Ext.alloc | with_reducible apply Ext.drew | with_reducible apply Ext.drewN)) hbk6
          refine hKK.out _ _ ?_ (fun hHeld => ?_)
          · exact hS _ (by repeat (first | with_reducible assumption | with_reducible exact Ext.refl _ | with_reducible apply Ext.alloc | with_reducible apply Ext.drew | with_reducible apply Ext.drewN))
          clear hKK KK
          try simp only [Act.put, List.setIfInBounds_toArray, List.set_cons_zero, List.set_cons_succ]
          refine wpAnyL_ready (rs := [12]) (by kernel_rfl) (by simp) ?_
          refine AllReadyL.cons rfl (by kernel_rfl) (fun KK hKK => ?_) ?_
          · go_simp
            refine hKK.out _ _ ?_ (fun hHeld => ?_)
            · exact hS _ (by repeat (first | with_reducible assumption | with_reducible exact Ext.refl _ | with_reducible apply Ext.alloc | with_reducible apply Ext.drew | with_reducible apply Ext.drewN))
            clear hKK KK
            try simp only [Act.put, List.setIfInBounds_toArray, List.set_cons_zero, List.set_cons_succ]
            refine wpAnyL_ready (rs := [13]) (by kernel_rfl) (by simp) ?_
            refine AllReadyL.cons rfl (by kernel_rfl) (fun KK hKK => ?_) ?_
            · go_simp
              go_at_call 46
              refine (gMul_any p q g _ 2 2 [o2, x2] _ h (by exact rd_twoE (w := wk6) (by first | (simp; done) | (simp; omega)) (by repeat (first | with_reducible assumption | with_reducible exact Ext.refl _ | with_reducible apply Ext.alloc | with_reducible apply Ext.drew | with_reducible apply Ext.drewN))) rfl (by decide) (two_rg (by omega) (by omega))).mono ?_
              rintro ek wk13 ⟨rfl, hbk13⟩
              have hxk13 := Ext.trans (w := (wr.alloc (.cells #[.int .i64 x1, .int .i64 x2] 54))) (by repeat (first | with_reducible assumption | with_reducible exact Ext.refl _ | with_reducible apply Ext.alloc | with_reducible apply Ext.drew | with_reducible apply Ext.drewN)) hbk13
              refine hKK.out _ _ ?_ (fun hHeld => ?_)
              · exact hS _ (by repeat (first | with_reducible assumption | with_reducible exact Ext.refl _ | with_reducible apply Ext.alloc | with_reducible apply Ext.drew | with_reducible apply Ext.drewN))
              clear hKK KK
              try simp only [Act.put, List.setIfInBounds_toArray, List.set_cons_zero, List.set_cons_succ]
              refine' wpAnyL_take (i := 14) (v := _) ?hi14 (by kernel_rfl) (by kernel_rfl) (by kernel_rfl) [15] (by kernel_rfl) ?hQ14 ?hy14 (by assumption) ?_
              case hi14 => (simp only [List.getElem?_toArray, List.getElem?_cons_succ, List.getElem?_cons_zero]; rfl)
              case hy14 => refine Or.inl ⟨by rfl, ?_⟩; intro w hSw; (try dsimp only at hSw); go_simp <;> with_reducible rfl
              case hQ14 => exact fun _ _ _ h => h
              try simp only [Act.put, List.setIfInBounds_toArray, List.set_cons_zero, List.set_cons_succ]
              refine wpAnyL_ready (rs := [15]) (by kernel_rfl) (by simp) ?_
              refine AllReadyL.last rfl (by kernel_rfl) (fun KK hKK => ?_) ?_
              · obtain ⟨ff0, ff1⟩ := HFx.out _ hxk13
                obtain ⟨c0, c1, c2, c3, c4, c5, c6⟩ := hS _ hxk13
                go_simp
                refine hKK.out _ _ ?_
                clear hKK KK
                try simp only [Act.put, List.setIfInBounds_toArray, List.set_cons_zero, List.set_cons_succ]
                refine wpAny_done (by kernel_rfl) ?_ _
                go_wp2
                go_roundw
                case rel => exact ⟨j + 1, by omega, by go_num, by have h9 := HFin.out _ hxk13; rw [HS.out]; exact h9⟩
                case measure => simp [intOf]; omega
              exact AllReadyL.nil
            exact AllReadyL.nil
          exact AllReadyL.nil
        refine AllReadyL.cons rfl (by kernel_rfl) (fun KK hKK => ?_) ?_
        · go_simp
          refine hKK.out _ _ ?_ (fun hHeld => ?_)
          · exact hS _ (by repeat (first | with_reducible assumption | with_reducible exact Ext.refl _ | with_reducible apply Ext.alloc | with_reducible apply Ext.drew | with_reducible apply Ext.drewN))
          clear hKK KK
          try simp only [Act.put, List.setIfInBounds_toArray, List.set_cons_zero, List.set_cons_succ]
          refine wpAnyL_ready (rs := [6]) (by kernel_rfl) (by simp) ?_
          refine AllReadyL.cons rfl (by kernel_rfl) (fun KK hKK => ?_) ?_
          · go_simp
            go_at_call 46
            refine (gMul_any p q g _ 2 2 [o1, x1] _ h (by exact rd_twoE (w := (wr.alloc (.cells #[.int .i64 x1, .int .i64 x2] 54))) (by first | (simp; done) | (simp; omega)) (by repeat (first | with_reducible assumption | with_reducible exact Ext.refl _ | with_reducible apply Ext.alloc | with_reducible apply Ext.drew | with_reducible apply Ext.drewN))) rfl (by decide) (two_rg (by omega) (by omega))).mono ?_
            rintro ek wk6 ⟨rfl, hbk6⟩
            have hxk6 := Ext.trans (w := (wr.alloc (.cells #[.int .i64 x1, .int .i64 x2] 54))) (by repeat (first | with_reducible assumption | with_reducible exact Ext.refl _ | with_reducible apply Ext.alloc | with_reducible apply Ext.drew | with_reducible apply Ext.drewN)) hbk6
            refine hKK.out _ _ ?_ (fun hHeld => ?_)
            · exact hS _ (by repeat (first | with_reducible assumption | with_reducible exact Ext.refl _ | with_reducible apply Ext.alloc | with_reducible apply Ext.drew | with_reducible apply Ext.drewN))
            clear hKK KK
            try simp only [Act.put, List.setIfInBounds_toArray, List.set_cons_zero, List.set_cons_succ]
            refine wpAnyL_ready (rs := [13]) (by kernel_rfl) (by simp) ?_
            refine AllReadyL.cons rfl (by kernel_rfl) (fun KK hKK => ?_) ?_
            · go_simp
              go_at_call 46
              refine (gMul_any p q g _ 2 2 [o2, x2] _ h (by exact RdI.ext (rd_twoE (w := ((wr.alloc (.cells #[.int .i64 x1, .int .i64 x2] 54)).alloc (.cells #[.int .i64 o1, .int .i64 x1] 3))) (by first | (simp; done) | (simp; omega)) (by repeat (first | with_reducible assumption | with_reducible exact Ext.refl _ | with_reducible apply Ext.alloc | with_reducible apply Ext.drew | with_reducible apply Ext.drewN))) hbk6) rfl (by decide) (two_rg (by omega) (by omega))).mono ?_
              rintro ek wk13 ⟨rfl, hbk13⟩
              have hxk13 := Ext.trans (w := (wr.alloc (.cells #[.int .i64 x1, .int .i64 x2] 54))) (by repeat (first | with_reducible assumption | with_reducible exact Ext.refl _ | with_reducible apply Ext.alloc | with_reducible apply Ext.drew | with_reducible apply Ext.drewN)) hbk13
              refine hKK.out _ _ ?_ (fun hHeld => ?_)
              · exact hS _ (by repeat (first | with_reducible assumption | with_reducible exact Ext.refl _ | with_reducible apply Ext.alloc | with_reducible apply Ext.drew | with_reducible apply Ext.drewN))
              clear hKK KK
              try simp only [Act.put, List.setIfInBounds_toArray, List.set_cons_zero, List.set_cons_succ]
              refine' wpAnyL_take (i := 14) (v := _) ?hi14 (by kernel_rfl) (by kernel_rfl) (by kernel_rfl) [15] (by kernel_rfl) ?hQ14 ?hy14 (by assumption) ?_
              case hi14 => (simp only [List.getElem?_toArray, List.getElem?_cons_succ, List.getElem?_cons_zero]; rfl)
              case hy14 => refine Or.inl ⟨by rfl, ?_⟩; intro w hSw; (try dsimp only at hSw); go_simp <;> with_reducible rfl
              case hQ14 => exact fun _ _ _ h => h
              try simp only [Act.put, List.setIfInBounds_toArray, List.set_cons_zero, List.set_cons_succ]
              refine wpAnyL_ready (rs := [15]) (by kernel_rfl) (by simp) ?_
              refine AllReadyL.last rfl (by kernel_rfl) (fun KK hKK => ?_) ?_
              · obtain ⟨ff0, ff1⟩ := HFx.out _ hxk13
                obtain ⟨c0, c1, c2, c3, c4, c5, c6⟩ := hS _ hxk13
                go_simp
                refine hKK.out _ _ ?_
                clear hKK KK
                try simp only [Act.put, List.setIfInBounds_toArray, List.set_cons_zero, List.set_cons_succ]
                refine wpAny_done (by kernel_rfl) ?_ _
                go_wp2
                go_roundw
                case rel => exact ⟨j + 1, by omega, by go_num, by have h9 := HFin.out _ hxk13; rw [HS.out]; exact h9⟩
                case measure => simp [intOf]; omega
              exact AllReadyL.nil
            exact AllReadyL.nil
          exact AllReadyL.nil
        exact AllReadyL.nil
      refine AllReadyL.cons rfl (by kernel_rfl) (fun KK hKK => ?_) ?_
      · go_simp
        refine hKK.out _ _ ?_ (fun hHeld => ?_)
        · exact hS _ (by repeat (first | with_reducible assumption | with_reducible exact Ext.refl _ | with_reducible apply Ext.alloc | with_reducible apply Ext.drew | with_reducible apply Ext.drewN))
        clear hKK KK
        try simp only [Act.put, List.setIfInBounds_toArray, List.set_cons_zero, List.set_cons_succ]
        refine wpAnyL_ready (rs := [5]) (by kernel_rfl) (by simp) ?_
        refine AllReadyL.cons rfl (by kernel_rfl) (fun KK hKK => ?_) ?_
        · go_simp
          refine hKK.out _ _ ?_ (fun hHeld => ?_)
          · exact hS _ (by repeat (first | with_reducible assumption | with_reducible exact Ext.refl _ | with_reducible apply Ext.alloc | with_reducible apply Ext.drew | with_reducible apply Ext.drewN))
          clear hKK KK
          try simp only [Act.put, List.setIfInBounds_toArray, List.set_cons_zero, List.set_cons_succ]
          refine wpAnyL_ready (rs := [6]) (by kernel_rfl) (by simp) ?_
          refine AllReadyL.cons rfl (by kernel_rfl) (fun KK hKK => ?_) ?_
          · go_simp
            go_at_call 46
            refine (gMul_any p q g _ 2 2 [o1, x1] _ h (by exact rd_twoE (w := ((wr.alloc (.cells #[.int .i64 x1, .int .i64 x2] 54)).alloc (.cells #[.int .i64 o2, .int .i64 x2] 3))) (by first | (simp; done) | (simp; omega)) (by repeat (first | with_reducible assumption | with_reducible exact Ext.refl _ | with_reducible apply Ext.alloc | with_reducible apply Ext.drew | with_reducible apply Ext.drewN))) rfl (by decide) (two_rg (by omega) (by omega))).mono ?_
            rintro ek wk6 ⟨rfl, hbk6⟩
            have hxk6 := Ext.trans (w := (wr.alloc (.cells #[.int .i64 x1, .int .i64 x2] 54))) (by repeat (first | with_reducible assumption | with_reducible exact Ext.refl _ | with_reducible apply Ext.alloc | with_reducible apply Ext.drew | with_reducible apply Ext.drewN)) hbk6
            refine hKK.out _ _ ?_ (fun hHeld => ?_)
            · exact hS _ (by repeat (first | with_reducible assumption | with_reducible exact Ext.refl _ | with_reducible apply Ext.alloc | with_reducible apply Ext.drew | with_reducible apply Ext.drewN))
            clear hKK KK
            try simp only [Act.put, List.setIfInBounds_toArray, List.set_cons_zero, List.set_cons_succ]
            refine wpAnyL_ready (rs := [13]) (by kernel_rfl) (by simp) ?_
            refine AllReadyL.cons rfl (by kernel_rfl) (fun KK hKK => ?_) ?_
            · go_simp
              go_at_call 46
              refine (gMul_any p q g _ 2 2 [o2, x2] _ h (by exact RdI.ext (rd_twoE (w := (wr.alloc (.cells #[.int .i64 x1, .int .i64 x2] 54))) (by first | (simp; done) | (simp; omega)) (by repeat (first | with_reducible assumption | with_reducible exact Ext.refl _ | with_reducible apply Ext.alloc | with_reducible apply Ext.drew | with_reducible apply Ext.drewN))) hbk6) rfl (by decide) (two_rg (by omega) (by omega))).mono ?_
              rintro ek wk13 ⟨rfl, hbk13⟩
              have hxk13 := Ext.trans (w := (wr.alloc (.cells #[.int .i64 x1, .int .i64 x2] 54))) (by repeat (first | with_reducible assumption | with_reducible exact Ext.refl _ | with_reducible apply Ext.alloc | with_reducible apply Ext.drew | with_reducible apply Ext.drewN)) hbk13
              refine hKK.out _ _ ?_ (fun hHeld => ?_)
              · exact hS _ (by repeat (first | with_reducible assumption | with_reducible exact Ext.refl _ | with_reducible apply Ext.alloc | with_reducible apply Ext.drew | with_reducible apply Ext.drewN))
              clear hKK KK
              try simp only [Act.put, List.setIfInBounds_toArray, List.set_cons_zero, List.set_cons_succ]
              refine' wpAnyL_take (i := 14) (v := _) ?hi14 (by kernel_rfl) (by kernel_rfl) (by kernel_rfl) [15] (by kernel_rfl) ?hQ14 ?hy14 (by assumption) ?_
              case hi14 => (simp only [List.getElem?_toArray, List.getElem?_cons_succ, List.getElem?_cons_zero]; rfl)
              case hy14 => refine Or.inl ⟨by rfl, ?_⟩; intro w hSw; (try dsimp only at hSw); go_simp <;> with_reducible rfl
              case hQ14 => exact fun _ _ _ h => h
              try simp only [Act.put, List.setIfInBounds_toArray, List.set_cons_zero, List.set_cons_succ]
              refine wpAnyL_ready (rs := [15]) (by kernel_rfl) (by simp) ?_
              refine AllReadyL.last rfl (by kernel_rfl) (fun KK hKK => ?_) ?_
              · obtain ⟨ff0, ff1⟩ := HFx.out _ hxk13
                obtain ⟨c0, c1, c2, c3, c4, c5, c6⟩ := hS _ hxk13
                go_simp
                refine hKK.out _ _ ?_
                clear hKK KK
                try simp only [Act.put, List.setIfInBounds_toArray, List.set_cons_zero, List.set_cons_succ]
                refine wpAny_done (by kernel_rfl) ?_ _
                go_wp2
                go_roundw
                case rel => exact ⟨j + 1, by omega, by go_num, by have h9 := HFin.out _ hxk13; rw [HS.out]; exact h9⟩
                case measure => simp [intOf]; omega
              exact AllReadyL.nil
            exact AllReadyL.nil
          exact AllReadyL.nil
        exact AllReadyL.nil
      exact AllReadyL.nil
    · obtain rfl : j = l.length := by omega
      rw [List.take_length] at B2
      have CC := B2.cells
      have FF := B1.frozen
      have C1 := B1.cells
      go_wp2
      refine ret_ci (a := (emF p l).1) (b := (emF p l).2) ((B1.set_ 0 (.int .i64 (emF p l).1)).set_ 1 (.int .i64 (emF p l).2)) rfl rfl ?_
      exact ⟨rfl, E.then (below_two (g := w.heap.size + 1) _ _ _) (by omega)⟩
theorem emF_pair {p q x y u v : Int} (hx : 0 ≤ x ∧ x < p) (hy : 0 ≤ y ∧ y < p) : emF p [(x, y), (u, v)] = (gmul p [x, u], gmul p [y, v]) := by
  simp only [emF, List.foldl_cons, List.foldl_nil, emStep]
  rw [gmul_id hx.1 hx.2, gmul_id hy.1 hy.2]
set_option maxHeartbeats 1000000 in
theorem nDot_any (A B : Option Addr) (n c d : Nat) (a b : List Int) (m : Int) (w : World) (ha : RdI w A a) (hb : RdI w B b) (hl : a.length = n) (hl2 : b.length = n) (hn : n ≤ 1000000) (hm : 2 ≤ m) (hm2 : m ≤ 2000000000)
    (hx : ∀ x ∈ a, 0 ≤ x ∧ x ≤ m - 1) (hy : ∀ x ∈ b, 0 ≤ x ∧ x ≤ m - 1) :
    Calls Tryz.prog 50 #[.slice A n c, .slice B n d, .int .i64 m] w fun e w' => e = .returned (.int .i64 (dotV a b m n)) ∧ w = w' := by
  subst hl
  have HX := Lib.hid hx
  have HY := Lib.hid hy
  have h0 : (m == 0) = false := by simp; omega
  have HL := Lib.hid hl2
  clear hx hy
  go_enter Tryz.func50, Tryz.ntmps50
  go_wp2
  go_loop [7, 12] (fun o i => ∃ (j : Nat) (s : Int), j ≤ a.length ∧ i = .int .i64 j ∧ o = .int .i64 s ∧ 0 ≤ s ∧ s < m ∧ Hid (s = dotV a b m j)) (fun _ i => a.length - (intOf i).toNat)
  case atStart => exact ⟨0, 0, Nat.zero_le _, rfl, rfl, by omega, by omega, rfl⟩
  case round =>
    obtain ⟨j, s, hj, rfl, rfl, hs1, hs2, HS⟩ := hrel
    by_cases hlt : j < a.length
    · have hlt' : j < b.length := by rw [hl2]; exact hlt
      obtain ⟨ad, rfl, hca⟩ := ha.at_ hlt
      obtain ⟨bd, rfl, hcb⟩ := hb.at_ hlt'
      have hx := HX.out _ (List.getElem_mem hlt)
      have hy := HY.out _ (List.getElem_mem hlt')
      have H1 := Lib.hid (dotV_succ a b m hlt hlt')
      generalize a[j] = x at *
      generalize b[j] = y at *
      have hxy : 0 ≤ x * y ∧ x * y ≤ 4000000000000000000 := ⟨Int.mul_nonneg hx.1 hy.1, by have := Int.mul_le_mul (show x ≤ 2000000000 by omega) (show y ≤ 2000000000 by omega) hy.1 (by omega); omega⟩
      have hq := Int.emod_lt_of_pos (s + x * y) (show 0 < m by omega)
      have hq2 := Int.emod_nonneg (s + x * y) (show m ≠ 0 by omega)
      go_wp2
      go_round
      case rel => exact ⟨j + 1, (s + x * y) % m, by omega, by go_num, rfl, hq2, hq, by rw [Hid, H1.out, ← HS.out, mod_in]⟩
      case measure => simp [intOf]; omega
    · obtain rfl : j = a.length := by omega
      go_wp2
      go_ret
      exact ⟨ret_int HS.out, rfl⟩
set_option maxHeartbeats 1000000 in
theorem nSum_any (A : Option Addr) (n c : Nat) (l : List Int) (m : Int) (w : World) (ha : RdI w A l) (hl : l.length = n) (hn : n ≤ 1000000) (hm : 2 ≤ m) (hm2 : m ≤ 2000000000) (hx : ∀ x ∈ l, 0 ≤ x ∧ x ≤ m - 1) :
    Calls Tryz.prog 49 #[.slice A n c, .int .i64 m] w fun e w' => e = .returned (.int .i64 (sumV l m n)) ∧ w = w' := by
  subst hl
  have HX := Lib.hid hx
  have h0 : (m == 0) = false := by simp; omega
  clear hx
  go_enter Tryz.func49, Tryz.ntmps49
  go_wp2
  go_loop [5, 10] (fun o i => ∃ (j : Nat) (s : Int), j ≤ l.length ∧ i = .int .i64 j ∧ o = .int .i64 s ∧ 0 ≤ s ∧ s < m ∧ Hid (s = sumV l m j)) (fun _ i => l.length - (intOf i).toNat)
  case atStart => exact ⟨0, 0, Nat.zero_le _, rfl, rfl, by omega, by omega, rfl⟩
  case round =>
    obtain ⟨j, s, hj, rfl, rfl, hs1, hs2, HS⟩ := hrel
    by_cases hlt : j < l.length
    · obtain ⟨ad, rfl, hc⟩ := ha.at_ hlt
      have hx := HX.out _ (List.getElem_mem hlt)
      have H1 := Lib.hid (sumV_succ l m hlt)
      generalize l[j] = x at *
      have hb := Int.emod_lt_of_pos (s + x) (show 0 < m by omega)
      have hb2 := Int.emod_nonneg (s + x) (show m ≠ 0 by omega)
      go_wp2
      go_round
      case rel => exact ⟨j + 1, (s + x) % m, by omega, by go_num, rfl, hb2, hb, by rw [Hid, H1.out, HS.out]⟩
      case measure => simp [intOf]; omega
    · obtain rfl : j = l.length := by omega
      go_wp2
      go_ret
      exact ⟨ret_int HS.out, rfl⟩
/-- Where a slice begins behind its first k elements. -/
def tkA (a : Addr) (c k : Nat) : Addr := if c = k then a else a.add k
theorem take_any (gk : Nat) (a : Addr) (n c k : Nat) (w : World) (hB : Blk w gk 90 #[.slice (some a) n c]) (hk : k ≤ n) (hn : n ≤ c) (hc : c ≤ maxLen) :
    Calls Tryz.prog 58 #[.pointer (some ⟨gk, 0, none⟩), .int .i64 k] w fun e w' => e = .returned (.slice (some a) k c) ∧ Blk w' gk 90 #[.slice (some (tkA a c k)) (n - k) (c - k)] ∧ Only [gk] w w' := by
  unfold maxLen at hc
  have C := hB.cells
  have F := hB.frozen
  have h1 : (k : Int) ≤ (n : Int) := by omega
  have h2 : (k : Int) ≤ (c : Int) := by omega
  have h3 : k ≤ c := by omega
  by_cases h : c = k
  · subst h
    have h5 : n = c := by omega
    subst h5
    go_enter Tryz.func58, Tryz.ntmps58
    go_wp2
    go_ret
    refine ⟨rfl, ?_, ?_⟩
    · have h9 := hB.set_ 0 (.slice (some a) (n - n) (n - n))
      rw [show tkA a n n = a from if_pos rfl]
      simpa using h9
    · exact (Only.refl _ _).setCell (by simp) _
  · go_enter Tryz.func58, Tryz.ntmps58
    go_wp2
    go_ret
    refine ⟨rfl, ?_, ?_⟩
    · have h9 := hB.set_ 0 (.slice (some (a.add k)) (n - k) (c - k))
      rw [show tkA a c k = a.add k from if_neg h]
      simpa using h9
    · exact (Only.refl _ _).setCell (by simp) _
theorem one_any (gk : Nat) (a : Addr) (n c : Nat) (x : Int) (w : World) (hB : Blk w gk 90 #[.slice (some a) n c]) (h1 : 1 ≤ n) (hn : n ≤ c) (hc : c ≤ maxLen) (hx : w.cell? a = some (.int .i64 x)) :
    Calls Tryz.prog 59 #[.pointer (some ⟨gk, 0, none⟩)] w fun e w' => e = .returned (.int .i64 x) ∧ Blk w' gk 90 #[.slice (some (tkA a c 1)) (n - 1) (c - 1)] ∧ Only [gk] w w' := by
  have hne : a.block ≠ gk := by
    intro e
    unfold Blk at hB
    simp only [World.cell?, e, hB] at hx
    split at hx
    · cases hx
    · match a.off, hx with
      | 0, hx => simp at hx
      | o + 1, hx => simp at hx
  go_enter Tryz.func59, Tryz.ntmps59
  go_wp2_with fail
  refine (take_any gk a n c 1 _ hB h1 hn hc).mono ?_
  rintro en w1 ⟨rfl, hB1, ho⟩
  have hx1 := ho.cellK hx (by simpa using hne)
  have hb1 : (0 : Int) < 1 := by omega
  go_wp2
  go_ret
  exact ⟨rfl, hB1, ho⟩
set_option maxRecDepth 100000 in
set_option maxHeartbeats 4000000 in
theorem eRe_any (p q g key a b r : Int) (w : World) (h : GrpB p q) (hg : 0 ≤ g ∧ g ≤ 3000000000) (hk : 0 ≤ key ∧ key ≤ 3000000000) (ha2 : 0 ≤ a ∧ a < p) (hb2 : 0 ≤ b ∧ b < p) (hr : -9000000000000000000 ≤ r ∧ r ≤ 9000000000000000000) :
    Calls Tryz.prog 81 #[.agg #[.int .i64 p, .int .i64 q, .int .i64 g], .int .i64 key, .agg #[.int .i64 a, .int .i64 b], .int .i64 r] w fun e w' => e = .returned (.agg #[.int .i64 (gmul p [a, gencA p q g r]), .int .i64 (gmul p [b, gencB p q key 1 r])]) ∧ Ext w w' := by
  have hp9 : p ≤ 2000000000 := h.2
  have x1 : 0 ≤ gencA p q g r ∧ gencA p q g r ≤ 2000000000 := gpw_rg p q g r h
  have x2 : 0 ≤ gencB p q key 1 r ∧ gencB p q key 1 r ≤ 2000000000 := gmul2_rg h (by omega) (gpw_rg p q key r h).1
  have HTW : Hid (∀ x ∈ [(a, b), (gencA p q g r, gencB p q key 1 r)], (0 ≤ x.1 ∧ x.1 ≤ 3000000000) ∧ 0 ≤ x.2 ∧ x.2 ≤ 3000000000) := fun x hx => by
    simp only [List.mem_cons, List.not_mem_nil, or_false] at hx
    rcases hx with rfl | rfl
    · exact ⟨⟨by omega, by omega⟩, by omega, by omega⟩
    · exact ⟨⟨by omega, by omega⟩, by omega, by omega⟩
  have E := ((((Ext.refl w).alloc (.cells #[.int .i64 p, .int .i64 q, .int .i64 g] 33)).alloc (.cells #[.int .i64 a, .int .i64 b] 54)).alloc (.cells #[.int .i64 0, .int .i64 0] 54))
  have B0 := (((Blk.new w 33 #[.int .i64 p, .int .i64 q, .int .i64 g]).alloc (.cells #[.int .i64 a, .int .i64 b] 54)).alloc (.cells #[.int .i64 0, .int .i64 0] 54))
  have B1 := ((Blk.new (w.alloc (.cells #[.int .i64 p, .int .i64 q, .int .i64 g] 33)) 54 #[.int .i64 a, .int .i64 b]).alloc (.cells #[.int .i64 0, .int .i64 0] 54))
  have B2 := (Blk.new ((w.alloc (.cells #[.int .i64 p, .int .i64 q, .int .i64 g] 33)).alloc (.cells #[.int .i64 a, .int .i64 b] 54)) 54 #[.int .i64 0, .int .i64 0])
  simp only [World.size_alloc] at B1 B2
  go_enter Tryz.func81, Tryz.ntmps81
  go_upto_region 1 with (fail)
  generalize hWb : (((w.alloc (.cells #[.int .i64 p, .int .i64 q, .int .i64 g] 33)).alloc (.cells #[.int .i64 a, .int .i64 b] 54)).alloc (.cells #[.int .i64 0, .int .i64 0] 54)) = Wb at *
  clear hWb
  have hS : ∀ V, Ext Wb V → V.cell? ⟨w.heap.size, 0, none⟩ = some (.int .i64 p) ∧ V.cell? ⟨w.heap.size, 1, none⟩ = some (.int .i64 q) ∧ V.cell? ⟨w.heap.size, 2, none⟩ = some (.int .i64 g) ∧ V.cell? ⟨w.heap.size + 1, 0, none⟩ = some (.int .i64 a) ∧ V.cell? ⟨w.heap.size + 1, 1, none⟩ = some (.int .i64 b) := fun V hV => by
    have a0 := (B0.ext hV).cells
    have a1 := (B1.ext hV).cells
    exact ⟨a0 0, a0 1, a0 2, a1 0, a1 1⟩
  refine wp_region_heldL (S := fun V => V.cell? ⟨w.heap.size, 0, none⟩ = some (.int .i64 p) ∧ V.cell? ⟨w.heap.size, 1, none⟩ = some (.int .i64 q) ∧ V.cell? ⟨w.heap.size, 2, none⟩ = some (.int .i64 g) ∧ V.cell? ⟨w.heap.size + 1, 0, none⟩ = some (.int .i64 a) ∧ V.cell? ⟨w.heap.size + 1, 1, none⟩ = some (.int .i64 b)) 8 (by kernel_rfl) ?_ (fun hHeld => ?_)
  · exact hS _ (by repeat (first | with_reducible assumption | with_reducible exact Ext.refl _ | with_reducible apply Ext.alloc | with_reducible apply Ext.drew | with_reducible apply Ext.drewN))
  refine' wpAnyL_take (i := 0) (v := _) ?hi0 (by kernel_rfl) (by kernel_rfl) (by kernel_rfl) [8] (by kernel_rfl) ?hQ0 ?hy0 (by assumption) ?_
  case hi0 => (simp only [List.getElem?_toArray, List.getElem?_cons_zero]; rfl)
  case hy0 => refine Or.inl ⟨by rfl, ?_⟩; intro w hSw; (try dsimp only at hSw); go_simp <;> with_reducible rfl
  case hQ0 => exact fun _ _ _ h => h
  try simp only [Act.put, List.setIfInBounds_toArray, List.set_cons_zero, List.set_cons_succ]
  refine' wpAnyL_take (i := 1) (v := _) ?hi1 (by kernel_rfl) (by kernel_rfl) (by kernel_rfl) [8] (by kernel_rfl) ?hQ1 ?hy1 (by assumption) ?_
  case hi1 => (simp only [List.getElem?_toArray, List.getElem?_cons_succ, List.getElem?_cons_zero]; rfl)
  case hy1 => refine Or.inl ⟨by rfl, ?_⟩; intro w hSw; (try dsimp only at hSw); go_simp <;> with_reducible rfl
  case hQ1 => exact fun _ _ _ h => h
  try simp only [Act.put, List.setIfInBounds_toArray, List.set_cons_zero, List.set_cons_succ]
  refine' wpAnyL_take (i := 2) (v := _) ?hi2 (by kernel_rfl) (by kernel_rfl) (by kernel_rfl) [8] (by kernel_rfl) ?hQ2 ?hy2 (by assumption) ?_
  case hi2 => (simp only [List.getElem?_toArray, List.getElem?_cons_succ, List.getElem?_cons_zero]; rfl)
  case hy2 => refine Or.inl ⟨by rfl, ?_⟩; intro w hSw; (try dsimp only at hSw); go_simp <;> with_reducible rfl
  case hQ2 => exact fun _ _ _ h => h
  try simp only [Act.put, List.setIfInBounds_toArray, List.set_cons_zero, List.set_cons_succ]
  refine' wpAnyL_take (i := 3) (v := _) ?hi3 (by kernel_rfl) (by kernel_rfl) (by kernel_rfl) [8] (by kernel_rfl) ?hQ3 ?hy3 (by assumption) ?_
  case hi3 => (simp only [List.getElem?_toArray, List.getElem?_cons_succ, List.getElem?_cons_zero]; rfl)
  case hy3 => refine Or.inl ⟨by rfl, ?_⟩; intro w hSw; (try dsimp only at hSw); go_simp <;> with_reducible rfl
  case hQ3 => exact fun _ _ _ h => h
  try simp only [Act.put, List.setIfInBounds_toArray, List.set_cons_zero, List.set_cons_succ]
  refine' wpAnyL_take (i := 4) (v := _) ?hi4 (by kernel_rfl) (by kernel_rfl) (by kernel_rfl) [8] (by kernel_rfl) ?hQ4 ?hy4 (by assumption) ?_
  case hi4 => (simp only [List.getElem?_toArray, List.getElem?_cons_succ, List.getElem?_cons_zero]; rfl)
  case hy4 => refine Or.inl ⟨by rfl, ?_⟩; intro w hSw; (try dsimp only at hSw); go_simp <;> with_reducible rfl
  case hQ4 => exact fun _ _ _ h => h
  try simp only [Act.put, List.setIfInBounds_toArray, List.set_cons_zero, List.set_cons_succ]
  refine wpAnyL_ready (rs := [5]) (by kernel_rfl) (by simp) ?_
  refine AllReadyL.cons rfl (by kernel_rfl) (fun KK hKK => ?_) ?_
  · go_simp
    go_at_call 103
    refine (eEnc_any p q g key 1 r _ h hg hk (by omega) hr).mono ?_
    rintro ek wk5 ⟨rfl, hbk5⟩
    have hxk5 := Ext.trans (w := Wb) (by repeat (first | with_reducible assumption | with_reducible exact Ext.refl _ | with_reducible apply Ext.alloc | with_reducible apply Ext.drew | with_reducible apply Ext.drewN)) hbk5
    refine hKK.out _ _ ?_ (fun hHeld => ?_)
    · exact hS _ (by repeat (first | with_reducible assumption | with_reducible exact Ext.refl _ | with_reducible apply Ext.alloc | with_reducible apply Ext.drew | with_reducible apply Ext.drewN))
    clear hKK KK
    try simp only [Act.put, List.setIfInBounds_toArray, List.set_cons_zero, List.set_cons_succ]
    refine wpAnyL_ready (rs := [6]) (by kernel_rfl) (by simp) ?_
    refine AllReadyL.cons rfl (by kernel_rfl) (fun KK hKK => ?_) ?_
    · go_simp
      refine hKK.out _ _ ?_ (fun hHeld => ?_)
      · exact hS _ (by repeat (first | with_reducible assumption | with_reducible exact Ext.refl _ | with_reducible apply Ext.alloc | with_reducible apply Ext.drew | with_reducible apply Ext.drewN))
      clear hKK KK
      try simp only [Act.put, List.setIfInBounds_toArray, List.set_cons_zero, List.set_cons_succ]
      refine wpAnyL_ready (rs := [7]) (by kernel_rfl) (by simp) ?_
      refine AllReadyL.cons rfl (by kernel_rfl) (fun KK hKK => ?_) ?_
      · go_simp
        go_at_call 102
        refine (eMul_any p q g _ 2 2 [(a, b), (gencA p q g r, gencB p q key 1 r)] _ h ((rdC_two (w := wk5) rfl).ext (by repeat (first | with_reducible assumption | with_reducible exact Ext.refl _ | with_reducible apply Ext.alloc | with_reducible apply Ext.drew | with_reducible apply Ext.drewN))) rfl (by decide) HTW.out).mono ?_
        rw [emF_pair (q := q) ha2 hb2]
        rintro ek wk7 ⟨rfl, hbk7⟩
        have hxk7 := Ext.trans (w := Wb) (Ext.trans hxk5 (by repeat (first | with_reducible assumption | with_reducible exact Ext.refl _ | with_reducible apply Ext.alloc | with_reducible apply Ext.drew | with_reducible apply Ext.drewN))) hbk7
        refine hKK.out _ _ ?_ (fun hHeld => ?_)
        · exact hS _ (by repeat (first | with_reducible assumption | with_reducible exact Ext.refl _ | with_reducible apply Ext.alloc | with_reducible apply Ext.drew | with_reducible apply Ext.drewN))
        clear hKK KK
        try simp only [Act.put, List.setIfInBounds_toArray, List.set_cons_zero, List.set_cons_succ]
        refine wpAnyL_ready (rs := [8]) (by kernel_rfl) (by simp) ?_
        refine AllReadyL.last rfl (by kernel_rfl) (fun KK hKK => ?_) ?_
        · have BX := B2.ext hxk7
          have FN := BX.frozen
          have CN := BX.cells
          go_simp
          refine hKK.out _ _ ?_
          clear hKK KK
          try simp only [Act.put, List.setIfInBounds_toArray, List.set_cons_zero, List.set_cons_succ]
          refine wpAny_done (by kernel_rfl) ?_ _
          go_wp2
          refine ret_ci (a := gmul p [a, gencA p q g r]) (b := gmul p [b, gencB p q key 1 r]) ((BX.set_ 0 (.int .i64 (gmul p [a, gencA p q g r]))).set_ 1 (.int .i64 (gmul p [b, gencB p q key 1 r]))) rfl rfl ?_
          exact ⟨rfl, (E.trans hxk7).only1 (by omega) (only_two _ _ _ _ _ _)⟩
        exact AllReadyL.nil
      exact AllReadyL.nil
    exact AllReadyL.nil
  exact AllReadyL.nil
theorem cell_newE {w V : World} {cs : Array Value} {t : TypeId} {g i : Nat} {u : Value} (hg : g = w.heap.size) (hu : cs[i]? = some u) (hE : Ext (w.alloc (.cells cs t)) V) : V.cell? ⟨g, i, none⟩ = some u := by
  subst hg
  exact hE.cell (((Blk.new w t cs).cells i).trans hu)
set_option maxRecDepth 100000 in
set_option maxHeartbeats 4000000 in
theorem mix_any (p q g key : Int) (A : Option Addr) (n c : Nat) (a : List (Int × Int)) (P : Option Addr) (m d : Nat) (perm : List Int) (R : Option Addr) (e : Nat) (rs : List Int) (w : World) (h : GrpB p q) (hg : 0 ≤ g ∧ g ≤ 3000000000) (hk : 0 ≤ key ∧ key ≤ 3000000000) (ha : RdC w A a) (hla : a.length = n) (hn : n ≤ 100) (ba : ∀ x ∈ a, (0 ≤ x.1 ∧ x.1 < p) ∧ 0 ≤ x.2 ∧ x.2 < p) (hp : RdI w P perm) (hlp : perm.length = m) (hm : m ≤ 100) (hR : allR perm 0 (n - 1) = true) (hr : RdI w R rs) (hlr : rs.length = m) (br : ∀ x ∈ rs, 0 ≤ x ∧ x ≤ 4000000000) :
    Calls Tryz.prog 60 #[.agg #[.int .i64 p, .int .i64 q, .int .i64 g], .int .i64 key, .slice A n c, .slice P m d, .slice R m e] w fun en w' => ∃ A' c', en = .returned (.slice A' m c') ∧ OwnC w' w.heap.size 54 A' m c' (pmO p q g key a perm rs m) ∧ Ext w w' := by
  have HA := Lib.hid hla
  have HP := Lib.hid hlp
  have HRL := Lib.hid hlr
  have BA := Lib.hid ba
  have BR := Lib.hid br
  have BP := Lib.hid (allR_iff.1 hR)
  have hp9 : p ≤ 2000000000 := h.2
  have E := (Ext.refl w).alloc (.cells #[.int .i64 p, .int .i64 q, .int .i64 g] 33)
  have B0 := Blk.new w 33 #[.int .i64 p, .int .i64 q, .int .i64 g]
  clear hla hlp hlr ba br hR
  go_enter Tryz.func60, Tryz.ntmps60
  go_upto_region 1 with (fail)
  generalize hWb : w.alloc (.cells #[.int .i64 p, .int .i64 q, .int .i64 g] 33) = Wb at *
  clear hWb
  have hw0 : w.heap.size ≤ Wb.heap.size := E.size
  have hO0 : OwnC (Wb.alloc (.cells #[] 54)) Wb.heap.size 54 (some ⟨Wb.heap.size, 0, none⟩) 0 0 [] := ownC_nil_lit (Nat.le_refl _)
  have hE0 := (Ext.refl Wb).alloc (.cells #[] 54)
  go_wp2
  go_loopw [11, 17] (fun o i wr => ∃ (j : Nat) (U : Option Addr) (uc : Nat), j ≤ m ∧ i = .int .i64 j ∧ o = .slice U j uc ∧ OwnC wr Wb.heap.size 54 U j uc (pmO p q g key a perm rs j) ∧ Ext Wb wr) (fun _ i _ => m - (intOf i).toNat)
  case atStart => exact ⟨0, _, 0, Nat.zero_le _, rfl, rfl, hO0, hE0⟩
  case round =>
    obtain ⟨j, U, uc, hj, rfl, rfl, hO, E2⟩ := hrel
    clear hO0 hE0
    by_cases hlt : j < m
    · have hjp : j < perm.length := by rw [HP.out]; exact hlt
      have hjr : j < rs.length := by rw [HRL.out]; exact hlt
      obtain ⟨pd, hPA, hpc⟩ := (hp.ext E).at_ hjp
      subst hPA
      obtain ⟨rd, hRA, hrc⟩ := (hr.ext E).at_ hjr
      subst hRA
      have hpk := BP.out _ (List.getElem_mem hjp)
      obtain ⟨K, hK⟩ : ∃ K : Nat, perm[j] = (K : Int) := ⟨perm[j].toNat, by omega⟩
      have hKa : K < a.length := by rw [HA.out]; omega
      obtain ⟨ad, hAA, hc1, hc2⟩ := (ha.ext E).at_ hKa
      subst hAA
      have hb9 := BA.out _ (List.getElem_mem hKa)
      have hrb := BR.out _ (List.getElem_mem hjr)
      have HST : Hid (pmO p q g key a perm rs (j + 1) = pmO p q g key a perm rs j ++ [(gmul p [a[K].1, gencA p q g rs[j]], gmul p [a[K].2, gencB p q key 1 rs[j]])]) := by
        show _ = _
        rw [pmO_succ]
        unfold pmM pmC
        rw [getD_lt hjp, getD_lt hjr, hK, Int.toNat_natCast, List.getD_eq_getElem?_getD, List.getElem?_eq_getElem hKa]
        rfl
      rw [hK] at hpc
      generalize a[K] = xx at *
      obtain ⟨x1, x2⟩ := xx
      generalize rs[j] = r1 at *
      have hKn : (K : Int) < (n : Int) := by have := HA.out; omega
      have hK0 : (0 : Int) ≤ (K : Int) := by omega
      have hjm : (j : Int) < (m : Int) := by omega
      have hj0 : (0 : Int) ≤ (j : Int) := by omega
      clear hK hKa hjp hjr hpk
      have hpc2 := E2.cell hpc
      simp only at hc1 hc2 hb9 HST
      have hS : ∀ V, Ext Wb V → V.cell? ⟨w.heap.size, 0, none⟩ = some (.int .i64 p) ∧ V.cell? ⟨w.heap.size, 1, none⟩ = some (.int .i64 q) ∧ V.cell? ⟨w.heap.size, 2, none⟩ = some (.int .i64 g) ∧ V.cell? (ad.add (K * 2)) = some (.int .i64 x1) ∧ V.cell? ⟨(ad.add (K * 2)).block, (ad.add (K * 2)).off + 1, none⟩ = some (.int .i64 x2) ∧ V.cell? (rd.add j) = some (.int .i64 r1) := fun V hV => by
        have a0 := (B0.ext hV).cells
        exact ⟨a0 0, a0 1, a0 2, hV.cell hc1, hV.cell hc2, hV.cell hrc⟩
      go_upto_region 5 with (fail)
      refine wp_region_held_drew (S := fun V => V.cell? ⟨w.heap.size, 0, none⟩ = some (.int .i64 p) ∧ V.cell? ⟨w.heap.size, 1, none⟩ = some (.int .i64 q) ∧ V.cell? ⟨w.heap.size, 2, none⟩ = some (.int .i64 g) ∧ V.cell? (ad.add (K * 2)) = some (.int .i64 x1) ∧ V.cell? ⟨(ad.add (K * 2)).block, (ad.add (K * 2)).off + 1, none⟩ = some (.int .i64 x2) ∧ V.cell? (rd.add j) = some (.int .i64 r1)) (by kernel_rfl) ?_ (fun hHeld => ?_)
      · exact hS _ (by repeat (first | with_reducible assumption | with_reducible exact Ext.refl _ | with_reducible apply Ext.alloc | with_reducible apply Ext.drew | with_reducible apply Ext.drewN))
      refine' wpAnyH_take (i := 0) (v := _) ?hi0 (by kernel_rfl) (by kernel_rfl) (by kernel_rfl) ?hQ0 ?hy0 (by assumption) ?_
      case hi0 => (simp only [List.getElem?_toArray, List.getElem?_cons_zero]; rfl)
      case hy0 => refine Or.inl ⟨by rfl, ?_⟩; intro w hSw; (try dsimp only at hSw); go_simp <;> with_reducible rfl
      case hQ0 => exact fun _ _ _ h => h
      try simp only [Act.put, List.setIfInBounds_toArray, List.set_cons_zero, List.set_cons_succ]
      refine' wpAnyH_take (i := 1) (v := _) ?hi1 (by kernel_rfl) (by kernel_rfl) (by kernel_rfl) ?hQ1 ?hy1 (by assumption) ?_
      case hi1 => (simp only [List.getElem?_toArray, List.getElem?_cons_succ, List.getElem?_cons_zero]; rfl)
      case hy1 => refine Or.inl ⟨by rfl, ?_⟩; intro w hSw; (try dsimp only at hSw); go_simp <;> with_reducible rfl
      case hQ1 => exact fun _ _ _ h => h
      try simp only [Act.put, List.setIfInBounds_toArray, List.set_cons_zero, List.set_cons_succ]
      refine' wpAnyH_take (i := 2) (v := _) ?hi2 (by kernel_rfl) (by kernel_rfl) (by kernel_rfl) ?hQ2 ?hy2 (by assumption) ?_
      case hi2 => (simp only [List.getElem?_toArray, List.getElem?_cons_succ, List.getElem?_cons_zero]; rfl)
      case hy2 => refine Or.inl ⟨by rfl, ?_⟩; intro w hSw; (try dsimp only at hSw); go_simp <;> with_reducible rfl
      case hQ2 => exact fun _ _ _ h => h
      try simp only [Act.put, List.setIfInBounds_toArray, List.set_cons_zero, List.set_cons_succ]
      refine' wpAnyH_take (i := 3) (v := _) ?hi3 (by kernel_rfl) (by kernel_rfl) (by kernel_rfl) ?hQ3 ?hy3 (by assumption) ?_
      case hi3 => (simp only [List.getElem?_toArray, List.getElem?_cons_succ, List.getElem?_cons_zero]; rfl)
      case hy3 => refine Or.inl ⟨by rfl, ?_⟩; intro w hSw; (try dsimp only at hSw); go_simp <;> with_reducible rfl
      case hQ3 => exact fun _ _ _ h => h
      try simp only [Act.put, List.setIfInBounds_toArray, List.set_cons_zero, List.set_cons_succ]
      refine' wpAnyH_take (i := 4) (v := _) ?hi4 (by kernel_rfl) (by kernel_rfl) (by kernel_rfl) ?hQ4 ?hy4 (by assumption) ?_
      case hi4 => (simp only [List.getElem?_toArray, List.getElem?_cons_succ, List.getElem?_cons_zero]; rfl)
      case hy4 => refine Or.inl ⟨by rfl, ?_⟩; intro w hSw; (try dsimp only at hSw); go_simp <;> with_reducible rfl
      case hQ4 => exact fun _ _ _ h => h
      try simp only [Act.put, List.setIfInBounds_toArray, List.set_cons_zero, List.set_cons_succ]
      refine' wpAnyH_take (i := 5) (v := _) ?hi5 (by kernel_rfl) (by kernel_rfl) (by kernel_rfl) ?hQ5 ?hy5 (by assumption) ?_
      case hi5 => (simp only [List.getElem?_toArray, List.getElem?_cons_succ, List.getElem?_cons_zero]; rfl)
      case hy5 => refine Or.inl ⟨by rfl, ?_⟩; intro w hSw; (try dsimp only at hSw); go_simp <;> with_reducible rfl
      case hQ5 => exact fun _ _ _ h => h
      try simp only [Act.put, List.setIfInBounds_toArray, List.set_cons_zero, List.set_cons_succ]
      refine' wpAnyH_take (i := 6) (v := _) ?hi6 (by kernel_rfl) (by kernel_rfl) (by kernel_rfl) ?hQ6 ?hy6 (by assumption) ?_
      case hi6 => (simp only [List.getElem?_toArray, List.getElem?_cons_succ, List.getElem?_cons_zero]; rfl)
      case hy6 => refine Or.inl ⟨by rfl, ?_⟩; intro w hSw; (try dsimp only at hSw); go_simp <;> with_reducible rfl
      case hQ6 => exact fun _ _ _ h => h
      try simp only [Act.put, List.setIfInBounds_toArray, List.set_cons_zero, List.set_cons_succ]
      refine' wpAnyH_take (i := 7) (v := _) ?hi7 (by kernel_rfl) (by kernel_rfl) (by kernel_rfl) ?hQ7 ?hy7 (by assumption) ?_
      case hi7 => (simp only [List.getElem?_toArray, List.getElem?_cons_succ, List.getElem?_cons_zero]; rfl)
      case hy7 => refine Or.inl ⟨by rfl, ?_⟩; intro w hSw; (try dsimp only at hSw); go_simp <;> with_reducible rfl
      case hQ7 => exact fun _ _ _ h => h
      try simp only [Act.put, List.setIfInBounds_toArray, List.set_cons_zero, List.set_cons_succ]
      refine' wpAnyH_take (i := 8) (v := _) ?hi8 (by kernel_rfl) (by kernel_rfl) (by kernel_rfl) ?hQ8 ?hy8 (by assumption) ?_
      case hi8 => (simp only [List.getElem?_toArray, List.getElem?_cons_succ, List.getElem?_cons_zero]; rfl)
      case hy8 => refine Or.inl ⟨by rfl, ?_⟩; intro w hSw; (try dsimp only at hSw); go_simp <;> with_reducible rfl
      case hQ8 => exact fun _ _ _ h => h
      try simp only [Act.put, List.setIfInBounds_toArray, List.set_cons_zero, List.set_cons_succ]
      refine' wpAnyH_take (i := 9) (v := _) ?hi9 (by kernel_rfl) (by kernel_rfl) (by kernel_rfl) ?hQ9 ?hy9 (by assumption) ?_
      case hi9 => (simp only [List.getElem?_toArray, List.getElem?_cons_succ, List.getElem?_cons_zero]; rfl)
      case hy9 => refine Or.inl ⟨by rfl, ?_⟩; intro w hSw; (try dsimp only at hSw); go_simp <;> with_reducible rfl
      case hQ9 => exact fun _ _ _ h => h
      try simp only [Act.put, List.setIfInBounds_toArray, List.set_cons_zero, List.set_cons_succ]
      refine' wpAnyH_take (i := 10) (v := _) ?hi10 (by kernel_rfl) (by kernel_rfl) (by kernel_rfl) ?hQ10 ?hy10 (by assumption) ?_
      case hi10 => (simp only [List.getElem?_toArray, List.getElem?_cons_succ, List.getElem?_cons_zero]; rfl)
      case hy10 => refine Or.inl ⟨by rfl, ?_⟩; intro w hSw; (try dsimp only at hSw); go_simp <;> with_reducible rfl
      case hQ10 => exact fun _ _ _ h => h
      try simp only [Act.put, List.setIfInBounds_toArray, List.set_cons_zero, List.set_cons_succ]
      refine wpAnyH_ready (rs := [11]) (by kernel_rfl) (by simp) ?_
      refine AllReadyH.cons rfl (fun KK hKK => ?_) ?_
      · go_simp
        go_at_call 95
        refine (reencrypt_any p q g key x1 x2 r1 _ h hg hk (by omega) (by omega) (by omega)).mono ?_
        rintro ek wk11 ⟨rfl, hbk11⟩
        have hyk11 := Ext.trans (w := wr) (by repeat (first | with_reducible assumption | with_reducible exact Ext.refl _ | with_reducible apply Ext.alloc | with_reducible apply Ext.drew | with_reducible apply Ext.drewN)) hbk11
        have hxk11 := Ext.trans E2 hyk11
        refine hKK.out _ _ ?_ (fun hHeld => ?_)
        · exact hS _ (by repeat (first | with_reducible assumption | with_reducible exact Ext.refl _ | with_reducible apply Ext.alloc | with_reducible apply Ext.drew | with_reducible apply Ext.drewN))
        clear hKK KK
        try simp only [Act.put, List.setIfInBounds_toArray, List.set_cons_zero, List.set_cons_succ]
        refine wpAnyH_ready (rs := [12]) (by kernel_rfl) (by simp) ?_
        refine AllReadyH.cons rfl (fun KK hKK => ?_) ?_
        · go_simp
          refine hKK.out _ _ ?_ (fun hHeld => ?_)
          · exact hS _ (by repeat (first | with_reducible assumption | with_reducible exact Ext.refl _ | with_reducible apply Ext.alloc | with_reducible apply Ext.drew | with_reducible apply Ext.drewN))
          clear hKK KK
          try simp only [Act.put, List.setIfInBounds_toArray, List.set_cons_zero, List.set_cons_succ]
          refine wpAnyH_ready (rs := [13]) (by kernel_rfl) (by simp) ?_
          refine AllReadyH.cons rfl (fun KK hKK => ?_) ?_
          · refine step_app1C cipherSl (by rfl) _ _ (by rfl) (hO.ext (by repeat (first | with_reducible assumption | with_reducible exact Ext.refl _ | with_reducible apply Ext.alloc | with_reducible apply Ext.drew | with_reducible apply Ext.drewN))) (by rfl) _ (by rfl) (cell_newE (w := wk11) (i := 0) (cs := #[.int .i64 (gmul p [x1, gencA p q g r1]), .int .i64 (gmul p [x2, gencB p q key 1 r1])]) (by rfl) (by rfl) (by repeat (first | with_reducible assumption | with_reducible exact Ext.refl _ | with_reducible apply Ext.alloc | with_reducible apply Ext.drew | with_reducible apply Ext.drewN))) (cell_newE (w := wk11) (i := 1) (cs := #[.int .i64 (gmul p [x1, gencA p q g r1]), .int .i64 (gmul p [x2, gencB p q key 1 r1])]) (by rfl) (by rfl) (by repeat (first | with_reducible assumption | with_reducible exact Ext.refl _ | with_reducible apply Ext.alloc | with_reducible apply Ext.drew | with_reducible apply Ext.drewN))) (by omega) (Ext.size (w := Wb) (by repeat (first | with_reducible assumption | with_reducible exact Ext.refl _ | with_reducible apply Ext.alloc | with_reducible apply Ext.drew | with_reducible apply Ext.drewN))) ?_
            intro V3 d2 w3 hO3 hbl3
            have E3 := Ext.then (Ext.trans hxk11 (by repeat (first | with_reducible assumption | with_reducible exact Ext.refl _ | with_reducible apply Ext.alloc | with_reducible apply Ext.drew | with_reducible apply Ext.drewN))) hbl3 (Nat.le_refl _)
            refine hKK.out _ _ ?_ (fun hHeld => ?_)
            · exact hS _ (by repeat (first | with_reducible assumption | with_reducible exact Ext.refl _ | with_reducible apply Ext.alloc | with_reducible apply Ext.drew | with_reducible apply Ext.drewN))
            clear hKK KK
            try simp only [List.getElem_toArray, List.getElem_cons_succ, List.getElem_cons_zero]
            try simp only [Act.put, List.setIfInBounds_toArray, List.set_cons_zero, List.set_cons_succ]
            refine' wpAnyH_take (i := 14) (v := _) ?hi14 (by kernel_rfl) (by kernel_rfl) (by kernel_rfl) ?hQ14 ?hy14 (by assumption) ?_
            case hi14 => (simp only [List.getElem?_toArray, List.getElem?_cons_succ, List.getElem?_cons_zero]; rfl)
            case hy14 => refine Or.inl ⟨by rfl, ?_⟩; intro w hSw; (try dsimp only at hSw); go_simp <;> with_reducible rfl
            case hQ14 => exact fun _ _ _ h => h
            try simp only [Act.put, List.setIfInBounds_toArray, List.set_cons_zero, List.set_cons_succ]
            refine wpAnyH_done (by kernel_rfl) ?_ _
            go_wp2
            go_roundw
            case rel => exact ⟨j + 1, V3, d2, by omega, by go_num, rfl, by rw [HST.out]; exact hO3, E3⟩
            case measure => first | (simp [intOf]; done) | (simp [intOf]; omega)
          exact AllReadyH.nil
        exact AllReadyH.nil
      exact AllReadyH.nil
    · obtain rfl : m = j := by omega
      go_wp2
      go_ret
      exact ⟨_, _, rfl, hO.more hw0, E.trans E2⟩
set_option maxRecDepth 100000 in
set_option maxHeartbeats 4000000 in
theorem mMix_any (p q g key : Int) (A : Option Addr) (n c : Nat) (a : List (Int × Int)) (P : Option Addr) (m d : Nat) (perm : List Int) (R : Option Addr) (e : Nat) (rs : List Int) (w : World) (h : GrpB p q) (hg : 0 ≤ g ∧ g ≤ 3000000000) (hk : 0 ≤ key ∧ key ≤ 3000000000) (ha : RdC w A a) (hla : a.length = n) (hn : n ≤ 100) (ba : ∀ x ∈ a, (0 ≤ x.1 ∧ x.1 < p) ∧ 0 ≤ x.2 ∧ x.2 < p) (hp : RdI w P perm) (hlp : perm.length = m) (hm : m ≤ 100) (hR : allR perm 0 (n - 1) = true) (hr : RdI w R rs) (hlr : rs.length = m) (br : ∀ x ∈ rs, 0 ≤ x ∧ x ≤ 4000000000) :
    Calls Tryz.prog 40 #[.agg #[.int .i64 p, .int .i64 q, .int .i64 g], .int .i64 key, .slice A n c, .slice P m d, .slice R m e] w fun en w' => ∃ A' c', en = .returned (.slice A' m c') ∧ OwnC w' w.heap.size 54 A' m c' (pmO p q g key a perm rs m) ∧ Ext w w' := by
  have HA := Lib.hid hla
  have HP := Lib.hid hlp
  have HRL := Lib.hid hlr
  have BA := Lib.hid ba
  have BR := Lib.hid br
  have BP := Lib.hid (allR_iff.1 hR)
  have hp9 : p ≤ 2000000000 := h.2
  have E := (Ext.refl w).alloc (.cells #[.int .i64 p, .int .i64 q, .int .i64 g] 33)
  have B0 := Blk.new w 33 #[.int .i64 p, .int .i64 q, .int .i64 g]
  clear hla hlp hlr ba br hR
  go_enter Tryz.func40, Tryz.ntmps40
  go_upto_region 1 with (fail)
  generalize hWb : w.alloc (.cells #[.int .i64 p, .int .i64 q, .int .i64 g] 33) = Wb at *
  clear hWb
  have hw0 : w.heap.size ≤ Wb.heap.size := E.size
  have hO0 := OwnC.nil Wb Wb.heap.size 54
  have hE0 := Ext.refl Wb
  go_wp2
  go_loopw [11, 16] (fun o i wr => ∃ (j : Nat) (U : Option Addr) (uc : Nat), j ≤ m ∧ i = .int .i64 j ∧ o = .slice U j uc ∧ OwnC wr Wb.heap.size 54 U j uc (pmO p q g key a perm rs j) ∧ Ext Wb wr) (fun _ i _ => m - (intOf i).toNat)
  case atStart => exact ⟨0, none, 0, Nat.zero_le _, rfl, rfl, hO0, hE0⟩
  case round =>
    obtain ⟨j, U, uc, hj, rfl, rfl, hO, E2⟩ := hrel
    clear hO0 hE0
    by_cases hlt : j < m
    · have hjp : j < perm.length := by rw [HP.out]; exact hlt
      have hjr : j < rs.length := by rw [HRL.out]; exact hlt
      obtain ⟨pd, hPA, hpc⟩ := (hp.ext E).at_ hjp
      subst hPA
      obtain ⟨rd, hRA, hrc⟩ := (hr.ext E).at_ hjr
      subst hRA
      have hpk := BP.out _ (List.getElem_mem hjp)
      obtain ⟨K, hK⟩ : ∃ K : Nat, perm[j] = (K : Int) := ⟨perm[j].toNat, by omega⟩
      have hKa : K < a.length := by rw [HA.out]; omega
      obtain ⟨ad, hAA, hc1, hc2⟩ := (ha.ext E).at_ hKa
      subst hAA
      have hb9 := BA.out _ (List.getElem_mem hKa)
      have hrb := BR.out _ (List.getElem_mem hjr)
      have HST : Hid (pmO p q g key a perm rs (j + 1) = pmO p q g key a perm rs j ++ [(gmul p [a[K].1, gencA p q g rs[j]], gmul p [a[K].2, gencB p q key 1 rs[j]])]) := by
        show _ = _
        rw [pmO_succ]
        unfold pmM pmC
        rw [getD_lt hjp, getD_lt hjr, hK, Int.toNat_natCast, List.getD_eq_getElem?_getD, List.getElem?_eq_getElem hKa]
        rfl
      rw [hK] at hpc
      generalize a[K] = xx at *
      obtain ⟨x1, x2⟩ := xx
      generalize rs[j] = r1 at *
      have hKn : (K : Int) < (n : Int) := by have := HA.out; omega
      have hK0 : (0 : Int) ≤ (K : Int) := by omega
      have hjm : (j : Int) < (m : Int) := by omega
      have hj0 : (0 : Int) ≤ (j : Int) := by omega
      clear hK hKa hjp hjr hpk
      have hpc2 := E2.cell hpc
      simp only at hc1 hc2 hb9 HST
      have hS : ∀ V, Ext Wb V → V.cell? ⟨w.heap.size, 0, none⟩ = some (.int .i64 p) ∧ V.cell? ⟨w.heap.size, 1, none⟩ = some (.int .i64 q) ∧ V.cell? ⟨w.heap.size, 2, none⟩ = some (.int .i64 g) ∧ V.cell? (ad.add (K * 2)) = some (.int .i64 x1) ∧ V.cell? ⟨(ad.add (K * 2)).block, (ad.add (K * 2)).off + 1, none⟩ = some (.int .i64 x2) ∧ V.cell? (rd.add j) = some (.int .i64 r1) := fun V hV => by
        have a0 := (B0.ext hV).cells
        exact ⟨a0 0, a0 1, a0 2, hV.cell hc1, hV.cell hc2, hV.cell hrc⟩
      go_upto_region 5 with (fail)
      refine wp_region_held_drew (S := fun V => V.cell? ⟨w.heap.size, 0, none⟩ = some (.int .i64 p) ∧ V.cell? ⟨w.heap.size, 1, none⟩ = some (.int .i64 q) ∧ V.cell? ⟨w.heap.size, 2, none⟩ = some (.int .i64 g) ∧ V.cell? (ad.add (K * 2)) = some (.int .i64 x1) ∧ V.cell? ⟨(ad.add (K * 2)).block, (ad.add (K * 2)).off + 1, none⟩ = some (.int .i64 x2) ∧ V.cell? (rd.add j) = some (.int .i64 r1)) (by kernel_rfl) ?_ (fun hHeld => ?_)
      · exact hS _ (by repeat (first | with_reducible assumption | with_reducible exact Ext.refl _ | with_reducible apply Ext.alloc | with_reducible apply Ext.drew | with_reducible apply Ext.drewN))
      refine' wpAnyH_take (i := 0) (v := _) ?hi0 (by kernel_rfl) (by kernel_rfl) (by kernel_rfl) ?hQ0 ?hy0 (by assumption) ?_
      case hi0 => (simp only [List.getElem?_toArray, List.getElem?_cons_zero]; rfl)
      case hy0 => refine Or.inl ⟨by rfl, ?_⟩; intro w hSw; (try dsimp only at hSw); go_simp <;> with_reducible rfl
      case hQ0 => exact fun _ _ _ h => h
      try simp only [Act.put, List.setIfInBounds_toArray, List.set_cons_zero, List.set_cons_succ]
      refine' wpAnyH_take (i := 1) (v := _) ?hi1 (by kernel_rfl) (by kernel_rfl) (by kernel_rfl) ?hQ1 ?hy1 (by assumption) ?_
      case hi1 => (simp only [List.getElem?_toArray, List.getElem?_cons_succ, List.getElem?_cons_zero]; rfl)
      case hy1 => refine Or.inl ⟨by rfl, ?_⟩; intro w hSw; (try dsimp only at hSw); go_simp <;> with_reducible rfl
      case hQ1 => exact fun _ _ _ h => h
      try simp only [Act.put, List.setIfInBounds_toArray, List.set_cons_zero, List.set_cons_succ]
      refine' wpAnyH_take (i := 2) (v := _) ?hi2 (by kernel_rfl) (by kernel_rfl) (by kernel_rfl) ?hQ2 ?hy2 (by assumption) ?_
      case hi2 => (simp only [List.getElem?_toArray, List.getElem?_cons_succ, List.getElem?_cons_zero]; rfl)
      case hy2 => refine Or.inl ⟨by rfl, ?_⟩; intro w hSw; (try dsimp only at hSw); go_simp <;> with_reducible rfl
      case hQ2 => exact fun _ _ _ h => h
      try simp only [Act.put, List.setIfInBounds_toArray, List.set_cons_zero, List.set_cons_succ]
      refine' wpAnyH_take (i := 3) (v := _) ?hi3 (by kernel_rfl) (by kernel_rfl) (by kernel_rfl) ?hQ3 ?hy3 (by assumption) ?_
      case hi3 => (simp only [List.getElem?_toArray, List.getElem?_cons_succ, List.getElem?_cons_zero]; rfl)
      case hy3 => refine Or.inl ⟨by rfl, ?_⟩; intro w hSw; (try dsimp only at hSw); go_simp <;> with_reducible rfl
      case hQ3 => exact fun _ _ _ h => h
      try simp only [Act.put, List.setIfInBounds_toArray, List.set_cons_zero, List.set_cons_succ]
      refine' wpAnyH_take (i := 4) (v := _) ?hi4 (by kernel_rfl) (by kernel_rfl) (by kernel_rfl) ?hQ4 ?hy4 (by assumption) ?_
      case hi4 => (simp only [List.getElem?_toArray, List.getElem?_cons_succ, List.getElem?_cons_zero]; rfl)
      case hy4 => refine Or.inl ⟨by rfl, ?_⟩; intro w hSw; (try dsimp only at hSw); go_simp <;> with_reducible rfl
      case hQ4 => exact fun _ _ _ h => h
      try simp only [Act.put, List.setIfInBounds_toArray, List.set_cons_zero, List.set_cons_succ]
      refine' wpAnyH_take (i := 5) (v := _) ?hi5 (by kernel_rfl) (by kernel_rfl) (by kernel_rfl) ?hQ5 ?hy5 (by assumption) ?_
      case hi5 => (simp only [List.getElem?_toArray, List.getElem?_cons_succ, List.getElem?_cons_zero]; rfl)
      case hy5 => refine Or.inl ⟨by rfl, ?_⟩; intro w hSw; (try dsimp only at hSw); go_simp <;> with_reducible rfl
      case hQ5 => exact fun _ _ _ h => h
      try simp only [Act.put, List.setIfInBounds_toArray, List.set_cons_zero, List.set_cons_succ]
      refine' wpAnyH_take (i := 6) (v := _) ?hi6 (by kernel_rfl) (by kernel_rfl) (by kernel_rfl) ?hQ6 ?hy6 (by assumption) ?_
      case hi6 => (simp only [List.getElem?_toArray, List.getElem?_cons_succ, List.getElem?_cons_zero]; rfl)
      case hy6 => refine Or.inl ⟨by rfl, ?_⟩; intro w hSw; (try dsimp only at hSw); go_simp <;> with_reducible rfl
      case hQ6 => exact fun _ _ _ h => h
      try simp only [Act.put, List.setIfInBounds_toArray, List.set_cons_zero, List.set_cons_succ]
      refine' wpAnyH_take (i := 7) (v := _) ?hi7 (by kernel_rfl) (by kernel_rfl) (by kernel_rfl) ?hQ7 ?hy7 (by assumption) ?_
      case hi7 => (simp only [List.getElem?_toArray, List.getElem?_cons_succ, List.getElem?_cons_zero]; rfl)
      case hy7 => refine Or.inl ⟨by rfl, ?_⟩; intro w hSw; (try dsimp only at hSw); go_simp <;> with_reducible rfl
      case hQ7 => exact fun _ _ _ h => h
      try simp only [Act.put, List.setIfInBounds_toArray, List.set_cons_zero, List.set_cons_succ]
      refine' wpAnyH_take (i := 8) (v := _) ?hi8 (by kernel_rfl) (by kernel_rfl) (by kernel_rfl) ?hQ8 ?hy8 (by assumption) ?_
      case hi8 => (simp only [List.getElem?_toArray, List.getElem?_cons_succ, List.getElem?_cons_zero]; rfl)
      case hy8 => refine Or.inl ⟨by rfl, ?_⟩; intro w hSw; (try dsimp only at hSw); go_simp <;> with_reducible rfl
      case hQ8 => exact fun _ _ _ h => h
      try simp only [Act.put, List.setIfInBounds_toArray, List.set_cons_zero, List.set_cons_succ]
      refine' wpAnyH_take (i := 9) (v := _) ?hi9 (by kernel_rfl) (by kernel_rfl) (by kernel_rfl) ?hQ9 ?hy9 (by assumption) ?_
      case hi9 => (simp only [List.getElem?_toArray, List.getElem?_cons_succ, List.getElem?_cons_zero]; rfl)
      case hy9 => refine Or.inl ⟨by rfl, ?_⟩; intro w hSw; (try dsimp only at hSw); go_simp <;> with_reducible rfl
      case hQ9 => exact fun _ _ _ h => h
      try simp only [Act.put, List.setIfInBounds_toArray, List.set_cons_zero, List.set_cons_succ]
      refine' wpAnyH_take (i := 10) (v := _) ?hi10 (by kernel_rfl) (by kernel_rfl) (by kernel_rfl) ?hQ10 ?hy10 (by assumption) ?_
      case hi10 => (simp only [List.getElem?_toArray, List.getElem?_cons_succ, List.getElem?_cons_zero]; rfl)
      case hy10 => refine Or.inl ⟨by rfl, ?_⟩; intro w hSw; (try dsimp only at hSw); go_simp <;> with_reducible rfl
      case hQ10 => exact fun _ _ _ h => h
      try simp only [Act.put, List.setIfInBounds_toArray, List.set_cons_zero, List.set_cons_succ]
      refine wpAnyH_ready (rs := [11]) (by kernel_rfl) (by simp) ?_
      refine AllReadyH.cons rfl (fun KK hKK => ?_) ?_
      · go_simp
        go_at_call 81
        refine (eRe_any p q g key x1 x2 r1 _ h hg hk (by omega) (by omega) (by omega)).mono ?_
        rintro ek wk11 ⟨rfl, hbk11⟩
        have hyk11 := Ext.trans (w := wr) (by repeat (first | with_reducible assumption | with_reducible exact Ext.refl _ | with_reducible apply Ext.alloc | with_reducible apply Ext.drew | with_reducible apply Ext.drewN)) hbk11
        have hxk11 := Ext.trans E2 hyk11
        refine hKK.out _ _ ?_ (fun hHeld => ?_)
        · exact hS _ (by repeat (first | with_reducible assumption | with_reducible exact Ext.refl _ | with_reducible apply Ext.alloc | with_reducible apply Ext.drew | with_reducible apply Ext.drewN))
        clear hKK KK
        try simp only [Act.put, List.setIfInBounds_toArray, List.set_cons_zero, List.set_cons_succ]
        refine wpAnyH_ready (rs := [12]) (by kernel_rfl) (by simp) ?_
        refine AllReadyH.cons rfl (fun KK hKK => ?_) ?_
        · go_simp
          refine hKK.out _ _ ?_ (fun hHeld => ?_)
          · exact hS _ (by repeat (first | with_reducible assumption | with_reducible exact Ext.refl _ | with_reducible apply Ext.alloc | with_reducible apply Ext.drew | with_reducible apply Ext.drewN))
          clear hKK KK
          try simp only [Act.put, List.setIfInBounds_toArray, List.set_cons_zero, List.set_cons_succ]
          refine wpAnyH_ready (rs := [13]) (by kernel_rfl) (by simp) ?_
          refine AllReadyH.cons rfl (fun KK hKK => ?_) ?_
          · refine step_app1C cipherSl (by rfl) _ _ (by rfl) (hO.ext (by repeat (first | with_reducible assumption | with_reducible exact Ext.refl _ | with_reducible apply Ext.alloc | with_reducible apply Ext.drew | with_reducible apply Ext.drewN))) (by rfl) _ (by rfl) (cell_newE (w := wk11) (i := 0) (cs := #[.int .i64 (gmul p [x1, gencA p q g r1]), .int .i64 (gmul p [x2, gencB p q key 1 r1])]) (by rfl) (by rfl) (by repeat (first | with_reducible assumption | with_reducible exact Ext.refl _ | with_reducible apply Ext.alloc | with_reducible apply Ext.drew | with_reducible apply Ext.drewN))) (cell_newE (w := wk11) (i := 1) (cs := #[.int .i64 (gmul p [x1, gencA p q g r1]), .int .i64 (gmul p [x2, gencB p q key 1 r1])]) (by rfl) (by rfl) (by repeat (first | with_reducible assumption | with_reducible exact Ext.refl _ | with_reducible apply Ext.alloc | with_reducible apply Ext.drew | with_reducible apply Ext.drewN))) (by omega) (Ext.size (w := Wb) (by repeat (first | with_reducible assumption | with_reducible exact Ext.refl _ | with_reducible apply Ext.alloc | with_reducible apply Ext.drew | with_reducible apply Ext.drewN))) ?_
            intro V3 d2 w3 hO3 hbl3
            have E3 := Ext.then (Ext.trans hxk11 (by repeat (first | with_reducible assumption | with_reducible exact Ext.refl _ | with_reducible apply Ext.alloc | with_reducible apply Ext.drew | with_reducible apply Ext.drewN))) hbl3 (Nat.le_refl _)
            refine hKK.out _ _ ?_ (fun hHeld => ?_)
            · exact hS _ (by repeat (first | with_reducible assumption | with_reducible exact Ext.refl _ | with_reducible apply Ext.alloc | with_reducible apply Ext.drew | with_reducible apply Ext.drewN))
            clear hKK KK
            try simp only [List.getElem_toArray, List.getElem_cons_succ, List.getElem_cons_zero]
            try simp only [Act.put, List.setIfInBounds_toArray, List.set_cons_zero, List.set_cons_succ]
            refine' wpAnyH_take (i := 14) (v := _) ?hi14 (by kernel_rfl) (by kernel_rfl) (by kernel_rfl) ?hQ14 ?hy14 (by assumption) ?_
            case hi14 => (simp only [List.getElem?_toArray, List.getElem?_cons_succ, List.getElem?_cons_zero]; rfl)
            case hy14 => refine Or.inl ⟨by rfl, ?_⟩; intro w hSw; (try dsimp only at hSw); go_simp <;> with_reducible rfl
            case hQ14 => exact fun _ _ _ h => h
            try simp only [Act.put, List.setIfInBounds_toArray, List.set_cons_zero, List.set_cons_succ]
            refine wpAnyH_done (by kernel_rfl) ?_ _
            go_wp2
            go_roundw
            case rel => exact ⟨j + 1, V3, d2, by omega, by go_num, rfl, by rw [HST.out]; exact hO3, E3⟩
            case measure => first | (simp [intOf]; done) | (simp [intOf]; omega)
          exact AllReadyH.nil
        exact AllReadyH.nil
      exact AllReadyH.nil
    · obtain rfl : m = j := by omega
      go_wp2
      go_ret
      exact ⟨_, _, rfl, hO.more hw0, E.trans E2⟩
set_option maxRecDepth 100000 in
set_option maxHeartbeats 4000000 in
theorem chain_any (p q g H : Int) (es ts : List Int) (A : Option Addr) (n c : Nat) (T : Option Addr) (d : Nat) (w : World) (h : GrpB p q) (hg : 0 ≤ g ∧ g ≤ 3000000000) (hH : 0 ≤ H ∧ H ≤ 3000000000) (ha : RdI w A es) (hla : es.length = n) (hn : n ≤ 100) (be : ∀ x ∈ es, 0 ≤ x ∧ x ≤ 4000000000) (ht : RdI w T ts) (hlt : ts.length = n) (bt : ∀ x ∈ ts, 0 ≤ x ∧ x ≤ 4000000000) :
    Calls Tryz.prog 65 #[.agg #[.int .i64 p, .int .i64 q, .int .i64 g], .int .i64 H, .slice A n c, .slice T n d] w fun en w' => ∃ A' c', en = .returned (.slice A' n c') ∧ OwnI w' w.heap.size 3 A' n c' (pmN p q g H es ts n) ∧ Ext w w' := by
  have HA := Lib.hid hla
  have HT := Lib.hid hlt
  have BE := Lib.hid be
  have BT := Lib.hid bt
  clear hla hlt be bt
  have E := ((Ext.refl w).alloc (.cells #[.int .i64 p, .int .i64 q, .int .i64 g] 33))
  have B0 := (Blk.new w 33 #[.int .i64 p, .int .i64 q, .int .i64 g])
  go_enter Tryz.func65, Tryz.ntmps65
  go_upto_region 1 with (fail)
  generalize hWb : (w.alloc (.cells #[.int .i64 p, .int .i64 q, .int .i64 g] 33)) = Wb at *
  clear hWb
  have hw0 : w.heap.size ≤ Wb.heap.size := E.size
  have hO0 : OwnI (Wb.alloc (.cells #[] 3)) Wb.heap.size 3 (some ⟨Wb.heap.size, 0, none⟩) 0 0 [] := ownI_lit (n := 0) (w := Wb) [] rfl rfl (Nat.le_refl _) (Nat.zero_le _)
  have hE0 := (Ext.refl Wb).alloc (.cells #[] 3)
  go_wp2
  skip
  go_loopw [1, 9, 15] (fun hh o i wr => ∃ (j : Nat) (U : Option Addr) (uc : Nat), j ≤ n ∧ i = .int .i64 j ∧ o = .slice U j uc ∧ hh = .int .i64 (pmH p q g H es ts j) ∧ OwnI wr Wb.heap.size 3 U j uc (pmN p q g H es ts j) ∧ Ext Wb wr) (fun _ _ i _ => n - (intOf i).toNat)
  case atStart => exact ⟨0, _, 0, Nat.zero_le _, rfl, rfl, rfl, hO0, hE0⟩
  case round =>
    obtain ⟨j, U, uc, hj, rfl, rfl, rfl, hO, E2⟩ := hrel
    clear hO0 hE0
    by_cases hlt : j < n
    · have hje : j < es.length := by rw [HA.out]; exact hlt
      have hjt : j < ts.length := by rw [HT.out]; exact hlt
      obtain ⟨ed, hEA, hec⟩ := (ha.ext (E.trans E2)).at_ hje
      subst hEA
      obtain ⟨td, hTA, htc⟩ := (ht.ext (E.trans E2)).at_ hjt
      subst hTA
      have he1 := BE.out _ (List.getElem_mem hje)
      have ht1 := BT.out _ (List.getElem_mem hjt)
      have hrg := pmH_rg h g hH es ts j
      have hst : pmH p q g H es ts (j + 1) = gmul p [gpw p q g ts[j], gpw p q (pmH p q g H es ts j) es[j]] := by
        show gmul p _ = _
        rw [getD_lt hje, getD_lt hjt]
      generalize es[j] = e1 at *
      generalize ts[j] = t1 at *
      have hpn := pmN_succ p q g H es ts j
      generalize pmH p q g H es ts j = h0 at *
      obtain ⟨v1, hv1⟩ : ∃ v, gpw p q g t1 = v := ⟨_, rfl⟩
      have r1 := gpw_rg p q g t1 h
      rw [hv1] at r1 hst
      obtain ⟨v2, hv2⟩ : ∃ v, gpw p q h0 e1 = v := ⟨_, rfl⟩
      have r2 := gpw_rg p q h0 e1 h
      rw [hv2] at r2 hst
      obtain ⟨v3, hv3⟩ : ∃ v, gmul p [v1, v2] = v := ⟨_, rfl⟩
      rw [hv3] at hst
      rw [hst] at hpn
      have HST := Lib.hid hpn
      have HHS := Lib.hid hst
      have K1 := Lib.hid hv1
      have K2 := Lib.hid hv2
      have K3 := Lib.hid hv3
      clear hst hpn hv1 hv2 hv3 hje hjt
      have hjm : (j : Int) < (n : Int) := by omega
      have hj0 : (0 : Int) ≤ (j : Int) := by omega
      have hsz := E2.size
      have BG := B0.ext E2
      have hS : ∀ V, Ext wr V → V.cell? ⟨w.heap.size, 0, none⟩ = some (.int .i64 p) ∧ V.cell? ⟨w.heap.size, 1, none⟩ = some (.int .i64 q) ∧ V.cell? ⟨w.heap.size, 2, none⟩ = some (.int .i64 g) ∧ V.cell? (td.add j) = some (.int .i64 t1) := fun V hV => by
        have a0 := (BG.ext hV).cells
        exact ⟨a0 0, a0 1, a0 2, hV.cell htc⟩
      go_upto_region 5 with (fail)
      refine wp_region_held_drew (S := fun V => V.cell? ⟨w.heap.size, 0, none⟩ = some (.int .i64 p) ∧ V.cell? ⟨w.heap.size, 1, none⟩ = some (.int .i64 q) ∧ V.cell? ⟨w.heap.size, 2, none⟩ = some (.int .i64 g) ∧ V.cell? (td.add j) = some (.int .i64 t1)) (by kernel_rfl) ?_ (fun hHeld => ?_)
      · exact hS _ (by repeat (first | with_reducible assumption | with_reducible exact Ext.refl _ | with_reducible apply Ext.alloc | with_reducible apply Ext.drew | with_reducible apply Ext.drewN))
      refine' wpAnyH_take (i := 0) (v := _) ?hi0 (by kernel_rfl) (by kernel_rfl) (by kernel_rfl) ?hQ0 ?hy0 (by assumption) ?_
      case hi0 => (simp only [List.getElem?_toArray, List.getElem?_cons_zero]; rfl)
      case hy0 => refine Or.inl ⟨by rfl, ?_⟩; intro w hSw; (try dsimp only at hSw); go_simp <;> with_reducible rfl
      case hQ0 => exact fun _ _ _ h => h
      try simp only [Act.put, List.setIfInBounds_toArray, List.set_cons_zero, List.set_cons_succ]
      refine' wpAnyH_take (i := 1) (v := _) ?hi1 (by kernel_rfl) (by kernel_rfl) (by kernel_rfl) ?hQ1 ?hy1 (by assumption) ?_
      case hi1 => (simp only [List.getElem?_toArray, List.getElem?_cons_succ, List.getElem?_cons_zero]; rfl)
      case hy1 => refine Or.inl ⟨by rfl, ?_⟩; intro w hSw; (try dsimp only at hSw); go_simp <;> with_reducible rfl
      case hQ1 => exact fun _ _ _ h => h
      try simp only [Act.put, List.setIfInBounds_toArray, List.set_cons_zero, List.set_cons_succ]
      refine' wpAnyH_take (i := 2) (v := _) ?hi2 (by kernel_rfl) (by kernel_rfl) (by kernel_rfl) ?hQ2 ?hy2 (by assumption) ?_
      case hi2 => (simp only [List.getElem?_toArray, List.getElem?_cons_succ, List.getElem?_cons_zero]; rfl)
      case hy2 => refine Or.inl ⟨by rfl, ?_⟩; intro w hSw; (try dsimp only at hSw); go_simp <;> with_reducible rfl
      case hQ2 => exact fun _ _ _ h => h
      try simp only [Act.put, List.setIfInBounds_toArray, List.set_cons_zero, List.set_cons_succ]
      refine' wpAnyH_take (i := 3) (v := _) ?hi3 (by kernel_rfl) (by kernel_rfl) (by kernel_rfl) ?hQ3 ?hy3 (by assumption) ?_
      case hi3 => (simp only [List.getElem?_toArray, List.getElem?_cons_succ, List.getElem?_cons_zero]; rfl)
      case hy3 => refine Or.inl ⟨by rfl, ?_⟩; intro w hSw; (try dsimp only at hSw); go_simp <;> with_reducible rfl
      case hQ3 => exact fun _ _ _ h => h
      try simp only [Act.put, List.setIfInBounds_toArray, List.set_cons_zero, List.set_cons_succ]
      refine' wpAnyH_take (i := 4) (v := _) ?hi4 (by kernel_rfl) (by kernel_rfl) (by kernel_rfl) ?hQ4 ?hy4 (by assumption) ?_
      case hi4 => (simp only [List.getElem?_toArray, List.getElem?_cons_succ, List.getElem?_cons_zero]; rfl)
      case hy4 => refine Or.inl ⟨by rfl, ?_⟩; intro w hSw; (try dsimp only at hSw); go_simp <;> with_reducible rfl
      case hQ4 => exact fun _ _ _ h => h
      try simp only [Act.put, List.setIfInBounds_toArray, List.set_cons_zero, List.set_cons_succ]
      refine' wpAnyH_take (i := 5) (v := _) ?hi5 (by kernel_rfl) (by kernel_rfl) (by kernel_rfl) ?hQ5 ?hy5 (by assumption) ?_
      case hi5 => (simp only [List.getElem?_toArray, List.getElem?_cons_succ, List.getElem?_cons_zero]; rfl)
      case hy5 => refine Or.inl ⟨by rfl, ?_⟩; intro w hSw; (try dsimp only at hSw); go_simp <;> with_reducible rfl
      case hQ5 => exact fun _ _ _ h => h
      try simp only [Act.put, List.setIfInBounds_toArray, List.set_cons_zero, List.set_cons_succ]
      refine' wpAnyH_take (i := 6) (v := _) ?hi6 (by kernel_rfl) (by kernel_rfl) (by kernel_rfl) ?hQ6 ?hy6 (by assumption) ?_
      case hi6 => (simp only [List.getElem?_toArray, List.getElem?_cons_succ, List.getElem?_cons_zero]; rfl)
      case hy6 => refine Or.inl ⟨by rfl, ?_⟩; intro w hSw; (try dsimp only at hSw); go_simp <;> with_reducible rfl
      case hQ6 => exact fun _ _ _ h => h
      try simp only [Act.put, List.setIfInBounds_toArray, List.set_cons_zero, List.set_cons_succ]
      refine' wpAnyH_take (i := 7) (v := _) ?hi7 (by kernel_rfl) (by kernel_rfl) (by kernel_rfl) ?hQ7 ?hy7 (by assumption) ?_
      case hi7 => (simp only [List.getElem?_toArray, List.getElem?_cons_succ, List.getElem?_cons_zero]; rfl)
      case hy7 => refine Or.inl ⟨by rfl, ?_⟩; intro w hSw; (try dsimp only at hSw); go_simp <;> with_reducible rfl
      case hQ7 => exact fun _ _ _ h => h
      try simp only [Act.put, List.setIfInBounds_toArray, List.set_cons_zero, List.set_cons_succ]
      refine' wpAnyH_take (i := 9) (v := _) ?hi9 (by kernel_rfl) (by kernel_rfl) (by kernel_rfl) ?hQ9 ?hy9 (by assumption) ?_
      case hi9 => (simp only [List.getElem?_toArray, List.getElem?_cons_succ, List.getElem?_cons_zero]; rfl)
      case hy9 => refine Or.inl ⟨by rfl, ?_⟩; intro w hSw; (try dsimp only at hSw); go_simp <;> with_reducible rfl
      case hQ9 => exact fun _ _ _ h => h
      try simp only [Act.put, List.setIfInBounds_toArray, List.set_cons_zero, List.set_cons_succ]
      refine' wpAnyH_take (i := 10) (v := _) ?hi10 (by kernel_rfl) (by kernel_rfl) (by kernel_rfl) ?hQ10 ?hy10 (by assumption) ?_
      case hi10 => (simp only [List.getElem?_toArray, List.getElem?_cons_succ, List.getElem?_cons_zero]; rfl)
      case hy10 => refine Or.inl ⟨by rfl, ?_⟩; intro w hSw; (try dsimp only at hSw); go_simp <;> with_reducible rfl
      case hQ10 => exact fun _ _ _ h => h
      try simp only [Act.put, List.setIfInBounds_toArray, List.set_cons_zero, List.set_cons_succ]
      refine' wpAnyH_take (i := 11) (v := _) ?hi11 (by kernel_rfl) (by kernel_rfl) (by kernel_rfl) ?hQ11 ?hy11 (by assumption) ?_
      case hi11 => (simp only [List.getElem?_toArray, List.getElem?_cons_succ, List.getElem?_cons_zero]; rfl)
      case hy11 => refine Or.inl ⟨by rfl, ?_⟩; intro w hSw; (try dsimp only at hSw); go_simp <;> with_reducible rfl
      case hQ11 => exact fun _ _ _ h => h
      try simp only [Act.put, List.setIfInBounds_toArray, List.set_cons_zero, List.set_cons_succ]
      refine wpAnyH_ready (rs := [8]) (by kernel_rfl) (by simp) ?_
      refine AllReadyH.cons rfl (fun KK hKK => ?_) ?_
      · go_simp
        go_at_call 68
        refine (pow_any p q g g t1 _ h (by omega) (by omega) (by omega) (by omega)).mono ?_
        rintro ek wk8 ⟨hek, hbk8⟩
        rw [K1.out] at hek; subst hek
        have hxk8 := Ext.trans (w := wr) (by repeat (first | with_reducible assumption | with_reducible exact Ext.refl _ | with_reducible apply Ext.alloc | with_reducible apply Ext.drew | with_reducible apply Ext.drewN)) hbk8
        refine hKK.out _ _ ?_ (fun hHeld => ?_)
        · exact hS _ (by repeat (first | with_reducible assumption | with_reducible exact Ext.refl _ | with_reducible apply Ext.alloc | with_reducible apply Ext.drew | with_reducible apply Ext.drewN))
        clear hKK KK
        try simp only [Act.put, List.setIfInBounds_toArray, List.set_cons_zero, List.set_cons_succ]
        refine wpAnyH_ready (rs := [12]) (by kernel_rfl) (by simp) ?_
        refine AllReadyH.cons rfl (fun KK hKK => ?_) ?_
        · go_simp
          go_at_call 68
          refine (pow_any p q g h0 e1 _ h (by omega) (by omega) (by omega) (by omega)).mono ?_
          rintro ek wk12 ⟨hek, hbk12⟩
          rw [K2.out] at hek; subst hek
          have hxk12 := Ext.trans (w := wr) (Ext.trans hxk8 (by repeat (first | with_reducible assumption | with_reducible exact Ext.refl _ | with_reducible apply Ext.alloc | with_reducible apply Ext.drew | with_reducible apply Ext.drewN))) hbk12
          refine hKK.out _ _ ?_ (fun hHeld => ?_)
          · exact hS _ (by repeat (first | with_reducible assumption | with_reducible exact Ext.refl _ | with_reducible apply Ext.alloc | with_reducible apply Ext.drew | with_reducible apply Ext.drewN))
          clear hKK KK
          try simp only [Act.put, List.setIfInBounds_toArray, List.set_cons_zero, List.set_cons_succ]
          refine wpAnyH_ready (rs := [13]) (by kernel_rfl) (by simp) ?_
          refine AllReadyH.cons rfl (fun KK hKK => ?_) ?_
          · go_simp
            refine hKK.out _ _ ?_ (fun hHeld => ?_)
            · exact hS _ (by repeat (first | with_reducible assumption | with_reducible exact Ext.refl _ | with_reducible apply Ext.alloc | with_reducible apply Ext.drew | with_reducible apply Ext.drewN))
            clear hKK KK
            try simp only [Act.put, List.setIfInBounds_toArray, List.set_cons_zero, List.set_cons_succ]
            refine wpAnyH_ready (rs := [14]) (by kernel_rfl) (by simp) ?_
            refine AllReadyH.cons rfl (fun KK hKK => ?_) ?_
            · go_simp
              go_at_call 69
              refine (mul_any p q g _ 2 2 [v1, v2] _ h (rd_twoV (w := wk12) rfl (by repeat (first | with_reducible assumption | with_reducible exact Ext.refl _ | with_reducible apply Ext.alloc | with_reducible apply Ext.drew | with_reducible apply Ext.drewN))) rfl (by decide) (two_rg (by omega) (by omega))).mono ?_
              rintro ek wk14 ⟨hek, hbk14⟩
              rw [K3.out] at hek; subst hek
              have hxk14 := Ext.trans (w := wr) (Ext.trans hxk12 (by repeat (first | with_reducible assumption | with_reducible exact Ext.refl _ | with_reducible apply Ext.alloc | with_reducible apply Ext.drew | with_reducible apply Ext.drewN))) hbk14
              refine hKK.out _ _ ?_ (fun hHeld => ?_)
              · exact hS _ (by repeat (first | with_reducible assumption | with_reducible exact Ext.refl _ | with_reducible apply Ext.alloc | with_reducible apply Ext.drew | with_reducible apply Ext.drewN))
              clear hKK KK
              try simp only [Act.put, List.setIfInBounds_toArray, List.set_cons_zero, List.set_cons_succ]
              refine' wpAnyH_take (i := 15) (v := _) ?hi15 (by kernel_rfl) (by kernel_rfl) (by kernel_rfl) ?hQ15 ?hy15 (by assumption) ?_
              case hi15 => (simp only [List.getElem?_toArray, List.getElem?_cons_succ, List.getElem?_cons_zero]; rfl)
              case hy15 => refine Or.inl ⟨by rfl, ?_⟩; intro w hSw; (try dsimp only at hSw); go_simp <;> with_reducible rfl
              case hQ15 => exact fun _ _ _ h => h
              try simp only [Act.put, List.setIfInBounds_toArray, List.set_cons_zero, List.set_cons_succ]
              refine wpAnyH_done (by kernel_rfl) ?_ _
              have hO14 := hO.ext hxk14
              have hs14 := Nat.le_trans hsz hxk14.size
              have E14 := E2.trans hxk14
              go_wp2_with (at_builtin; refine wpList_app1F intSl rfl _ _ rfl (hO.ext (Ext.trans hxk14 (by repeat (first | with_reducible assumption | with_reducible exact Ext.refl _ | with_reducible apply Ext.alloc | with_reducible apply Ext.drew | with_reducible apply Ext.drewN)))) rfl rfl rfl (by omega) (Nat.le_trans hsz (Ext.size (w := wr) (Ext.trans hxk14 (by repeat (first | with_reducible assumption | with_reducible exact Ext.refl _ | with_reducible apply Ext.alloc | with_reducible apply Ext.drew | with_reducible apply Ext.drewN))))) ?_; intro U2 d2 w2 hO2 hon2 hli2)
              have E3 := Ext.only (Ext.trans E14 (by repeat (first | with_reducible assumption | with_reducible exact Ext.refl _ | with_reducible apply Ext.alloc | with_reducible apply Ext.drew | with_reducible apply Ext.drewN))) hon2 hO.high
              rw [← HST.out] at hO2
              go_wp2
              go_roundw
              case rel => exact ⟨j + 1, U2, d2, by omega, by go_num, rfl, by rw [HHS.out], hO2, E3⟩
              case measure => first | (simp [intOf]; done) | (simp [intOf]; omega)
            exact AllReadyH.nil
          exact AllReadyH.nil
        exact AllReadyH.nil
      exact AllReadyH.nil
    · obtain rfl : n = j := by omega
      go_wp2
      go_ret
      exact ⟨_, _, rfl, hO.more hw0, E.trans E2⟩
set_option maxRecDepth 100000 in
set_option maxHeartbeats 4000000 in
theorem mChain_any (p q g H : Int) (AH : Option Addr) (mH cH : Nat) (es ts : List Int) (A : Option Addr) (n c : Nat) (T : Option Addr) (d : Nat) (w : World) (h : GrpB p q) (hg : 0 ≤ g ∧ g ≤ 3000000000) (hH : 0 ≤ H ∧ H ≤ 3000000000) (ha : RdI w A es) (hla : es.length = n) (hn : n ≤ 100) (be : ∀ x ∈ es, 0 ≤ x ∧ x ≤ 4000000000) (ht : RdI w T ts) (hlt : ts.length = n) (bt : ∀ x ∈ ts, 0 ≤ x ∧ x ≤ 4000000000) :
    Calls Tryz.prog 43 #[.agg #[.int .i64 p, .int .i64 q, .int .i64 g], .agg #[.int .i64 H, .slice AH mH cH], .slice A n c, .slice T n d] w fun en w' => ∃ A' c', en = .returned (.slice A' n c') ∧ OwnI w' w.heap.size 3 A' n c' (pmN p q g H es ts n) ∧ Ext w w' := by
  have HA := Lib.hid hla
  have HT := Lib.hid hlt
  have BE := Lib.hid be
  have BT := Lib.hid bt
  clear hla hlt be bt
  have E := (((Ext.refl w).alloc (.cells #[.int .i64 p, .int .i64 q, .int .i64 g] 33)).alloc (.cells #[.int .i64 H, .slice AH mH cH] 49))
  have B0 := ((Blk.new w 33 #[.int .i64 p, .int .i64 q, .int .i64 g]).alloc (.cells #[.int .i64 H, .slice AH mH cH] 49))
  have B1 := (Blk.new (w.alloc (.cells #[.int .i64 p, .int .i64 q, .int .i64 g] 33)) 49 #[.int .i64 H, .slice AH mH cH])
  simp only [World.size_alloc] at B1
  go_enter Tryz.func43, Tryz.ntmps43
  go_upto_region 1 with (fail)
  generalize hWb : ((w.alloc (.cells #[.int .i64 p, .int .i64 q, .int .i64 g] 33)).alloc (.cells #[.int .i64 H, .slice AH mH cH] 49)) = Wb at *
  clear hWb
  have hw0 : w.heap.size ≤ Wb.heap.size := E.size
  have hO0 := OwnI.nil Wb Wb.heap.size 3
  have hE0 := Ext.refl Wb
  have CB := B1.cells
  go_wp2
  clear CB
  go_loopw [10, 9, 17] (fun hh o i wr => ∃ (j : Nat) (U : Option Addr) (uc : Nat), j ≤ n ∧ i = .int .i64 j ∧ o = .slice U j uc ∧ hh = .int .i64 (pmH p q g H es ts j) ∧ OwnI wr Wb.heap.size 3 U j uc (pmN p q g H es ts j) ∧ Ext Wb wr) (fun _ _ i _ => n - (intOf i).toNat)
  case atStart => exact ⟨0, none, 0, Nat.zero_le _, rfl, rfl, rfl, hO0, hE0⟩
  case round =>
    obtain ⟨j, U, uc, hj, rfl, rfl, rfl, hO, E2⟩ := hrel
    clear hO0 hE0
    by_cases hlt : j < n
    · have hje : j < es.length := by rw [HA.out]; exact hlt
      have hjt : j < ts.length := by rw [HT.out]; exact hlt
      obtain ⟨ed, hEA, hec⟩ := (ha.ext (E.trans E2)).at_ hje
      subst hEA
      obtain ⟨td, hTA, htc⟩ := (ht.ext (E.trans E2)).at_ hjt
      subst hTA
      have he1 := BE.out _ (List.getElem_mem hje)
      have ht1 := BT.out _ (List.getElem_mem hjt)
      have hrg := pmH_rg h g hH es ts j
      have hst : pmH p q g H es ts (j + 1) = gmul p [gpw p q g ts[j], gpw p q (pmH p q g H es ts j) es[j]] := by
        show gmul p _ = _
        rw [getD_lt hje, getD_lt hjt]
      generalize es[j] = e1 at *
      generalize ts[j] = t1 at *
      have hpn := pmN_succ p q g H es ts j
      generalize pmH p q g H es ts j = h0 at *
      obtain ⟨v1, hv1⟩ : ∃ v, gpw p q g t1 = v := ⟨_, rfl⟩
      have r1 := gpw_rg p q g t1 h
      rw [hv1] at r1 hst
      obtain ⟨v2, hv2⟩ : ∃ v, gpw p q h0 e1 = v := ⟨_, rfl⟩
      have r2 := gpw_rg p q h0 e1 h
      rw [hv2] at r2 hst
      obtain ⟨v3, hv3⟩ : ∃ v, gmul p [v1, v2] = v := ⟨_, rfl⟩
      rw [hv3] at hst
      rw [hst] at hpn
      have HST := Lib.hid hpn
      have HHS := Lib.hid hst
      have K1 := Lib.hid hv1
      have K2 := Lib.hid hv2
      have K3 := Lib.hid hv3
      clear hst hpn hv1 hv2 hv3 hje hjt
      have hjm : (j : Int) < (n : Int) := by omega
      have hj0 : (0 : Int) ≤ (j : Int) := by omega
      have hsz := E2.size
      have BG := B0.ext E2
      have hS : ∀ V, Ext wr V → V.cell? ⟨w.heap.size, 0, none⟩ = some (.int .i64 p) ∧ V.cell? ⟨w.heap.size, 1, none⟩ = some (.int .i64 q) ∧ V.cell? ⟨w.heap.size, 2, none⟩ = some (.int .i64 g) ∧ V.cell? (td.add j) = some (.int .i64 t1) := fun V hV => by
        have a0 := (BG.ext hV).cells
        exact ⟨a0 0, a0 1, a0 2, hV.cell htc⟩
      go_upto_region 6 with (fail)
      refine wp_region_held_drew (S := fun V => V.cell? ⟨w.heap.size, 0, none⟩ = some (.int .i64 p) ∧ V.cell? ⟨w.heap.size, 1, none⟩ = some (.int .i64 q) ∧ V.cell? ⟨w.heap.size, 2, none⟩ = some (.int .i64 g) ∧ V.cell? (td.add j) = some (.int .i64 t1)) (by kernel_rfl) ?_ (fun hHeld => ?_)
      · exact hS _ (by repeat (first | with_reducible assumption | with_reducible exact Ext.refl _ | with_reducible apply Ext.alloc | with_reducible apply Ext.drew | with_reducible apply Ext.drewN))
      refine' wpAnyH_take (i := 0) (v := _) ?hi0 (by kernel_rfl) (by kernel_rfl) (by kernel_rfl) ?hQ0 ?hy0 (by assumption) ?_
      case hi0 => (simp only [List.getElem?_toArray, List.getElem?_cons_zero]; rfl)
      case hy0 => refine Or.inl ⟨by rfl, ?_⟩; intro w hSw; (try dsimp only at hSw); go_simp <;> with_reducible rfl
      case hQ0 => exact fun _ _ _ h => h
      try simp only [Act.put, List.setIfInBounds_toArray, List.set_cons_zero, List.set_cons_succ]
      refine' wpAnyH_take (i := 1) (v := _) ?hi1 (by kernel_rfl) (by kernel_rfl) (by kernel_rfl) ?hQ1 ?hy1 (by assumption) ?_
      case hi1 => (simp only [List.getElem?_toArray, List.getElem?_cons_succ, List.getElem?_cons_zero]; rfl)
      case hy1 => refine Or.inl ⟨by rfl, ?_⟩; intro w hSw; (try dsimp only at hSw); go_simp <;> with_reducible rfl
      case hQ1 => exact fun _ _ _ h => h
      try simp only [Act.put, List.setIfInBounds_toArray, List.set_cons_zero, List.set_cons_succ]
      refine' wpAnyH_take (i := 2) (v := _) ?hi2 (by kernel_rfl) (by kernel_rfl) (by kernel_rfl) ?hQ2 ?hy2 (by assumption) ?_
      case hi2 => (simp only [List.getElem?_toArray, List.getElem?_cons_succ, List.getElem?_cons_zero]; rfl)
      case hy2 => refine Or.inl ⟨by rfl, ?_⟩; intro w hSw; (try dsimp only at hSw); go_simp <;> with_reducible rfl
      case hQ2 => exact fun _ _ _ h => h
      try simp only [Act.put, List.setIfInBounds_toArray, List.set_cons_zero, List.set_cons_succ]
      refine' wpAnyH_take (i := 3) (v := _) ?hi3 (by kernel_rfl) (by kernel_rfl) (by kernel_rfl) ?hQ3 ?hy3 (by assumption) ?_
      case hi3 => (simp only [List.getElem?_toArray, List.getElem?_cons_succ, List.getElem?_cons_zero]; rfl)
      case hy3 => refine Or.inl ⟨by rfl, ?_⟩; intro w hSw; (try dsimp only at hSw); go_simp <;> with_reducible rfl
      case hQ3 => exact fun _ _ _ h => h
      try simp only [Act.put, List.setIfInBounds_toArray, List.set_cons_zero, List.set_cons_succ]
      refine' wpAnyH_take (i := 4) (v := _) ?hi4 (by kernel_rfl) (by kernel_rfl) (by kernel_rfl) ?hQ4 ?hy4 (by assumption) ?_
      case hi4 => (simp only [List.getElem?_toArray, List.getElem?_cons_succ, List.getElem?_cons_zero]; rfl)
      case hy4 => refine Or.inl ⟨by rfl, ?_⟩; intro w hSw; (try dsimp only at hSw); go_simp <;> with_reducible rfl
      case hQ4 => exact fun _ _ _ h => h
      try simp only [Act.put, List.setIfInBounds_toArray, List.set_cons_zero, List.set_cons_succ]
      refine' wpAnyH_take (i := 5) (v := _) ?hi5 (by kernel_rfl) (by kernel_rfl) (by kernel_rfl) ?hQ5 ?hy5 (by assumption) ?_
      case hi5 => (simp only [List.getElem?_toArray, List.getElem?_cons_succ, List.getElem?_cons_zero]; rfl)
      case hy5 => refine Or.inl ⟨by rfl, ?_⟩; intro w hSw; (try dsimp only at hSw); go_simp <;> with_reducible rfl
      case hQ5 => exact fun _ _ _ h => h
      try simp only [Act.put, List.setIfInBounds_toArray, List.set_cons_zero, List.set_cons_succ]
      refine' wpAnyH_take (i := 6) (v := _) ?hi6 (by kernel_rfl) (by kernel_rfl) (by kernel_rfl) ?hQ6 ?hy6 (by assumption) ?_
      case hi6 => (simp only [List.getElem?_toArray, List.getElem?_cons_succ, List.getElem?_cons_zero]; rfl)
      case hy6 => refine Or.inl ⟨by rfl, ?_⟩; intro w hSw; (try dsimp only at hSw); go_simp <;> with_reducible rfl
      case hQ6 => exact fun _ _ _ h => h
      try simp only [Act.put, List.setIfInBounds_toArray, List.set_cons_zero, List.set_cons_succ]
      refine' wpAnyH_take (i := 7) (v := _) ?hi7 (by kernel_rfl) (by kernel_rfl) (by kernel_rfl) ?hQ7 ?hy7 (by assumption) ?_
      case hi7 => (simp only [List.getElem?_toArray, List.getElem?_cons_succ, List.getElem?_cons_zero]; rfl)
      case hy7 => refine Or.inl ⟨by rfl, ?_⟩; intro w hSw; (try dsimp only at hSw); go_simp <;> with_reducible rfl
      case hQ7 => exact fun _ _ _ h => h
      try simp only [Act.put, List.setIfInBounds_toArray, List.set_cons_zero, List.set_cons_succ]
      refine' wpAnyH_take (i := 9) (v := _) ?hi9 (by kernel_rfl) (by kernel_rfl) (by kernel_rfl) ?hQ9 ?hy9 (by assumption) ?_
      case hi9 => (simp only [List.getElem?_toArray, List.getElem?_cons_succ, List.getElem?_cons_zero]; rfl)
      case hy9 => refine Or.inl ⟨by rfl, ?_⟩; intro w hSw; (try dsimp only at hSw); go_simp <;> with_reducible rfl
      case hQ9 => exact fun _ _ _ h => h
      try simp only [Act.put, List.setIfInBounds_toArray, List.set_cons_zero, List.set_cons_succ]
      refine' wpAnyH_take (i := 10) (v := _) ?hi10 (by kernel_rfl) (by kernel_rfl) (by kernel_rfl) ?hQ10 ?hy10 (by assumption) ?_
      case hi10 => (simp only [List.getElem?_toArray, List.getElem?_cons_succ, List.getElem?_cons_zero]; rfl)
      case hy10 => refine Or.inl ⟨by rfl, ?_⟩; intro w hSw; (try dsimp only at hSw); go_simp <;> with_reducible rfl
      case hQ10 => exact fun _ _ _ h => h
      try simp only [Act.put, List.setIfInBounds_toArray, List.set_cons_zero, List.set_cons_succ]
      refine' wpAnyH_take (i := 11) (v := _) ?hi11 (by kernel_rfl) (by kernel_rfl) (by kernel_rfl) ?hQ11 ?hy11 (by assumption) ?_
      case hi11 => (simp only [List.getElem?_toArray, List.getElem?_cons_succ, List.getElem?_cons_zero]; rfl)
      case hy11 => refine Or.inl ⟨by rfl, ?_⟩; intro w hSw; (try dsimp only at hSw); go_simp <;> with_reducible rfl
      case hQ11 => exact fun _ _ _ h => h
      try simp only [Act.put, List.setIfInBounds_toArray, List.set_cons_zero, List.set_cons_succ]
      refine wpAnyH_ready (rs := [8]) (by kernel_rfl) (by simp) ?_
      refine AllReadyH.cons rfl (fun KK hKK => ?_) ?_
      · go_simp
        go_at_call 45
        refine (gExp_any p q g g t1 _ h (by omega) (by omega) (by omega) (by omega)).mono ?_
        rintro ek wk8 ⟨hek, hbk8⟩
        rw [K1.out] at hek; subst hek
        have hxk8 := Ext.trans (w := wr) (by repeat (first | with_reducible assumption | with_reducible exact Ext.refl _ | with_reducible apply Ext.alloc | with_reducible apply Ext.drew | with_reducible apply Ext.drewN)) hbk8
        refine hKK.out _ _ ?_ (fun hHeld => ?_)
        · exact hS _ (by repeat (first | with_reducible assumption | with_reducible exact Ext.refl _ | with_reducible apply Ext.alloc | with_reducible apply Ext.drew | with_reducible apply Ext.drewN))
        clear hKK KK
        try simp only [Act.put, List.setIfInBounds_toArray, List.set_cons_zero, List.set_cons_succ]
        refine wpAnyH_ready (rs := [12]) (by kernel_rfl) (by simp) ?_
        refine AllReadyH.cons rfl (fun KK hKK => ?_) ?_
        · go_simp
          go_at_call 45
          refine (gExp_any p q g h0 e1 _ h (by omega) (by omega) (by omega) (by omega)).mono ?_
          rintro ek wk12 ⟨hek, hbk12⟩
          rw [K2.out] at hek; subst hek
          have hxk12 := Ext.trans (w := wr) (Ext.trans hxk8 (by repeat (first | with_reducible assumption | with_reducible exact Ext.refl _ | with_reducible apply Ext.alloc | with_reducible apply Ext.drew | with_reducible apply Ext.drewN))) hbk12
          refine hKK.out _ _ ?_ (fun hHeld => ?_)
          · exact hS _ (by repeat (first | with_reducible assumption | with_reducible exact Ext.refl _ | with_reducible apply Ext.alloc | with_reducible apply Ext.drew | with_reducible apply Ext.drewN))
          clear hKK KK
          try simp only [Act.put, List.setIfInBounds_toArray, List.set_cons_zero, List.set_cons_succ]
          refine wpAnyH_ready (rs := [13]) (by kernel_rfl) (by simp) ?_
          refine AllReadyH.cons rfl (fun KK hKK => ?_) ?_
          · go_simp
            refine hKK.out _ _ ?_ (fun hHeld => ?_)
            · exact hS _ (by repeat (first | with_reducible assumption | with_reducible exact Ext.refl _ | with_reducible apply Ext.alloc | with_reducible apply Ext.drew | with_reducible apply Ext.drewN))
            clear hKK KK
            try simp only [Act.put, List.setIfInBounds_toArray, List.set_cons_zero, List.set_cons_succ]
            refine wpAnyH_ready (rs := [14]) (by kernel_rfl) (by simp) ?_
            refine AllReadyH.cons rfl (fun KK hKK => ?_) ?_
            · go_simp
              go_at_call 46
              refine (gMul_any p q g _ 2 2 [v1, v2] _ h (rd_twoV (w := wk12) rfl (by repeat (first | with_reducible assumption | with_reducible exact Ext.refl _ | with_reducible apply Ext.alloc | with_reducible apply Ext.drew | with_reducible apply Ext.drewN))) rfl (by decide) (two_rg (by omega) (by omega))).mono ?_
              rintro ek wk14 ⟨hek, hbk14⟩
              rw [K3.out] at hek; subst hek
              have hxk14 := Ext.trans (w := wr) (Ext.trans hxk12 (by repeat (first | with_reducible assumption | with_reducible exact Ext.refl _ | with_reducible apply Ext.alloc | with_reducible apply Ext.drew | with_reducible apply Ext.drewN))) hbk14
              refine hKK.out _ _ ?_ (fun hHeld => ?_)
              · exact hS _ (by repeat (first | with_reducible assumption | with_reducible exact Ext.refl _ | with_reducible apply Ext.alloc | with_reducible apply Ext.drew | with_reducible apply Ext.drewN))
              clear hKK KK
              try simp only [Act.put, List.setIfInBounds_toArray, List.set_cons_zero, List.set_cons_succ]
              refine' wpAnyH_take (i := 15) (v := _) ?hi15 (by kernel_rfl) (by kernel_rfl) (by kernel_rfl) ?hQ15 ?hy15 (by assumption) ?_
              case hi15 => (simp only [List.getElem?_toArray, List.getElem?_cons_succ, List.getElem?_cons_zero]; rfl)
              case hy15 => refine Or.inl ⟨by rfl, ?_⟩; intro w hSw; (try dsimp only at hSw); go_simp <;> with_reducible rfl
              case hQ15 => exact fun _ _ _ h => h
              try simp only [Act.put, List.setIfInBounds_toArray, List.set_cons_zero, List.set_cons_succ]
              refine wpAnyH_done (by kernel_rfl) ?_ _
              have hO14 := hO.ext hxk14
              have hs14 := Nat.le_trans hsz hxk14.size
              have E14 := E2.trans hxk14
              go_wp2_with (at_builtin; refine wpList_app1F intSl rfl _ _ rfl (hO.ext (Ext.trans hxk14 (by repeat (first | with_reducible assumption | with_reducible exact Ext.refl _ | with_reducible apply Ext.alloc | with_reducible apply Ext.drew | with_reducible apply Ext.drewN)))) rfl rfl rfl (by omega) (Nat.le_trans hsz (Ext.size (w := wr) (Ext.trans hxk14 (by repeat (first | with_reducible assumption | with_reducible exact Ext.refl _ | with_reducible apply Ext.alloc | with_reducible apply Ext.drew | with_reducible apply Ext.drewN))))) ?_; intro U2 d2 w2 hO2 hon2 hli2)
              have E3 := Ext.only (Ext.trans E14 (by repeat (first | with_reducible assumption | with_reducible exact Ext.refl _ | with_reducible apply Ext.alloc | with_reducible apply Ext.drew | with_reducible apply Ext.drewN))) hon2 hO.high
              rw [← HST.out] at hO2
              go_wp2
              go_roundw
              case rel => exact ⟨j + 1, U2, d2, by omega, by go_num, rfl, by rw [HHS.out], hO2, E3⟩
              case measure => first | (simp [intOf]; done) | (simp [intOf]; omega)
            exact AllReadyH.nil
          exact AllReadyH.nil
        exact AllReadyH.nil
      exact AllReadyH.nil
    · obtain rfl : n = j := by omega
      go_wp2
      go_ret
      exact ⟨_, _, rfl, hO.more hw0, E.trans E2⟩
end Go.Proofs.YtnhdohjlbchniaaGreat

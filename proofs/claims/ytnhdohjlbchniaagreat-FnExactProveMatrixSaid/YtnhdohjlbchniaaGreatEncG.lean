/- Contracts for lists of valid ciphertexts, and the reference's decryption. -/
import Derived.Test.YtnhdohjlbchniaaGreatProg
import Derived.Test.YtnhdohjlbchniaaGreatEncC
namespace Go.Proofs.YtnhdohjlbchniaaGreat
open Go.RowKit

/-- A valid ciphertext. -/
def ciB (p q : Int) (c : Int × Int) : Bool := elB p q c.1 && elB p q c.2
theorem rdC_one {w : World} {a b : Int} {k : Nat} {e : TypeId} (hk : k = w.heap.size) : RdC (w.alloc (.cells #[.int .i64 a, .int .i64 b] e)) (some ⟨k, 0, none⟩) [(a, b)] := by
  subst hk
  refine .inr ⟨_, rfl, fun j u hu => ?_⟩
  have B := (Blk.new w e #[.int .i64 a, .int .i64 b]).cells
  match j with
  | 0 => simp only [cs2, List.flatMap_cons, List.flatMap_nil, List.append_nil, List.getElem?_cons_zero, Option.some.injEq] at hu; subst hu; exact B 0
  | 1 => simp only [cs2, List.flatMap_cons, List.flatMap_nil, List.append_nil, List.getElem?_cons_succ, List.getElem?_cons_zero, Option.some.injEq] at hu; subst hu; exact B 1
  | j + 2 => simp [cs2] at hu
theorem allC_take {l : List (Int × Int)} {f : Int × Int → Bool} {j : Nat} (hj : j < l.length) (h : (l.take j).all f = true) (hx : f l[j] = true) : (l.take (j + 1)).all f = true := by
  rw [List.take_succ_eq_append_getElem hj, List.all_append, h]
  simp [hx]
theorem allC_no {l : List (Int × Int)} {f : Int × Int → Bool} {j : Nat} (hj : j < l.length) (hx : f l[j] = false) : l.all f = false := by
  rw [List.all_eq_false]
  exact ⟨l[j], List.getElem_mem hj, by simp [hx]⟩
set_option maxRecDepth 100000 in
set_option maxHeartbeats 4000000 in
theorem eGood_any (p q g : Int) (A : Option Addr) (n c : Nat) (l : List (Int × Int)) (w : World) (h : GrpB p q) (ha : RdC w A l) (hl : l.length = n) (hn : n ≤ maxLen) :
    Calls Tryz.prog 34 #[.agg #[.int .i64 p, .int .i64 q, .int .i64 g], .slice A n c] w fun e w' => e = .returned (.bool (decide (n ≤ 24) && l.all (ciB p q))) ∧ Ext w w' := by
  unfold maxLen at hn
  have hE := (Ext.refl w).alloc (.cells #[.int .i64 p, .int .i64 q, .int .i64 g] 33)
  have B := Blk.new w 33 #[.int .i64 p, .int .i64 q, .int .i64 g]
  subst hl
  by_cases hn24 : l.length ≤ 24
  case neg =>
    rw [decide_eq_false hn24, Bool.false_and]
    have hz : (24 : Int) < (l.length : Int) := by omega
    go_enter Tryz.func34, Tryz.ntmps34
    go_wp2
    go_ret
    exact ⟨rfl, hE⟩
  have hz : ¬ (24 : Int) < (l.length : Int) := by omega
  rw [decide_eq_true hn24, Bool.true_and]
  go_enter Tryz.func34, Tryz.ntmps34
  go_wp2
  go_loopw [12] (fun i wr => ∃ j : Nat, j ≤ l.length ∧ i = .int .i64 j ∧ Hid ((l.take j).all (ciB p q) = true) ∧ Blk wr w.heap.size 33 #[.int .i64 p, .int .i64 q, .int .i64 g] ∧ Ext w wr) (fun i _ => l.length - (intOf i).toNat)
  case atStart => exact ⟨0, Nat.zero_le _, rfl, rfl, B, hE⟩
  case round =>
    clear B hE
    obtain ⟨j, hj, rfl, HI, B, E⟩ := hrel
    by_cases hlt : j < l.length
    · obtain ⟨ad, rfl, hc, hd⟩ := (ha.ext E).at_ hlt
      have HT := Lib.hid (fun h => allC_take (f := ciB p q) hlt HI.out h)
      have HN := Lib.hid (fun h => allC_no (f := ciB p q) hlt h)
      generalize l[j] = x at *
      obtain ⟨a, b⟩ := x
      simp only at hc hd
      have hE1 := (Ext.refl wr).alloc (.cells #[.int .i64 a, .int .i64 b] 54)
      have B6 := Blk.new wr 54 #[.int .i64 a, .int .i64 b]
      have C6 := B6.cells
      have C := (B.ext hE1).cells
      have hE2 := hE1.alloc (.cells #[.int .i64 a, .int .i64 b] 3)
      cases hx : ciB p q (a, b)
      · have HX := Lib.hid hx
        clear hx
        go_wp2_with fail
        refine (gIs_any p q g _ 2 2 [a, b] _ h (rd_two (by simp)) rfl (by decide)).mono ?_
        rintro e w2 ⟨he, hb⟩
        simp only [List.all_cons, List.all_nil, Bool.and_true] at he
        have hx2 : (elB p q a && elB p q b) = false := HX.out
        rw [hx2] at he; subst he
        clear hx2
        go_wp2
        go_ret
        exact ⟨ret_bool (HN.out HX.out).symm, E.trans (hE2.trans hb)⟩
      · have HX := Lib.hid hx
        clear hx
        go_wp2_with fail
        refine (gIs_any p q g _ 2 2 [a, b] _ h (rd_two (by simp)) rfl (by decide)).mono ?_
        rintro e w2 ⟨he, hb⟩
        simp only [List.all_cons, List.all_nil, Bool.and_true] at he
        have hx2 : (elB p q a && elB p q b) = true := HX.out
        rw [hx2] at he; subst he
        clear hx2
        go_wp2
        go_roundw
        case rel => exact ⟨j + 1, by omega, by go_num, HT.out HX.out, B.ext (hE2.trans hb), E.trans (hE2.trans hb)⟩
        case measure => simp [intOf]; omega
    · obtain rfl : j = l.length := by omega
      have h9 := HI.out
      rw [List.take_length] at h9
      have H9 := Lib.hid h9
      clear h9
      go_wp2
      go_ret
      exact ⟨ret_bool H9.out.symm, E⟩
/-- Of one ciphertext that has just been laid. -/
theorem eGood_one (p q g a b : Int) (k : Nat) (w : World) (h : GrpB p q) (hk : k = w.heap.size) :
    Calls Tryz.prog 34 #[.agg #[.int .i64 p, .int .i64 q, .int .i64 g], .slice (some ⟨k, 0, none⟩) 1 1] (w.alloc (.cells #[.int .i64 a, .int .i64 b] 54)) fun e w' => e = .returned (.bool (elB p q a && elB p q b)) ∧ Ext w w' := by
  refine (eGood_any p q g _ 1 1 [(a, b)] _ h (rdC_one hk) rfl (by decide)).mono ?_
  rintro e w1 ⟨he, hb⟩
  refine ⟨?_, ((Ext.refl w).alloc _).trans hb⟩
  rw [he]
  simp [ciB]
/-- (printed from here on) -/
theorem printedEncG : True := trivial


end Go.Proofs.YtnhdohjlbchniaaGreat

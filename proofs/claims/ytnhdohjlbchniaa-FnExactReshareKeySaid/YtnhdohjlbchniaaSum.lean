/- Contracts for sums of dealings: the program's and the reference's. (Printed by tools/gen_sum.py.) -/
import Derived.Test.YtnhdohjlbchniaaProg
import Derived.Test.YtnhdohjlbchniaaDlG
import Derived.Test.YtnhdohjlbchniaaLies
import Derived.Test.YtnhdohjlbchniaaRw
import Derived.Deep.CutRange
import Derived.Deep.RegionLaw
namespace Go.Proofs.Ytnhdohjlbchniaa
open Go.RowKit

def zipC (p : Int) (a b : List Int) : List Int := List.zipWith (fun x y => gmul p [x, y]) a b
def zipS (q : Int) (a b : List Int) : List Int := List.zipWith (fun x y => (x + y) % q) a b
def addD (p q : Int) (a d : List Int × List Int) : List Int × List Int := (zipC p a.1 d.1, zipS q a.2 d.2)
def sumD (p q : Int) (d0 : List Int × List Int) (ds : List (List Int × List Int)) : List Int × List Int := ds.foldl (addD p q) d0
theorem sumD_take {p q : Int} {d0 : List Int × List Int} {ds : List (List Int × List Int)} {j : Nat} (hj : j < ds.length) : sumD p q d0 (ds.take (j + 1)) = addD p q (sumD p q d0 (ds.take j)) ds[j] := by
  unfold sumD
  rw [List.take_succ_eq_append_getElem hj, List.foldl_append]
  rfl
theorem zipW_set {f : Int → Int → Int} {a b : List Int} {i : Nat} (ha : i < a.length) (hb : i < b.length) : (List.zipWith f (a.take i) (b.take i) ++ a.drop i).set i (f a[i] b[i]) = List.zipWith f (a.take (i + 1)) (b.take (i + 1)) ++ a.drop (i + 1) := by
  have h1 : (List.zipWith f (a.take i) (b.take i)).length = i := by simp; omega
  rw [List.set_append_right _ _ (by omega), h1, Nat.sub_self, List.drop_eq_getElem_cons ha, List.set_cons_zero, List.take_succ_eq_append_getElem ha, List.take_succ_eq_append_getElem hb, List.zipWith_append (by simp; omega)]
  simp
theorem zipW_mid {f : Int → Int → Int} {a b : List Int} {i : Nat} (ha : i < a.length) (hb : i < b.length) (h : i < (List.zipWith f (a.take i) (b.take i) ++ a.drop i).length) : (List.zipWith f (a.take i) (b.take i) ++ a.drop i)[i] = a[i] := by
  have h1 : (List.zipWith f (a.take i) (b.take i)).length = i := by simp; omega
  rw [List.getElem_append_right (by omega)]
  simp [h1]
theorem zipW_len {f : Int → Int → Int} {a b : List Int} {i : Nat} (ha : i ≤ a.length) (hb : i ≤ b.length) : (List.zipWith f (a.take i) (b.take i) ++ a.drop i).length = a.length := by
  simp; omega
theorem zipW_end {f : Int → Int → Int} {a b : List Int} {n : Nat} (ha : a.length = n) (hb : b.length = n) : List.zipWith f (a.take n) (b.take n) ++ a.drop n = List.zipWith f a b := by
  rw [List.take_of_length_le (by omega), List.take_of_length_le (by omega), List.drop_eq_nil_of_le (by omega), List.append_nil]
/-- Of a dealing: its sizes, and ranges. -/
structure RngD (q : Int) (N M : Nat) (d : List Int × List Int) : Prop where
  l1 : d.1.length = N
  l2 : d.2.length = M
  r1 : ∀ y ∈ d.1, 0 ≤ y ∧ y ≤ 3000000000
  r2 : ∀ y ∈ d.2, 0 ≤ y ∧ y ≤ q - 1
theorem RngD.add {p q : Int} {N M : Nat} {a d : List Int × List Int} (h : GrpB p q) (ha : RngD q N M a) (hd : RngD q N M d) : RngD q N M (addD p q a d) := by
  refine ⟨by simp [addD, zipC, ha.l1, hd.l1], by simp [addD, zipS, ha.l2, hd.l2], fun y hy => ?_, fun y hy => ?_⟩
  · obtain ⟨i, hi, rfl⟩ := List.getElem_of_mem hy
    simp only [addD, zipC, List.length_zipWith] at hi
    simp only [addD, zipC, List.getElem_zipWith]
    have h1 := (ha.r1 _ (List.getElem_mem (show i < a.1.length by omega))).1
    have h2 := (hd.r1 _ (List.getElem_mem (show i < d.1.length by omega))).1
    have := gmul_rg h (l := [a.1[i], d.1[i]]) (by intro z hz; simp only [List.mem_cons, List.not_mem_nil, or_false] at hz; rcases hz with rfl | rfl <;> omega)
    omega
  · obtain ⟨i, hi, rfl⟩ := List.getElem_of_mem hy
    simp only [addD, zipS, List.length_zipWith] at hi
    simp only [addD, zipS, List.getElem_zipWith]
    have := h.q1
    have h1 := Int.emod_nonneg (a.2[i] + d.2[i]) (show q ≠ 0 by omega)
    have h2 := Int.emod_lt_of_pos (a.2[i] + d.2[i]) (show 0 < q by omega)
    omega
theorem RngD.sum {p q : Int} {N M : Nat} (h : GrpB p q) : ∀ {ds : List (List Int × List Int)} {d0 : List Int × List Int}, RngD q N M d0 → (∀ d ∈ ds, RngD q N M d) → RngD q N M (sumD p q d0 ds)
  | [], d0, h0, _ => h0
  | d :: ds, d0, h0, hd => RngD.sum h (ds := ds) (h0.add h (hd d (by simp))) fun e he => hd e (by simp [he])
theorem RngD.take {p q : Int} {N M : Nat} (h : GrpB p q) {ds : List (List Int × List Int)} {d0 : List Int × List Int} (h0 : RngD q N M d0) (hd : ∀ d ∈ ds, RngD q N M d) (j : Nat) : RngD q N M (sumD p q d0 (ds.take j)) :=
  RngD.sum h h0 fun d h1 => hd d (List.mem_of_mem_take h1)
theorem OwnK.setA {w : World} {base g n c m d j : Nat} {B : Option Addr} {l k : List Int} (h : OwnK w base (some ⟨g, 0, none⟩) n c B m d l k) (x : Int) : OwnK (w.setCell ⟨g, j, none⟩ (.int .i64 x)) base (some ⟨g, 0, none⟩) n c B m d (l.set j x) k :=
  ⟨h.a.set x, h.b.only (fp := [g]) ((Only.refl _ _).setCell (p := ⟨g, j, none⟩) (by simp) _) (fun b hb hb' => h.ap b (by simpa [fpI] using hb') hb), h.ap⟩
theorem OwnK.setB {w : World} {base g n c m d j : Nat} {A : Option Addr} {l k : List Int} (h : OwnK w base A n c (some ⟨g, 0, none⟩) m d l k) (x : Int) : OwnK (w.setCell ⟨g, j, none⟩ (.int .i64 x)) base A n c (some ⟨g, 0, none⟩) m d l (k.set j x) :=
  ⟨h.a.only (fp := [g]) ((Only.refl _ _).setCell (p := ⟨g, j, none⟩) (by simp) _) (fun b hb hb' => h.ap b hb (by simpa [fpI] using hb')), h.b.set x, h.ap⟩
theorem OwnK.keepBlk {w : World} {g base n c m d : Nat} {t : TypeId} {cs : Array Value} {A B : Option Addr} {l k : List Int} (h : OwnK w base A n c B m d l k) (hB : Blk w g t cs) (hne : t ≠ 3) {w' : World} (ho : Only [g] w w') : OwnK w' base A n c B m d l k :=
  ⟨h.a.keepBlk hB hne ho, h.b.keepBlk hB hne ho, h.ap⟩
theorem RdD.drop1 {w : World} {A : Option Addr} {ds : List (List Int × List Int)} {cap : Nat} (h : RdD w A ds) (hc : ds.length ≤ cap) : RdD w (if cap = 1 then A else A.map (·.add (1 * 2))) (ds.drop 1) := by
  by_cases h1 : ds.length ≤ 1
  · rw [List.drop_eq_nil_of_le h1]; exact .inl rfl
  · rw [if_neg (by omega)]
    rcases h with h | ⟨ad, rfl, hk⟩
    · have := congrArg List.length h
      rw [flD_length] at this
      simp at this; omega
    · refine .inr ⟨ad.add (1 * 2), rfl, fun k hk' => ?_⟩
      rw [flD_length, List.length_drop] at hk'
      have e : (flD ds)[1 * 2 + k]'(by rw [flD_length]; omega) = (flD (ds.drop 1))[k]'(by rw [flD_length, List.length_drop]; omega) := by
        match ds, h1 with
        | d :: ds, _ => 
          have e2 : flD (d :: ds) = d.1 :: d.2 :: flD ds := rfl
          simp only [List.drop_succ_cons, List.drop_zero, e2]
          rw [List.getElem_cons]
          simp [show 1 * 2 + k = k + 1 + 1 by omega]
      obtain ⟨B, n, c, q1, q2, q3⟩ := hk (1 * 2 + k) (by rw [flD_length]; omega)
      rw [e] at q2 q3
      rw [← add_add] at q1
      exact ⟨B, n, c, q1, q2, q3⟩
set_option maxRecDepth 100000 in
set_option maxHeartbeats 8000000 in
theorem sumOf_any (p q g : Int) (A : Option Addr) (n c : Nat) (ds : List (List Int × List Int)) (N M : Nat) (w : World) (hG : GrpB p q) (hq : 2 ≤ q) (hq9 : q ≤ 2000000000) (ha : RdD w A ds) (hl : ds.length = n) (hpos : 0 < n) (hn : n ≤ 100) (hc : n ≤ c ∧ c ≤ maxLen) (hN : N ≤ 1000) (hM : M ≤ 1000) (hr : ∀ d ∈ ds, RngD q N M d) :
    Calls Try.prog 51 #[.agg #[.int .i64 p, .int .i64 q, .int .i64 g], .slice A n c] w fun en w' => ∃ B c' D d', en = .returned (.agg #[.slice B N c', .slice D M d']) ∧ OwnK w' w.heap.size B N c' D M d' (sumD p q (ds[0]'(by omega)) (ds.drop 1)).1 (sumD p q (ds[0]'(by omega)) (ds.drop 1)).2 ∧ Ext w w' := by
  subst hl
  have hq0 : (q == 0) = false := by simp; omega
  have E := ((Ext.refl w).alloc (.cells #[.int .i64 p, .int .i64 q, .int .i64 g] 31)).alloc (.cells #[.slice none 0 0, .slice none 0 0] 68)
  have B0 := (Blk.new w 31 #[.int .i64 p, .int .i64 q, .int .i64 g]).alloc (.cells #[.slice none 0 0, .slice none 0 0] 68)
  have B1 := Blk.new (w.alloc (.cells #[.int .i64 p, .int .i64 q, .int .i64 g] 31)) 68 #[.slice none 0 0, .slice none 0 0]
  simp only [World.size_alloc] at B1
  have HR := Lib.hid hr
  have hcm := hc.2
  unfold maxLen at hcm
  have hd := (ha.ext E).drop1 hc.1
  have hld : (ds.drop 1).length = ds.length - 1 := by simp
  have hr0 := hr _ (List.getElem_mem hpos)
  have hrd : ∀ d ∈ ds.drop 1, RngD q N M d := fun d h1 => hr d (List.mem_of_mem_drop h1)
  have HRD := Lib.hid hrd
  have HLD := Lib.hid hld
  obtain ⟨ad, rfl, A0, n0, c0, C0, m0, d0, hc1, hc2, hs1, hs2⟩ := (ha.ext E).at_ hpos
  rw [Nat.zero_mul, show ad.add 0 = ad from rfl] at hc1 hc2
  have hn0 : n0 = N := by rw [← hs1.len]; exact hr0.l1
  have hm0 : m0 = M := by rw [← hs2.len]; exact hr0.l2
  subst hn0 hm0
  generalize hrest : ds.drop 1 = rest at *
  generalize hd00 : ds[0] = e0 at *
  clear hr hrd hld hrest hd00
  go_enter Try.func51, Try.ntmps51
  go_wp2
  generalize (w.alloc (.cells #[.int .i64 p, .int .i64 q, .int .i64 g] 31)).alloc (.cells #[.slice none 0 0, .slice none 0 0] 68) = Wb at *
  have hS : ∀ V, Ext Wb V → V.cell? ad = some (.slice A0 n0 c0) ∧ V.cell? ⟨ad.block, ad.off + 1, none⟩ = some (.slice C0 m0 d0) := fun V hV => ⟨hV.cell hc1, hV.cell hc2⟩
  go_cut [5] from 12 to 22 (fun c0 wx => ∃ gk A1 c1 D d1, c0 = .pointer (some ⟨gk, 0, none⟩) ∧ Blk wx gk 68 #[.slice A1 n0 c1, .slice D m0 d1] ∧ Wb.heap.size ≤ gk ∧ OwnK wx Wb.heap.size A1 n0 c1 D m0 d1 e0.1 e0.2 ∧ Ext Wb wx)
  case first =>
    go_region_held3 (fun V => V.cell? ad = some (.slice A0 n0 c0) ∧ V.cell? ⟨ad.block, ad.off + 1, none⟩ = some (.slice C0 m0 d0)) (exact hS _ (by repeat (first | with_reducible assumption | with_reducible exact Ext.refl _ | with_reducible apply Ext.alloc | with_reducible apply Ext.drew | with_reducible apply Ext.drewN | with_reducible refine Ext.setCellS ?_ ?_ | focus (show _ ≤ _; first | omega | (simp; done) | (simp; omega)))))
      (first
        | (go_at_call 90; first
            | (have hz := hx2; refine (Clone_any C0 m0 d0 e0.2 _ (hs2.rd.ext (by repeat (first | with_reducible assumption | with_reducible exact Ext.refl _ | with_reducible apply Ext.alloc | with_reducible apply Ext.drew | with_reducible apply Ext.drewN))) hs2.len (by omega)).mono ?_; rintro en w3 ⟨A3, c3, rfl, o3, hb3⟩; have hx3 := Ext.trans (w := Wb) (by repeat (first | with_reducible assumption | with_reducible exact Ext.refl _ | with_reducible apply Ext.alloc | with_reducible apply Ext.drew | with_reducible apply Ext.drewN)) hb3; have hh3 := Ext.trans (w := w2) (by repeat (first | with_reducible assumption | with_reducible exact Ext.refl _ | with_reducible apply Ext.alloc | with_reducible apply Ext.drew | with_reducible apply Ext.drewN)) hb3; have hl3 := o3.high; have o2 := o2.ext hh3; (first | (replace BN := BN.ext (Ext.trans (by repeat (first | with_reducible assumption | with_reducible exact Ext.refl _ | with_reducible apply Ext.alloc | with_reducible apply Ext.drew | with_reducible apply Ext.drewN)) hb3)) | (have BN := Blk.ext (Blk.new _ 68 #[.slice none 0 0, .slice none 0 0]) hb3) | (have BN := Blk.ext (Blk.drew (Blk.new _ 68 #[.slice none 0 0, .slice none 0 0])) hb3) | skip); (first | (have FZ := BN.frozen; have CN := BN.cells) | skip))
            | (refine (Clone_any A0 n0 c0 e0.1 _ (hs1.rd.ext (by repeat (first | with_reducible assumption | with_reducible exact Ext.refl _ | with_reducible apply Ext.alloc | with_reducible apply Ext.drew | with_reducible apply Ext.drewN))) hs1.len (by omega)).mono ?_; rintro en w2 ⟨A2, c2, rfl, o2, hb2⟩; have hx2 := Ext.trans (w := Wb) (by repeat (first | with_reducible assumption | with_reducible exact Ext.refl _ | with_reducible apply Ext.alloc | with_reducible apply Ext.drew | with_reducible apply Ext.drewN)) hb2; have lo2 := o2.low; have hz2 := hx2.size; (first | (replace BN := BN.ext (Ext.trans (by repeat (first | with_reducible assumption | with_reducible exact Ext.refl _ | with_reducible apply Ext.alloc | with_reducible apply Ext.drew | with_reducible apply Ext.drewN)) hb2)) | (have BN := Blk.ext (Blk.new _ 68 #[.slice none 0 0, .slice none 0 0]) hb2) | (have BN := Blk.ext (Blk.drew (Blk.new _ 68 #[.slice none 0 0, .slice none 0 0])) hb2) | skip))
            | fail)
        | fail)
    all_goals
      go_wp2
      go_meet
      first
        | exact ⟨_, _, _, _, _, rfl, Blk.new w3 68 #[.slice A2 n0 c2, .slice A3 m0 c3], hx3.size, (OwnK.mk (o2.more (by first | exact Nat.le_refl _ | omega | (simp; done) | (simp; omega))) (o3.more (by first | exact Nat.le_refl _ | omega | (simp; done) | (simp; omega))) (Apart.of_low lo2 (hl3.mono (by first | exact Nat.le_refl _ | omega | (simp; done) | (simp; omega))))).ext ((Ext.refl w3).alloc _), hx3.alloc _⟩
        | exact ⟨_, _, _, _, _, rfl, (BN.set_ 0 _).set_ 1 _, (by first | exact Nat.le_refl _ | omega | (simp; done) | (simp; omega)), OwnK.keepBlk (OwnK.mk (o2.more (by first | exact Nat.le_refl _ | omega | (simp; done) | (simp; omega))) (o3.more (by first | exact Nat.le_refl _ | omega | (simp; done) | (simp; omega))) (Apart.of_low lo2 (hl3.mono (by first | exact Nat.le_refl _ | omega | (simp; done) | (simp; omega))))) BN (by decide) (only_two _ _ _ _ _ _), Ext.only1 hx3 (by first | exact Nat.le_refl _ | omega | (simp; done) | (simp; omega)) (only_two _ _ _ _ _ _)⟩
        | exact ⟨_, _, _, _, _, rfl, (BN.set_ 0 _).set_ 1 _, (by first | exact Nat.le_refl _ | omega | (simp; done) | (simp; omega)), OwnK.keepBlk (OwnK.mk (o2.more (by first | exact Nat.le_refl _ | omega | (simp; done) | (simp; omega))) (o3.more (by first | exact Nat.le_refl _ | omega | (simp; done) | (simp; omega))) (Apart.of_low lo2 (hl3.mono (by first | exact Nat.le_refl _ | omega | (simp; done) | (simp; omega))))) BN (by decide) (only_two _ _ _ _ _ _), Ext.only1 hx3 (by first | exact Nat.le_refl _ | omega | (simp; done) | (simp; omega)) (only_two _ _ _ _ _ _)⟩
  case' rest =>
    obtain ⟨gk, A1, c1, D, d1, rfl, BK, hgk, OK, E2⟩ := hcut
    go_upto_region 2 with (fail)
    go_cut [24, 25, 26] from 23 to 23 (fun s n k wx => ∃ A2, s = .slice A2 (ds.length - 1) (c - 1) ∧ n = .int .i64 ((ds.length - 1 : Nat) : Int) ∧ k = .int .i64 0 ∧ RdD Wb A2 rest ∧ wx = wc)
    case first =>
      go_wp2
      case inl => subst h; go_meet; exact ⟨_, rfl, rfl, rfl, by simpa [Addr.add] using hd, rfl⟩
      case inr => go_meet; exact ⟨_, rfl, rfl, rfl, by simpa [Addr.add, h] using hd, rfl⟩
    case' rest =>
    clear hd
    obtain ⟨A2, rfl, rfl, rfl, hd, rfl⟩ := hcut
    go_wp2
    go_loopw [26] (fun k wr => ∃ j : Nat, j ≤ rest.length ∧ k = .int .i64 j ∧ OwnK wr Wb.heap.size A1 n0 c1 D m0 d1 (sumD p q e0 (rest.take j)).1 (sumD p q e0 (rest.take j)).2 ∧ Blk wr gk 68 #[.slice A1 n0 c1, .slice D m0 d1] ∧ Ext Wb wr) (fun k _ => rest.length - (intOf k).toNat)
    case atStart => exact ⟨0, Nat.zero_le _, rfl, OK, BK, E2⟩
    case round =>
      clear OK BK E2
      obtain ⟨j, hj, rfl, OK, BK, E2⟩ := hrel
      by_cases hlt : j < rest.length
      · obtain ⟨bd, hbd, X, x1, x2, Y, y1, y2, hx1, hx2, hsx, hsy⟩ := hd.at_ hlt
        have hdj := HRD.out _ (List.getElem_mem hlt)
        have hst := Lib.hid (sumD_take (p := p) (q := q) (d0 := e0) hlt)
        have hra := RngD.take hG hr0 HRD.out j
        generalize sumD p q e0 (rest.take j) = acc at *
        generalize rest[j] = dd at *
        have hn1 : n0 = x1 := by rw [← hsx.len]; exact hdj.l1.symm
        have hm1 : m0 = y1 := by rw [← hsy.len]; exact hdj.l2.symm
        subst hn1 hm1
        subst hbd
        have hj2 : j < ds.length - 1 := by have := HLD.out; omega
        have hcx := E2.cell hx1
        have hcy := E2.cell hx2
        have E3 := E2.alloc (.cells #[.slice X n0 x2, .slice Y m0 y2] 68)
        have BK3 := BK.alloc (.cells #[.slice X n0 x2, .slice Y m0 y2] 68)
        have OK3 := OK.ext ((Ext.refl wr).alloc (.cells #[.slice X n0 x2, .slice Y m0 y2] 68))
        have B3 := Blk.new wr 68 #[.slice X n0 x2, .slice Y m0 y2]
        have CB3 := B3.cells
        go_wp2
        clear CB3 BK OK E2 hcx hcy
        generalize wr.heap.size = g7 at *
        generalize wr.alloc (.cells #[.slice X n0 x2, .slice Y m0 y2] 68) = w7 at *
        go_loopw [33] (fun k wi => ∃ i : Nat, i ≤ n0 ∧ k = .int .i64 i ∧ OwnK wi Wb.heap.size A1 n0 c1 D m0 d1 (List.zipWith (fun x y => gmul p [x, y]) (acc.1.take i) (dd.1.take i) ++ acc.1.drop i) acc.2 ∧ Blk wi gk 68 #[.slice A1 n0 c1, .slice D m0 d1] ∧ Blk wi g7 68 #[.slice X n0 x2, .slice Y m0 y2] ∧ Ext Wb wi) (fun k _ => n0 - (intOf k).toNat)
        case atStart => exact ⟨0, Nat.zero_le _, rfl, by simpa using OK3, BK3, B3, E3⟩
        case round =>
          clear OK3 BK3 B3 E3
          obtain ⟨i, hi, rfl, OK4, BK4, B4, E4⟩ := hrel
          by_cases hit : i < n0
          · obtain ⟨xd, rfl, hcd⟩ := (hsx.rd.ext E4).at_ (k := i) (by rw [hsx.len]; exact hit)
            obtain ⟨gA, rfl, hgA, _⟩ := OK4.a.addr (by omega)
            have hai : i < acc.1.length := by rw [hra.l1]; exact hit
            have hdi : i < dd.1.length := by rw [hdj.l1]; exact hit
            have hzl := zipW_len (f := fun x y => gmul p [x, y]) (a := acc.1) (b := dd.1) (i := i) (by omega) (by omega)
            have hz0 : i < (List.zipWith (fun x y => gmul p [x, y]) (acc.1.take i) (dd.1.take i) ++ acc.1.drop i).length := by rw [hzl]; exact hai
            have hset := Lib.hid (zipW_set (f := fun x y => gmul p [x, y]) hai hdi)
            have hat : ∀ V, Ext wr V → V.cell? ⟨gA, i, none⟩ = some (.int .i64 acc.1[i]) ∧ V.frozen? ⟨gA, i, none⟩ = false := fun V hV => by
              have h1 := (OK4.ext hV).a.at0 i hz0
              rw [zipW_mid hai hdi hz0] at h1
              exact h1
            have hxr := hra.r1 _ (List.getElem_mem hai)
            have hyr := hdj.r1 _ (List.getElem_mem hdi)
            generalize acc.1[i] = x at *
            generalize dd.1[i] = y at *
            clear hz0 hzl
            go_wp2
            have hcells : ∀ V, Ext wr V → V.cell? ⟨w.heap.size, 0, none⟩ = some (.int .i64 p) ∧ V.cell? ⟨w.heap.size, 1, none⟩ = some (.int .i64 q) ∧ V.cell? ⟨w.heap.size, 2, none⟩ = some (.int .i64 g) ∧ V.cell? ⟨gk, 0, none⟩ = some (.slice (some ⟨gA, 0, none⟩) n0 c1) := fun V hV => by
              have a0 := (B0.ext (E4.trans hV)).cells
              have a1 := (BK4.ext hV).cells
              exact ⟨a0 0, a0 1, a0 2, a1 0⟩
            obtain ⟨k0, k1, k2, k3⟩ := hcells _ (Ext.refl wr)
            obtain ⟨k4, k5⟩ := hat _ (Ext.refl wr)
            obtain ⟨j0, j1, j2, j3⟩ := hcells _ ((Ext.refl wr).drew)
            obtain ⟨j4, j5⟩ := hat _ ((Ext.refl wr).drew)
            obtain ⟨l0, l1, l2, l3⟩ := hcells _ ((Ext.refl wr).alloc (.cells #[.int .i64 x, .int .i64 y] 3))
            obtain ⟨l4, l5⟩ := hat _ ((Ext.refl wr).alloc (.cells #[.int .i64 x, .int .i64 y] 3))
            obtain ⟨i0, i1, i2, i3⟩ := hcells _ (((Ext.refl wr).drew).alloc (.cells #[.int .i64 x, .int .i64 y] 3))
            obtain ⟨i4, i5⟩ := hat _ (((Ext.refl wr).drew).alloc (.cells #[.int .i64 x, .int .i64 y] 3))
            go_region_law (first | (go_simp; go_at_call 84; refine (mul_any p q g _ 2 2 [x, y] _ hG (by first | exact rd_two rfl | exact RdI.ext (rd_two rfl) (Ext.drew (Ext.refl _))) rfl (by decide) (two_rg (by omega) (by omega))).mono ?_; rintro en w5 ⟨rfl, hb5⟩; have hx5 := Ext.trans (w := wr) (by repeat (first | with_reducible assumption | with_reducible exact Ext.refl _ | with_reducible apply Ext.alloc | with_reducible apply Ext.drew | with_reducible apply Ext.drewN)) hb5; obtain ⟨n0', n1', n2', n3'⟩ := hcells _ hx5; obtain ⟨n4', n5'⟩ := hat _ hx5) | fail)
            all_goals
              go_wp2
              go_roundw
              case rel => exact ⟨i + 1, by omega, by go_num, by have h9 := (OK4.ext hx5).setA (j := i) (gmul p [x, y]); rw [hset.out] at h9; exact h9, (BK4.ext hx5).far (p := ⟨gA, i, none⟩) (fun e => (BK4.off_own OK4.a.w (by decide)) (by simp [fpI, e])) _, (B4.ext hx5).far (p := ⟨gA, i, none⟩) (fun e => (B4.off_own OK4.a.w (by decide)) (by simp [fpI, e])) _, (E4.trans hx5).setCell (p := ⟨gA, i, none⟩) hgA _⟩
              case measure => simp [intOf]; omega
          · obtain rfl : n0 = i := by omega
            rw [zipW_end hra.l1 hdj.l1] at OK4
            have CB4 := B4.cells
            go_wp2
            clear CB4
            go_loopw [55] (fun k wi => ∃ i : Nat, i ≤ m0 ∧ k = .int .i64 i ∧ OwnK wi Wb.heap.size A1 n0 c1 D m0 d1 (List.zipWith (fun x y => gmul p [x, y]) acc.1 dd.1) (List.zipWith (fun x y => (x + y) % q) (acc.2.take i) (dd.2.take i) ++ acc.2.drop i) ∧ Blk wi gk 68 #[.slice A1 n0 c1, .slice D m0 d1] ∧ Ext Wb wi) (fun k _ => m0 - (intOf k).toNat)
            case atStart => exact ⟨0, Nat.zero_le _, rfl, by simpa using OK4, BK4, E4⟩
            case round =>
              clear OK4 BK4 E4 B4
              obtain ⟨i, hi, rfl, OK4, BK4, E4⟩ := hrel
              by_cases hit : i < m0
              · obtain ⟨xd, rfl, hcd⟩ := (hsy.rd.ext E4).at_ (k := i) (by rw [hsy.len]; exact hit)
                obtain ⟨gD, rfl, hgD, _⟩ := OK4.b.addr (by omega)
                have hai : i < acc.2.length := by rw [hra.l2]; exact hit
                have hdi : i < dd.2.length := by rw [hdj.l2]; exact hit
                have hzl := zipW_len (f := fun x y => (x + y) % q) (a := acc.2) (b := dd.2) (i := i) (by omega) (by omega)
                have hz0 : i < (List.zipWith (fun x y => (x + y) % q) (acc.2.take i) (dd.2.take i) ++ acc.2.drop i).length := by rw [hzl]; exact hai
                have hset := Lib.hid (zipW_set (f := fun x y => (x + y) % q) hai hdi)
                have hat : ∀ V, Ext wr V → V.cell? ⟨gD, i, none⟩ = some (.int .i64 acc.2[i]) ∧ V.frozen? ⟨gD, i, none⟩ = false := fun V hV => by
                  have h1 := (OK4.ext hV).b.at0 i hz0
                  rw [zipW_mid hai hdi hz0] at h1
                  exact h1
                have hxr := hra.r2 _ (List.getElem_mem hai)
                have hyr := hdj.r2 _ (List.getElem_mem hdi)
                generalize acc.2[i] = x at *
                generalize dd.2[i] = y at *
                clear hz0 hzl
                have f1 := Int.emod_nonneg (x + y) (show q ≠ 0 by omega)
                have f2 := Int.emod_lt_of_pos (x + y) (show 0 < q by omega)
                have hws : IntKind.i64.wrap (x + y) = x + y := by rw [IntKind.wrap_i64]; omega
                have htm : (x + y).tmod q = (x + y) % q := Int.tmod_eq_emod_of_nonneg (by omega)
                go_wp2
                have hcells : ∀ V, Ext wr V → V.cell? ⟨w.heap.size, 0, none⟩ = some (.int .i64 p) ∧ V.cell? ⟨w.heap.size, 1, none⟩ = some (.int .i64 q) ∧ V.cell? ⟨w.heap.size, 2, none⟩ = some (.int .i64 g) ∧ V.cell? ⟨gk, 1, none⟩ = some (.slice (some ⟨gD, 0, none⟩) m0 d1) := fun V hV => by
                  have a0 := (B0.ext (E4.trans hV)).cells
                  have a1 := (BK4.ext hV).cells
                  exact ⟨a0 0, a0 1, a0 2, a1 1⟩
                obtain ⟨k0, k1, k2, k3⟩ := hcells _ (Ext.refl wr)
                obtain ⟨k4, k5⟩ := hat _ (Ext.refl wr)
                obtain ⟨j0, j1, j2, j3⟩ := hcells _ ((Ext.refl wr).drew)
                obtain ⟨j4, j5⟩ := hat _ ((Ext.refl wr).drew)
                go_region_law (first | (go_simp; go_at_call 50; refine (exp_any p q g (x + y) _ hG (by omega) (by omega)).mono ?_; rintro en w5 ⟨rfl, hb5⟩; have hx5 := Ext.trans (w := wr) (by repeat (first | with_reducible assumption | with_reducible exact Ext.refl _ | with_reducible apply Ext.alloc | with_reducible apply Ext.drew | with_reducible apply Ext.drewN)) hb5; obtain ⟨p0, p1, p2, p3⟩ := hcells _ hx5; obtain ⟨p4, p5⟩ := hat _ hx5) | fail)
                all_goals
                  go_wp2
                  go_roundw
                  case rel => exact ⟨i + 1, by omega, by go_num, by have h9 := (OK4.ext hx5).setB (j := i) ((x + y) % q); rw [hset.out] at h9; exact h9, (BK4.ext hx5).far (p := ⟨gD, i, none⟩) (fun e => (BK4.off_own OK4.b.w (by decide)) (by simp [fpI, e])) _, (E4.trans hx5).setCell (p := ⟨gD, i, none⟩) hgD _⟩
                  case measure => simp [intOf]; omega
              · obtain rfl : m0 = i := by omega
                rw [zipW_end hra.l2 hdj.l2] at OK4
                go_wp2
                go_roundw
                case rel => exact ⟨j + 1, by omega, by go_num, by rw [hst.out]; exact OK4, BK4, E4⟩
                case measure => simp [intOf]; omega
      · obtain rfl : j = rest.length := by omega
        rw [List.take_length] at OK
        have hj2 : ¬ (rest.length < ds.length - 1) := by have := HLD.out; omega
        have BF := B1.ext E2
        have FZ := BF.frozen
        have CN := BF.cells
        have CK := BK.cells
        have CZ := ((BF.set_ 0 (.slice A1 n0 c1)).set_ 1 (.slice D m0 d1)).cells
        have hsz := E.size
        go_wp2
        refine bodyPost_ret (v := .agg #[.slice A1 n0 c1, .slice D m0 d1]) (by simp [results, Try.results51, CZ, go_sem]) rfl ⟨A1, c1, D, d1, rfl, (OK.keepBlk BF (by decide) (only_two _ _ _ _ _ _)).more hsz, (E.trans E2).only1 (by simp) (only_two _ _ _ _ _ _)⟩
end Go.Proofs.Ytnhdohjlbchniaa

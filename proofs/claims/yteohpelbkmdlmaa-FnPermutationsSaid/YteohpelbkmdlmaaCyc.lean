/- Contracts for cycles: the reference's and the program's; CyclesOf and SignOf. -/
import Derived.Test.YteohpelbkmdlmaaProg
import Derived.Deep.OwnRows
import Derived.Deep.CutRange
import Derived.Test.YteohpelbkmdlmaaCycP
import Derived.Test.YteohpelbkmdlmaaEqSS
import Derived.Test.YteohpelbkmdlmaaApplyC
namespace Go.Proofs.Yteohpelbkmdlmaa
open Go.RowKit

def bools (l : List Bool) : List Value := l.map Value.bool
theorem bools_length (l : List Bool) : (bools l).length = l.length := by simp [bools]
theorem bools_set (l : List Bool) (j : Nat) (b : Bool) : (bools l).set j (.bool b) = bools (l.set j b) := by simp [bools, List.map_set]
theorem bools_get {l : List Bool} {j : Nat} (h : j < l.length) : (bools l)[j]'(by rw [bools_length]; exact h) = .bool l[j] := by simp [bools]
theorem bools_replicate (n : Nat) : bools (List.replicate n false) = List.replicate n (.bool false) := by simp [bools]
theorem boolSl : ValSl Try.prog 155 4 (.bool false) 1 := by
  refine ⟨Try.underlying155, ?_, rfl⟩
  have h : (Try.prog.info? 4).map (fun i => (i.zero, i.size, i.bytes)) = some (some (.bool false), 1, 1) := by kernel_rfl
  exact info_parts h
theorem OwnII.apartV {w : World} {base n c b e m d : Nat} {A B : Option Addr} {P : List Nat} {ls : List (List Int)} {xs : List Value} (h : OwnII w base A n c P ls) (k : OwnV w b e B m d xs) (h1 : e ≠ 22) (h2 : e ≠ 3) : Apart (fpI B) P := by
  obtain ⟨rs, hV, hl, hI, hd, rfl⟩ := h
  intro x hx hx'
  rcases List.mem_append.1 hx' with hx' | hx'
  · exact apart_types k hV h1 x hx hx'
  · obtain ⟨r, hr, hx'⟩ := rowsFp_mem.1 hx'
    obtain ⟨i, hi, rfl⟩ := List.getElem_of_mem hr
    exact apart_types k (hI i hi (by omega)).v h2 x hx hx'
/-- A result of the make ([][]int, bool). -/
def ResSS (w : World) (r : Option (List (List Int))) (e : Ending) (w' : World) : Prop :=
  ∃ (A : Option Addr) (n c : Nat) (P : List Nat), e = .returned (.tuple #[.slice A n c, .bool r.isSome]) ∧ OwnII w' w.heap.size A n c P (r.getD []) ∧ Ext w w'

theorem getD_some' {l : List Bool} {k : Nat} (h : k < l.length) : l.getD k true = l[k] := by simp [List.getD, h]
theorem permD {p : List Int} (h : allR p 0 (p.length - 1) = true) {k : Nat} (hk : k < p.length) : ∃ K : Nat, p[k] = (K : Int) ∧ K < p.length ∧ (p.getD k 0).toNat = K := by
  have hr := allR_at h hk
  obtain ⟨K, hK⟩ := Int.eq_ofNat_of_zero_le hr.1
  refine ⟨K, hK, by omega, ?_⟩
  simp [List.getD, hk, hK]

/-- The relation of the inner loop. -/
def CycRel (p : List Int) (base0 : Nat) (S : Option Addr) (wr : World) (sn0 : List Bool) (j : Nat) (own k : Value) (w' : World) : Prop :=
  ∃ (t : Nat) (B : Option Addr) (m d : Nat) (l : List Int) (sn : List Bool), t < p.length ∧ k = .int .i64 t ∧ own = .slice B m d ∧ OwnI w' wr.heap.size 3 B m d l ∧
    OwnV w' base0 4 S p.length p.length (bools sn) ∧ sn.length = p.length ∧ m + sn.count false = sn0.count false ∧ cyc p sn t l = cyc p sn0 j [] ∧ Only (fpI S) wr w'
def lenOf : Value → Nat
  | .slice _ n _ => n
  | _ => 0
theorem cyc_le (l : List Bool) : l.count false ≤ l.length := List.count_le_length

set_option maxRecDepth 100000 in
set_option maxHeartbeats 2000000 in
theorem mCycles_any (A : Option Addr) (n c : Nat) (p : List Int) (w : World) (ha : RdI w A p) (hl : p.length = n) (h24 : n ≤ 24) (hR : allR p 0 (n - 1) = true) :
    Calls Try.prog 120 #[.slice A n c] w fun e w' => ∃ A' n' c' P, e = .returned (.slice A' n' c') ∧ OwnII w' w.heap.size A' n' c' P (cycAt p n).1 ∧ Ext w w' := by
  subst hl
  have HR := Lib.hid hR
  clear hR
  go_enter Try.func120, Try.ntmps120
  go_wp2_with (at_make; refine wpList_mkV boolSl rfl _ _ rfl _ _ _ _ p.length rfl rfl rfl rfl (by omega) (by omega) w.heap.size (Nat.le_refl _) ?_; intro w1 hO hE hz)
  go_loopw [3, 13] (fun o i wr => ∃ (j : Nat) (A' : Option Addr) (m c' : Nat) (P : List Nat), j ≤ p.length ∧ i = .int .i64 j ∧ o = .slice A' m c' ∧ OwnII wr w.heap.size A' m c' P (cycAt p j).1 ∧ OwnV wr w.heap.size 4 (some ⟨w.heap.size, 0, none⟩) p.length p.length (bools (cycAt p j).2) ∧ Ext w wr) (fun _ i _ => p.length - (intOf i).toNat)
  case atStart => exact ⟨0, none, 0, 0, _, Nat.zero_le _, rfl, rfl, OwnII.nil _ _, by simpa [cycAt, bools_replicate] using hO, hE⟩
  case round =>
    clear hO hE hz
    obtain ⟨j, A', m, c', P, hj, rfl, rfl, hII, hS, hE⟩ := hrel
    obtain ⟨wo, rfl⟩ : ∃ wo : World, wo = wr := ⟨_, rfl⟩
    generalize hgs : w.heap.size = g at *
    have HGS := Lib.hid hgs
    clear hgs
    by_cases hlt : j < p.length
    · obtain ⟨f1, f2, f3⟩ := cycAt_facts p j
      have hII0 := hII.len
      have hmb : m ≤ 24 := by omega
      have hSl : j < (cycAt p j).2.length := by rw [f1]; exact hlt
      obtain ⟨hs1, hs2⟩ := hS.at0 j (by rw [bools_length]; exact hSl)
      rw [bools_get hSl] at hs1
      have hgd := getD_some' hSl
      have hwz : g ≤ wo.heap.size := by rw [← HGS.out]; exact hE.size
      cases hb : (cycAt p j).2[j]
      · rw [hb] at hs1 hgd
        have hne : (cyc p (cycAt p j).2 j []).1 ≠ [] := by
          have := (cyc_facts p _ (cycAt p j).2 j [] rfl).2.2.2 hgd
          intro he; rw [he] at this; simp at this
        have hn1 : cycAt p (j + 1) = ((cycAt p j).1 ++ [(cyc p (cycAt p j).2 j []).1], (cyc p (cycAt p j).2 j []).2) := by rw [cycAt, if_neg hne]
        have hcl := cyc_le (cycAt p j).2
        rw [f1] at hcl
        have hgl := (hS.lt _ rfl).2
        have HN := Lib.hid hn1
        clear hb hgd hne hn1 f2 f3 hII0
        have F1 := Lib.hid f1
        clear f1
        generalize hsn0 : (cycAt p j).2 = sn0 at *
        clear hsn0
        have hap : Apart P (fpI (some (⟨g, 0, none⟩ : Addr))) := fun b h1 h2 => hII.apartV hS (by decide) (by decide) b h2 h1
        have HAP := Lib.hid hap
        clear hap
        go_wp2
        go_loopw [6, 7] (fun own k w' => CycRel p g (some ⟨g, 0, none⟩) wo sn0 j own k w') (fun own _ _ => p.length - lenOf own)
        case atStart => exact ⟨j, none, 0, 0, [], _, hlt, rfl, rfl, OwnI.nil _ _ _, hS, F1.out, by simp, rfl, Only.refl _ _⟩
        case round =>
          clear hs1 hs2
          obtain ⟨t, B, m', d, l, sn, ht, rfl, rfl, hO, hS', hsl, hcnt, hcyc, hon⟩ := hrel
          have hcl2 := cyc_le sn
          have hts : t < sn.length := by omega
          obtain ⟨g1, g2⟩ := hS'.at0 t (by rw [bools_length]; exact hts)
          rw [bools_get hts] at g1
          have hgd := getD_some' hts
          have hon' := hE.only hon (by rw [HGS.out]; exact hS.high)
          cases hb : sn[t]
          · rw [hb] at g1 hgd
            have hcf := cf_set sn t hgd
            obtain ⟨K, hK, hKn, hKd⟩ := permD HR.out ht
            have hgo := cyc_go (p := p) (acc := l) hgd
            rw [hKd, hcyc] at hgo
            have HGO := Lib.hid hgo
            have hO1 := hO.only ((Only.refl [g] wr).setCell (p := ⟨g, t, none⟩) (by simp) (.bool true)) (fun b h1 h2 => apart_types hO.v hS' (by decide) b h1 (by simpa [fpI] using h2))
            have hS1 := hS'.set (j := t) (.bool true)
            rw [bools_set] at hS1
            have hon1 := hon.setCell (p := ⟨g, t, none⟩) (by simp [fpI]) (.bool true)
            have hz1 := hon1.size
            obtain ⟨ad, hA, hcell⟩ := ha.at_ ht
            subst hA
            rw [hK] at hcell
            clear hb hgd hgo hcyc hO hK hKd
            go_wp2_with (at_builtin; refine wpList_app1h intSl rfl _ _ rfl hO1 rfl rfl (by simp) (by omega) hz1 ?_; intro A2 c2 w4 hO2 hb2; have hon2 := hon1.thenBelow hb2 (Nat.le_refl _); have hcell2 := (hE.only hon2 (by rw [HGS.out]; exact hS.high)).cell hcell; clear hcell)
            have hS2 := hS1.keep (w' := w4) (fun a h => by injection h with h; subst h; exact hb2.block g hgl)
            go_roundw
            case rel => exact ⟨K, A2, m' + 1, c2, l ++ [(t : Int)], sn.set t true, hKn, rfl, rfl, hO2, hS2, by rw [List.length_set]; exact hsl, by omega, HGO.out.symm, hon2⟩
            case measure => simp [lenOf]; omega
          · rw [hb] at g1 hgd
            have hst := cyc_stop (p := p) (acc := l) hgd
            rw [hcyc] at hst
            have hn2 := HN.out
            rw [hst] at hn2
            have HN2 := Lib.hid hn2
            have hII' := hII.only hon HAP.out
            have hO' := hO.more hwz
            have hap2 : Apart (fpI B) P := Apart.of_high hII.low hO.high
            have hap3 := hII'.apartV hS' (by decide) (by decide)
            have hAP := hII'.fpA
            have hhi := hII'.high
            have hz1 := hon.size
            clear hb hgd hst hcyc hn2
            go_wp2_with (at_builtin; refine wpList_app1S rfl _ _ rfl hII' hO' hap2 rfl rfl (by omega) (by omega) ?_; intro A3 c3 P3 w5 hII3 hon3)
            have hS3 := hS'.only hon3 (fun b h1 h2 => hap3 b h1 (hAP b h2))
            have hE3 := hon'.only hon3 (by rw [HGS.out]; exact fun b hb => hhi b (hAP b hb))
            go_wp2
            go_roundw
            case rel => exact ⟨j + 1, A3, m + 1, c3, P3, by omega, by go_num, rfl, by rw [HN2.out]; exact hII3, by rw [HN2.out]; exact hS3, hE3⟩
            case measure => simp [intOf]; omega
      · rw [hb] at hs1 hgd
        have hst := cyc_stop (p := p) (acc := []) hgd
        have hn2 : cycAt p (j + 1) = cycAt p j := by rw [cycAt, hst]; simp
        have HN2 := Lib.hid hn2
        clear hb hgd hst hn2 hII0 f1 f2 f3
        go_wp2
        go_roundw
        case rel => exact ⟨j + 1, A', m, c', P, by omega, by go_num, rfl, by rw [HN2.out]; exact hII, by rw [HN2.out]; exact hS, hE⟩
        case measure => simp [intOf]; omega
    · obtain rfl : j = p.length := by omega
      go_wp2
      go_ret
      exact ⟨_, _, _, _, rfl, by rw [HGS.out]; exact hII, hE⟩

def CycStart (n : Nat) (w : World) (o s : Value) (wx : World) : Prop := ∃ go gs, o = .slice (some ⟨go, 0, none⟩) 0 0 ∧ s = .slice (some ⟨gs, 0, none⟩) n n ∧
  OwnII wx w.heap.size (some ⟨go, 0, none⟩) 0 0 [go] [] ∧ OwnV wx w.heap.size 4 (some ⟨gs, 0, none⟩) n n (bools (List.replicate n false)) ∧ Ext w wx
theorem cycStart1 {n : Nat} {w w1 : World} {go gs : Nat} (h : n ≤ 24) (e1 : w1.heap[go]? = some (.cells #[] 22 (0, 0))) (e2 : w1.heap[gs]? = some (.cells (madeCells #[.bool false] n) 4 (0, 0))) (h1 : w.heap.size ≤ go) (h2 : w.heap.size ≤ gs) (hE : Ext w w1) :
    CycStart n w (.slice (some ⟨go, 0, none⟩) 0 0) (.slice (some ⟨gs, 0, none⟩) n n) w1 := by
  refine ⟨go, gs, rfl, rfl, ⟨[], ⟨rfl, .inr ⟨go, 0, #[], rfl, h1, e1, Nat.le_refl _, Nat.zero_le _, rfl, rfl⟩⟩, rfl, fun i h => absurd h (by simp), by simp [rowsFp], by simp [rowsFp, fpI]⟩, ⟨by simp [bools], .inr ⟨gs, n, _, rfl, h2, e2, Nat.le_refl _, by unfold maxLen; omega, by simp [size_madeCells], ?_⟩⟩, hE⟩
  rw [toList_madeCells_one, bools_replicate]
  exact List.take_of_length_le (by simp)
theorem heap_two0 (w : World) (a b : Obj) : ((w.alloc a).alloc b).drew.heap[w.heap.size]? = some a := (Below.heap_alloc (w.alloc a) b w.heap.size (by simp)).trans (heap_alloc_new w a)
theorem heap_two1 (w : World) (a b : Obj) : ((w.alloc a).alloc b).drew.heap[w.heap.size + 1]? = some b := by
  have h := heap_alloc_new (w.alloc a) b
  rw [World.size_alloc] at h
  exact h
set_option maxRecDepth 100000 in
set_option maxHeartbeats 2000000 in
theorem cycles_any (A : Option Addr) (n c : Nat) (p : List Int) (w : World) (ha : RdI w A p) (hl : p.length = n) (h24 : n ≤ 24) (hR : allR p 0 (n - 1) = true) :
    Calls Try.prog 122 #[.slice A n c] w fun e w' => ∃ A' n' c' P, e = .returned (.slice A' n' c') ∧ OwnII w' w.heap.size A' n' c' P (cycAt p n).1 ∧ Ext w w' := by
  subst hl
  have HR := Lib.hid hR
  clear hR
  have h3 : (Try.prog.info? 4).map (fun i => (i.zero, i.size, i.bytes)) = some (some (.bool false), 1, 1) := by kernel_rfl
  have hmk := run_make_row' (P := Try.prog) 155 4 (.bool false) 1 Try.underlying155 h3 rfl .i64 .i64 p.length (by omega) (by omega)
  clear h3
  go_enter Try.func122, Try.ntmps122
  go_upto_region 1 with (fail)
  go_cut [3, 4] from 8 to 11 (fun o s wx => CycStart p.length w o s wx)
  case first =>
    go_region
    all_goals
      go_wp2
      go_meet
      first
      | exact cycStart1 (go := w.heap.size) (gs := w.heap.size + 1) h24 (heap_two0 _ _ _) (heap_two1 _ _ _) (by omega) (by omega) ((((Ext.refl w).alloc _).alloc _).drew)
      | exact cycStart1 (go := w.heap.size + 1) (gs := w.heap.size) h24 (heap_two1 _ _ _) (heap_two0 _ _ _) (by omega) (by omega) ((((Ext.refl w).alloc _).alloc _).drew)
  case rest =>
  clear hmk
  obtain ⟨go, gs, rfl, rfl, hII0, hO, hE⟩ := hcut
  go_wp2
  go_loopw [3, 14] (fun o i wr => ∃ (j : Nat) (A' : Option Addr) (m c' : Nat) (P : List Nat), j ≤ p.length ∧ i = .int .i64 j ∧ o = .slice A' m c' ∧ OwnII wr w.heap.size A' m c' P (cycAt p j).1 ∧ OwnV wr w.heap.size 4 (some ⟨gs, 0, none⟩) p.length p.length (bools (cycAt p j).2) ∧ Ext w wr) (fun _ i _ => p.length - (intOf i).toNat)
  case atStart => exact ⟨0, _, 0, 0, _, Nat.zero_le _, rfl, rfl, hII0, hO, hE⟩
  case round =>
    clear hO hE hII0
    obtain ⟨j, A', m, c', P, hj, rfl, rfl, hII, hS, hE⟩ := hrel
    obtain ⟨wo, rfl⟩ : ∃ wo : World, wo = wr := ⟨_, rfl⟩
    by_cases hlt : j < p.length
    · obtain ⟨f1, f2, f3⟩ := cycAt_facts p j
      have hII0 := hII.len
      have hmb : m ≤ 24 := by omega
      have hwz := hE.size
      have hn1 : cycAt p (j + 1) = (if (cyc p (cycAt p j).2 j []).1 = [] then (cycAt p j).1 else (cycAt p j).1 ++ [(cyc p (cycAt p j).2 j []).1], (cyc p (cycAt p j).2 j []).2) := rfl
      have hcl := cyc_le (cycAt p j).2
      rw [f1] at hcl
      have hgl := (hS.lt _ rfl).2
      have HN := Lib.hid hn1
      clear hn1 f2 f3 hII0
      have F1 := Lib.hid f1
      clear f1
      generalize hsn0 : (cycAt p j).2 = sn0 at *
      clear hsn0
      have hap : Apart P (fpI (some (⟨gs, 0, none⟩ : Addr))) := fun b h1 h2 => hII.apartV hS (by decide) (by decide) b h2 h1
      have HAP := Lib.hid hap
      clear hap
      go_wp2
      go_loopw [6, 7] (fun own k w' => CycRel p w.heap.size (some ⟨gs, 0, none⟩) wo sn0 j own k w') (fun own _ _ => p.length - lenOf own)
      case atStart => exact ⟨j, _, 0, 0, [], _, hlt, rfl, rfl, ownI_lit [] rfl rfl (Nat.le_refl _) (Nat.zero_le _), hS.ext ((Ext.refl wo).alloc _), F1.out, by simp, rfl, ((Ext.refl wo).alloc _).toOnly _⟩
      case round =>
        obtain ⟨t, B, m', d, l, sn, ht, rfl, rfl, hO, hS', hsl, hcnt, hcyc, hon⟩ := hrel
        have hcl2 := cyc_le sn
        have hts : t < sn.length := by omega
        obtain ⟨g1, g2⟩ := hS'.at0 t (by rw [bools_length]; exact hts)
        rw [bools_get hts] at g1
        have hgd := getD_some' hts
        have hon' := hE.only hon hS.high
        cases hb : sn[t]
        · rw [hb] at g1 hgd
          have hcf := cf_set sn t hgd
          obtain ⟨K, hK, hKn, hKd⟩ := permD HR.out ht
          have hgo := cyc_go (p := p) (acc := l) hgd
          rw [hKd, hcyc] at hgo
          have HGO := Lib.hid hgo
          have hO1 := hO.only ((Only.refl [gs] wr).setCell (p := ⟨gs, t, none⟩) (by simp) (.bool true)) (fun b h1 h2 => apart_types hO.v hS' (by decide) b h1 (by simpa [fpI] using h2))
          have hS1 := hS'.set (j := t) (.bool true)
          rw [bools_set] at hS1
          have hon1 := hon.setCell (p := ⟨gs, t, none⟩) (by simp [fpI]) (.bool true)
          have hz1 := hon1.size
          obtain ⟨ad, hA, hcell⟩ := ha.at_ ht
          subst hA
          rw [hK] at hcell
          clear hb hgd hgo hcyc hO hK hKd
          go_wp2_with (at_builtin; refine wpList_app1h intSl rfl _ _ rfl hO1 rfl rfl (by simp) (by omega) hz1 ?_; intro A2 c2 w4 hO2 hb2; have hon2 := hon1.thenBelow hb2 (Nat.le_refl _); have hcell2 := (hE.only hon2 hS.high).cell hcell; clear hcell)
          have hS2 := hS1.keep (w' := w4) (fun a h => by injection h with h; subst h; exact hb2.block gs hgl)
          go_roundw
          case rel => exact ⟨K, A2, m' + 1, c2, l ++ [(t : Int)], sn.set t true, hKn, rfl, rfl, hO2, hS2, by rw [List.length_set]; exact hsl, by omega, HGO.out.symm, hon2⟩
          case measure => simp [lenOf]; omega
        · rw [hb] at g1 hgd
          have hst := cyc_stop (p := p) (acc := l) hgd
          rw [hcyc] at hst
          have hn2 := HN.out
          rw [hst] at hn2
          have hII' := hII.only hon HAP.out
          have hlen := hO.len
          by_cases hm0 : m' = 0
          · subst hm0
            have hl0 : l = [] := List.eq_nil_of_length_eq_zero hlen
            subst hl0
            have hn3 : cycAt p (j + 1) = ((cycAt p j).1, sn) := by rw [hn2]; simp
            have HN3 := Lib.hid hn3
            clear hb hgd hst hcyc hn2 hn3 hlen
            go_wp2
            go_roundw
            case rel => exact ⟨j + 1, A', m, c', P, by omega, by go_num, rfl, by rw [HN3.out]; exact hII', by rw [HN3.out]; exact hS', hon'⟩
            case measure => simp [intOf]; omega
          · have hl0 : ¬ l = [] := by rintro rfl; exact hm0 hlen.symm
            have hn3 : cycAt p (j + 1) = ((cycAt p j).1 ++ [l], sn) := by rw [hn2]; simp [hl0]
            have HN3 := Lib.hid hn3
            have hm1 : 0 < m' := by omega
            have hO' := hO.more hwz
            have hap2 : Apart (fpI B) P := Apart.of_high hII.low hO.high
            have hap3 := hII'.apartV hS' (by decide) (by decide)
            have hAP := hII'.fpA
            have hhi := hII'.high
            have hz1 := hon.size
            clear hb hgd hst hcyc hn2 hn3 hlen hm0 hl0
            go_wp2_with (at_builtin; refine wpList_app1S rfl _ _ rfl hII' hO' hap2 rfl rfl (by omega) (by omega) ?_; intro A3 c3 P3 w5 hII3 hon3)
            have hS3 := hS'.only hon3 (fun b h1 h2 => hap3 b h1 (hAP b h2))
            have hE3 := hon'.only hon3 (fun b hb => hhi b (hAP b hb))
            go_roundw
            case rel => exact ⟨j + 1, A3, m + 1, c3, P3, by omega, by go_num, rfl, by rw [HN3.out]; exact hII3, by rw [HN3.out]; exact hS3, hE3⟩
            case measure => simp [intOf]; omega
    · obtain rfl : j = p.length := by omega
      go_wp2
      go_ret
      exact ⟨_, _, _, _, rfl, hII, hE⟩
end Go.Proofs.Yteohpelbkmdlmaa

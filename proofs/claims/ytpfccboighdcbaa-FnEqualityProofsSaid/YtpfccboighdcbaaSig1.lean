/- Contracts for the bases of linear statements and the list that is hashed. (Printed by tools/gen_sig1.py.) -/
import Derived.Test.YtpfccboighdcbaaProg
import Derived.Test.YtpfccboighdcbaaLin
import Derived.Test.YtpfccboighdcbaaFunC
import Derived.Test.YtpfccboighdcbaaDl
namespace Go.Proofs.Ytpfccboighdcbaa
open Go.RowKit

/-- A literal of two, three rows. -/
theorem rd_cells {w V : World} {t : TypeId} {xs : List Value} {k : Nat} (hk : k = w.heap.size) (hV : Ext (w.alloc (.cells xs.toArray t)) V) : Rd V (some ⟨k, 0, none⟩) xs := by
  subst hk
  refine Rd.ext (.inr ⟨_, rfl, fun j u hu => ?_⟩) hV
  have h := (Blk.new w t xs.toArray).cells j
  have e : (⟨w.heap.size, 0, none⟩ : Addr).add j = ⟨w.heap.size, j, none⟩ := by
    unfold Addr.add
    split <;> simp_all
  rw [e, h]
  simpa using hu
theorem rdSS_lit2 {w V : World} {A B : Option Addr} {n c m d : Nat} {l1 l2 : List Int} {t : TypeId} {k : Nat} (hk : k = w.heap.size) (hV : Ext (w.alloc (.cells #[.slice A n c, .slice B m d] t)) V) (h1 : SlI V A n c l1) (h2 : SlI V B m d l2) : RdSS V (some ⟨k, 0, none⟩) [l1, l2] :=
  RowsRd.rd (rs := [(A, n, c), (B, m, d)]) (RowsRd.two h1 h2) (rd_cells (xs := [.slice A n c, .slice B m d]) hk hV)
theorem rdSS_lit1 {w V : World} {A : Option Addr} {n c : Nat} {l1 : List Int} {t : TypeId} {k : Nat} (hk : k = w.heap.size) (hV : Ext (w.alloc (.cells #[.slice A n c] t)) V) (h1 : SlI V A n c l1) : RdSS V (some ⟨k, 0, none⟩) [l1] :=
  RowsRd.rd (rs := [(A, n, c)]) ⟨rfl, fun i hi _ => match i, hi with | 0, _ => h1⟩ (rd_cells (xs := [.slice A n c]) hk hV)
theorem rdSS_lit3 {w V : World} {A B C : Option Addr} {n c m d i j : Nat} {l1 l2 l3 : List Int} {t : TypeId} {k : Nat} (hk : k = w.heap.size) (hV : Ext (w.alloc (.cells #[.slice A n c, .slice B m d, .slice C i j] t)) V) (h1 : SlI V A n c l1) (h2 : SlI V B m d l2) (h3 : SlI V C i j l3) : RdSS V (some ⟨k, 0, none⟩) [l1, l2, l3] :=
  RowsRd.rd (rs := [(A, n, c), (B, m, d), (C, i, j)]) ⟨rfl, fun i hi _ => match i, hi with | 0, _ => h1 | 1, _ => h2 | 2, _ => h3⟩ (rd_cells (xs := [.slice A n c, .slice B m d, .slice C i j]) hk hV)

/-- What rows give that are the bases of a statement. -/
structure RowsIn (p q : Int) (rows : List (List Int)) (K : Nat) : Prop where
  n : 1 ≤ rows.length ∧ rows.length ≤ 8
  k : 1 ≤ K ∧ K ≤ 8
  hd : (rows.headD []).length = K
  all : ∀ r ∈ rows, r.length = K ∧ r.all (elB p q) = true
theorem rows_in {p q : Int} {rows : List (List Int)} (h : rowsB p q rows = true) : RowsIn p q rows (rows.headD []).length := by
  unfold rowsB at h
  simp only [Bool.and_eq_true, List.all_eq_true, decide_eq_true_eq] at h
  obtain ⟨h1, h2, h3⟩ := h
  have h1 := inR_iff.1 h1
  have h2 := inR_iff.1 h2
  exact ⟨⟨by omega, by omega⟩, ⟨by omega, by omega⟩, rfl, fun r hr => ⟨(h3 r hr).1, by rw [List.all_eq_true]; exact (h3 r hr).2⟩⟩
theorem RowsIn.rg {p q : Int} {rows : List (List Int)} {K : Nat} (h : RowsIn p q rows K) (hp : p ≤ 2000000000) : ∀ r ∈ rows, ∀ x ∈ r, 0 ≤ x ∧ x ≤ 3000000000 := fun r hr x hx => by
  have h1 := (h.all r hr).2
  rw [List.all_eq_true] at h1
  have := (elB_iff.1 (h1 x hx)).1
  omega
theorem flat_len {rows : List (List Int)} {K : Nat} (h : ∀ r ∈ rows, r.length = K) : rows.flatten.length = rows.length * K := by
  induction rows with
  | nil => simp
  | cons r rows ih =>
    rw [List.flatten_cons, List.length_append, ih fun x hx => h x (List.mem_cons_of_mem _ hx), h r (List.mem_cons_self ..), List.length_cons, Nat.add_mul, Nat.one_mul, Nat.add_comm]
theorem allR_rg {l : List Int} (h : ∀ x ∈ l, 0 ≤ x ∧ x ≤ 3000000000) : allR l 0 4611686018427387903 = true := by
  rw [allR_iff]; intro x hx; have := h x hx; omega
/-- The list that is hashed can be hashed. -/
theorem stm_ok {p q g : Int} (h : grpB p q g = true) {s : ByteArray} (hs : s.size ≤ 40) {rows : List (List Int)} {K : Nat} (hr : RowsIn p q rows K) {im cm : List Int} (him : im.length = rows.length) (hcm : cm.length = rows.length) (b1 : ∀ x ∈ im, 0 ≤ x ∧ x ≤ 3000000000) (b2 : ∀ x ∈ cm, 0 ≤ x ∧ x ≤ 3000000000) :
    chK p q g s (stmL rows im cm) = true ∧ allR (stmL rows im cm) 0 4611686018427387903 = true ∧ (stmL rows im cm).length ≤ 100 := by
  have hl : (stmL rows im cm).length ≤ 80 := by
    unfold stmL
    rw [List.length_append, List.length_append, flat_len fun r hr' => (hr.all r hr').1, him, hcm]
    have h1 := hr.n
    have h2 := hr.k
    have : rows.length * K ≤ 8 * 8 := Nat.mul_le_mul h1.2 h2.2
    omega
  have ha : allR (stmL rows im cm) 0 4611686018427387903 = true := by
    unfold stmL
    rw [allR_app, allR_app, allR_rg b1, allR_rg b2, Bool.and_true, Bool.and_true]
    refine allR_rg fun x hx => ?_
    obtain ⟨r, hr1, hr2⟩ := List.mem_flatten.1 hx
    exact hr.rg (grpB_in h).p9 r hr1 x hr2
  refine ⟨?_, ha, by omega⟩
  rw [chK_eq h]
  unfold chN
  rw [ha, Bool.and_true, Bool.and_eq_true, decide_eq_true_eq, decide_eq_true_eq]
  omega

/-- Called with a row of ls, function f with the captured values cap answers as p says. -/
def AnsR (f : Nat) (cap : Array Value) (w : World) (ls : List (List Int)) (p : List Int → Bool) : Prop :=
  IsFn f ∧ ∀ x ∈ ls, ∀ w' A n c, Ext w w' → SlI w' A n c x → Calls Try.prog f (#[.slice A n c] ++ cap) w' fun e w'' => e = .returned (.bool (p x)) ∧ Ext w' w''
set_option maxHeartbeats 1000000 in
theorem IndexFuncR_any (A : Option Addr) (n c : Nat) (l : List (List Int)) (f : Nat) (cap : Array Value) (w : World) (p : List Int → Bool) (ha : RdSS w A l) (hl : l.length = n) (hn : n ≤ maxLen) (hf : AnsR f cap w l p) :
    Calls Try.prog 225 #[.slice A n c, .func (.func f) #[] cap] w fun e w' => e = .returned (.int .i64 (idxG p l)) ∧ Ext w w' := by
  unfold maxLen at hn
  subst hl
  go_enter Try.func225, Try.ntmps225
  go_wp2
  go_loopw [8] (fun i wr => ∃ j : Nat, j ≤ l.length ∧ i = .int .i64 j ∧ Hid (∀ i, (hi : i < l.length) → i < j → p l[i] = false) ∧ Ext w wr) (fun i _ => l.length - (intOf i).toNat)
  case atStart => exact ⟨0, Nat.zero_le _, rfl, fun i _ h => absurd h (by omega), Ext.refl _⟩
  case round =>
    obtain ⟨j, hj, rfl, hP, hE⟩ := hrel
    by_cases hlt : j < l.length
    · obtain ⟨ad, rfl, A1, n1, c1, hc, s1, s2, s3, s4⟩ := (ha.ext hE).at_ hlt
      have hfn : ∀ args w, (callFunc f args).run Try.prog w = .ok (.enter f args) w := hf.1
      go_wp2_with fail
      refine (hf.2 _ (List.getElem_mem hlt) _ _ _ _ hE ⟨s1, s2, s3, s4⟩).mono ?_
      rintro e w1 ⟨rfl, hb⟩
      cases hp : p l[j]
      · have HP := Lib.hid hp
        clear hp
        go_wp2
        go_roundw
        case rel =>
          refine ⟨j + 1, by omega, by go_num, fun i hi hij => ?_, hE.trans hb⟩
          by_cases e : i = j
          · subst e; exact HP.out
          · exact hP.out i hi (by omega)
        case measure => simp [intOf]; omega
      · have HP := Lib.hid hp
        clear hp
        go_wp2
        go_ret
        exact ⟨ret_int (idxG_hit hlt HP.out (fun i hi => hP.out i hi)).symm, hE.trans hb⟩
    · obtain rfl : j = l.length := by omega
      go_wp2
      go_ret
      exact ⟨ret_int (idxG_miss (fun i hi => hP.out i hi hi)).symm, hE⟩
set_option maxHeartbeats 400000 in
theorem ContainsFuncR_any (A : Option Addr) (n c : Nat) (l : List (List Int)) (f : Nat) (cap : Array Value) (w : World) (p : List Int → Bool) (ha : RdSS w A l) (hl : l.length = n) (hn : n ≤ maxLen) (hf : AnsR f cap w l p) :
    Calls Try.prog 199 #[.slice A n c, .func (.func f) #[] cap] w fun e w' => e = .returned (.bool (l.any p)) ∧ Ext w w' := by
  go_enter Try.func199, Try.ntmps199
  go_wp2_with fail
  refine (IndexFuncR_any _ _ _ l _ _ _ p ha hl hn hf).mono ?_
  rintro e w1 ⟨rfl, hb⟩
  go_wp2
  go_ret
  exact ⟨ret_bool idxG_neg, hb⟩
theorem areRows_ans (p q g : Int) (w : World) (k r : Nat) (A : Option Addr) (n c : Nat) (rows : List (List Int)) (h : GrpB p q) (hB : Blk w k 38 #[.int .i64 p, .int .i64 q, .int .i64 g]) (hR : Blk w r 118 #[.slice A n c]) (ha : RdSS w A rows) (hl : rows.length = n) (hn : 1 ≤ n ∧ n ≤ 8) :
    AnsR 200 #[.pointer (some ⟨r, 0, none⟩), .pointer (some ⟨k, 0, none⟩)] w rows (fun x => !(decide (x.length = (rows.headD []).length) && x.all (elB p q))) := by
  refine ⟨fun args w => by kernel_rfl, fun x _ w' A2 n2 c2 hE s => ?_⟩
  subst hl
  have C1 := (hB.ext hE).cells
  have C2 := (hR.ext hE).cells
  obtain ⟨ad, rfl, Y, y, yc, hcell, hry, hly, hyc, hym⟩ := (ha.ext hE).at_ (show 0 < rows.length by omega)
  rw [show ad.add 0 = ad from rfl] at hcell
  have e0 : rows[0] = rows.headD [] := by cases rows with
    | nil => exact absurd hn.1 (by simp)
    | cons a l => rfl
  rw [e0] at hly
  have hq2 := s.len
  have hq3 := s.le
  unfold maxLen at hq3
  have hy9 : y ≤ 9223372036854775807 := by unfold maxLen at hym; omega
  obtain ⟨v, hv⟩ : ∃ v, x.all (elB p q) = v := ⟨_, rfl⟩
  have HV := Lib.hid hv
  have hb0 : (0 : Int) < (rows.length : Int) := by omega
  by_cases hne : x.length = (rows.headD []).length
  · have hd : ((n2 : Int) != (y : Int)) = false := by simp; omega
    have HF : Hid ((!(decide (x.length = (rows.headD []).length) && x.all (elB p q))) = !v) := by show _ = _; rw [decide_eq_true hne, Bool.true_and, hv]
    clear hv e0 hne hly
    go_enter Try.func200, Try.ntmps200
    go_wp2_with fail
    refine (hasAll_any p q g A2 n2 c2 x _ h s.rd s.len s.le).mono ?_
    rintro en w2 ⟨he, hb⟩
    rw [HV.out] at he; subst he
    go_wp2
    go_ret
    exact ⟨ret_bool HF.out.symm, hb⟩
  · have hd : ((n2 : Int) != (y : Int)) = true := by simp; omega
    have HF : Hid ((!(decide (x.length = (rows.headD []).length) && x.all (elB p q))) = true) := by show _ = _; rw [decide_eq_false hne, Bool.false_and]; rfl
    clear hv e0 hne hly
    go_enter Try.func200, Try.ntmps200
    go_wp2
    go_ret
    exact ⟨ret_bool HF.out.symm, Ext.refl _⟩
set_option maxHeartbeats 1000000 in
theorem areRows_any (p q g : Int) (A : Option Addr) (n c : Nat) (rows : List (List Int)) (w : World) (h : GrpB p q) (ha : RdSS w A rows) (hl : rows.length = n) (hn : n ≤ maxLen) :
    Calls Try.prog 138 #[.agg #[.int .i64 p, .int .i64 q, .int .i64 g], .slice A n c] w fun en w' => en = .returned (.bool (rowsB p q rows)) ∧ Ext w w' := by
  have E := ((Ext.refl w).alloc (.cells #[.int .i64 p, .int .i64 q, .int .i64 g] 38)).alloc (.cells #[.slice A n c] 118)
  have B0 := (Blk.new w 38 #[.int .i64 p, .int .i64 q, .int .i64 g]).alloc (.cells #[.slice A n c] 118)
  have B1 := Blk.new (w.alloc (.cells #[.int .i64 p, .int .i64 q, .int .i64 g] 38)) 118 #[.slice A n c]
  simp only [World.size_alloc] at B1
  have C0 := B0.cells
  have C1 := B1.cells
  have hn9 : n ≤ 9223372036854775807 := by unfold maxLen at hn; omega
  cases h1 : inR (n : Int) 1 8
  · have HF : Hid (rowsB p q rows = false) := by show _ = _; unfold rowsB; rw [hl, h1, Bool.false_and]
    have H1 := Lib.hid h1
    clear h1
    go_enter Try.func138, Try.ntmps138
    go_wp2_with fail
    refine (within_any _ _ _ _).mono ?_
    rintro en w2 ⟨he, rfl⟩
    rw [H1.out] at he; subst he
    go_wp2
    go_ret
    exact ⟨ret_bool HF.out.symm, E⟩
  have hn8 := inR_iff.1 h1
  have hf := areRows_ans p q g _ _ _ A n c rows h B0 B1 (ha.ext E) hl (by omega)
  have H1 := Lib.hid h1
  obtain ⟨ad, hA, Y, y, yc, hcell, hry, hly, hyc, hym⟩ := (ha.ext E).at_ (show 0 < rows.length by omega)
  rw [show ad.add 0 = ad from rfl] at hcell
  have e0 : rows[0]'(by omega) = rows.headD [] := by cases rows with
    | nil => simp at hl; omega
    | cons a l => rfl
  rw [e0] at hly
  have hy9 : y ≤ 9223372036854775807 := by unfold maxLen at hym; omega
  have hb0 : (0 : Int) < (n : Int) := by omega
  subst hA
  cases h2 : inR (y : Int) 1 8
  · have HF : Hid (rowsB p q rows = false) := by show _ = _; unfold rowsB; rw [hl, h1, hly, h2, Bool.false_and, Bool.and_false]
    have H2 := Lib.hid h2
    clear h1 h2 e0 hf
    go_enter Try.func138, Try.ntmps138
    go_wp2_with fail
    refine (within_any _ _ _ _).mono ?_
    rintro en w2 ⟨he, rfl⟩
    rw [H1.out] at he; subst he
    go_wp2_with fail
    refine (within_any _ _ _ _).mono ?_
    rintro en w2 ⟨he, rfl⟩
    rw [H2.out] at he; subst he
    go_wp2
    go_ret
    exact ⟨ret_bool HF.out.symm, E⟩
  have HF : Hid (rowsB p q rows = !(rows.any fun x => !(decide (x.length = (rows.headD []).length) && x.all (elB p q)))) := by show _ = _; unfold rowsB; rw [hl, h1, hly, h2, Bool.true_and, Bool.true_and, List.all_eq_not_any_not, ← hly]
  have H2 := Lib.hid h2
  obtain ⟨V, hV⟩ : ∃ V, (rows.any fun x => !(decide (x.length = (rows.headD []).length) && x.all (elB p q))) = V := ⟨_, rfl⟩
  have HVV := Lib.hid hV
  clear h1 h2 e0 hV
  go_enter Try.func138, Try.ntmps138
  go_wp2_with fail
  refine (within_any _ _ _ _).mono ?_
  rintro en w2 ⟨he, rfl⟩
  rw [H1.out] at he; subst he
  go_wp2_with fail
  refine (within_any _ _ _ _).mono ?_
  rintro en w2 ⟨he, rfl⟩
  rw [H2.out] at he; subst he
  go_wp2_with fail
  refine (ContainsFuncR_any _ n c rows _ _ _ _ (ha.ext E) hl hn hf).mono ?_
  rintro en w2 ⟨he, hb⟩
  rw [HVV.out] at he; subst he
  go_wp2
  go_ret
  exact ⟨ret_bool (by rw [HF.out, HVV.out]), E.trans hb⟩
set_option maxRecDepth 100000 in
set_option maxHeartbeats 4000000 in
theorem sStatement_any (A D F : Option Addr) (n c m d k f : Nat) (rows : List (List Int)) (im cm : List Int) (w : World) (ha : RdSS w A rows) (hl : rows.length = n) (hb : SlI w D m d im) (hc : SlI w F k f cm) (hn : n ≤ 1000) (ht : tot rows ≤ 1000000) (hm : m ≤ 1000000) (hk : k ≤ 1000000) :
    Calls Try.prog 144 #[.slice A n c, .slice D m d, .slice F k f] w fun en w' => ∃ B x, en = .returned (.slice B (tot rows + m + k) x) ∧ RdI w' B (stmL rows im cm) ∧ Ext w w' := by
  subst hl
  have HT := Lib.hid ht
  clear ht
  go_enter Try.func144, Try.ntmps144
  go_wp2
  go_loopw [7, 12] (fun s i wx => ∃ (j : Nat) (B : Option Addr) (z d : Nat), j ≤ rows.length ∧ i = .int .i64 (j : Nat) ∧ s = .slice B z d ∧ OwnI wx w.heap.size 3 B z d (rows.take j).flatten ∧ z = tot (rows.take j) ∧ Ext w wx) (fun _ i _ => rows.length - (intOf i).toNat)
  case atStart => exact ⟨0, none, 0, 0, Nat.zero_le _, rfl, rfl, OwnI.nil _ _ _, by simp [tot], Ext.refl _⟩
  case round =>
    obtain ⟨j, B, z, d, hj, rfl, rfl, hO, hz, hE⟩ := hrel
    by_cases hlt : j < rows.length
    · obtain ⟨ad, rfl, Y, y, yc, hcell0, hry, hly, _, _⟩ := ha.at_ hlt
      have h1 := tot_at hlt
      have HT2 := Lib.hid (tot_take hlt)
      have HF := Lib.hid (flat_take hlt)
      have hcell := hE.cell hcell0
      have hry2 := hry.ext hE
      have hsz := hE.size
      rw [hly] at h1
      generalize rows[j] = row at *
      have HLY := Lib.hid hly
      have HM := Lib.hid hz
      have hmb : z ≤ 1000000 ∧ z + y ≤ 1000000 := by have := HT.out; omega
      clear hly hcell0 hry hz h1
      go_wp2_with (at_builtin; refine wpList_appL intSl rfl _ _ rfl hO rfl hry2 HLY.out rfl (by omega) hsz ?_; intro A2 d2 w2 hO2 hb2)
      go_roundw
      case rel => exact ⟨j + 1, A2, z + y, d2, by omega, by go_num, rfl, by rw [← HF.out]; exact hO2, by rw [HT2.out, HLY.out, HM.out], hE.then hb2 (Nat.le_refl _)⟩
      case measure => simp [intOf]; omega
    · obtain rfl : j = rows.length := by omega
      rw [List.take_length] at hO hz
      subst hz
      have h9 := HT.out
      have hsz := hE.size
      have hrb := hb.rd.ext hE
      go_wp2_with (at_builtin; first
        | (refine wpList_appL intSl rfl _ _ rfl hO2 rfl hrc hc.len rfl (by omega) hsz2 ?_; intro A3 d3 w3 hO3 hb3)
        | (refine wpList_appL intSl rfl _ _ rfl hO rfl hrb hb.len rfl (by omega) hsz ?_; intro A2 d2 w2 hO2 hb2; have hE2 := hE.then hb2 (Nat.le_refl _); have hrc := hc.rd.ext hE2; have hsz2 := hE2.size))
      go_ret
      exact ⟨_, _, rfl, hO3.rd, hE2.then hb3 (Nat.le_refl _)⟩
end Go.Proofs.Ytpfccboighdcbaa

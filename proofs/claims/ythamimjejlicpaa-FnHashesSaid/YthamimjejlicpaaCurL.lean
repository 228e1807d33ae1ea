/- Drawn labels; drawn groups with a label and a number, with a number. -/
import Derived.Test.YthamimjejlicpaaProg
import Derived.Test.YthamimjejlicpaaCurG2
import Derived.Test.YthamimjejlicpaaCurR
namespace Go.Proofs.Ythamimjejlicpaa
open Go.RowKit

def strs (l : List ByteArray) : List Value := l.map Value.string
set_option maxHeartbeats 1000000 in
theorem of_any {B : Nat} (g k : Nat) (A : Option Addr) (n c : Nat) (l : List ByteArray) (w : World) (h : CurS B w g k) (hk : k ≤ 100000000) (ha : Rd w A (strs l)) (hl : l.length = n) (hn : 0 < n) (hn2 : n ≤ 1000000) (hA : ∀ a, A = some a → a.block ≠ g) :
    Calls Try.prog 124 #[.pointer (some ⟨g, 0, none⟩), .slice A n c] w fun e w' => ∃ r : ByteArray, e = .returned (.string r) ∧ r ∈ l ∧ Only [g] w w' ∧ CurS B w' g (k + 2) := by
  have HL := Lib.hid hl
  clear hl
  go_enter Try.func124, Try.ntmps124
  go_wp2_with fail
  refine (pick_any g k n _ h hk (by omega)).mono ?_
  rintro e w1 ⟨r, rfl, hr, hO, hC⟩
  have hrn : r < l.length := by rw [HL.out]; omega
  have hrz : (r : Int) < n := by omega
  obtain ⟨ad, rfl, hc⟩ := Rd.at_ (Rd.only ha hO (fun a e _ => by simp [hA a e])) (k := r) (by simpa [strs] using hrn)
  have hc' : w1.cell? (ad.add r) = some (.string l[r]) := by rw [hc]; simp [strs]
  clear hc
  go_wp2
  go_ret
  exact ⟨_, rfl, List.getElem_mem _, hO, hC⟩
theorem rd_lit {w : World} {t : TypeId} (xs : List Value) : Rd (w.alloc (.cells xs.toArray t)) (some ⟨w.heap.size, 0, none⟩) xs := by
  refine .inr ⟨_, rfl, fun j u hu => ?_⟩
  have h := (Blk.new w t xs.toArray).cells j
  have e : (⟨w.heap.size, 0, none⟩ : Addr).add j = ⟨w.heap.size, j, none⟩ := by
    unfold Addr.add
    split <;> simp_all
  rw [e, h]
  simpa using hu
def labs : List ByteArray := [ByteArray.mk #[], ByteArray.mk #[97], ByteArray.mk #[118, 111, 116, 101], ByteArray.mk #[109, 105, 120], ByteArray.mk #[98, 111, 97, 114, 100, 32, 49], ByteArray.mk #[107, 101, 121], ByteArray.mk #[108, 111, 110, 103, 32, 108, 97, 98, 101, 108, 32, 119, 105, 116, 104, 32, 115, 101, 118, 101, 114, 97, 108, 32, 119, 111, 114, 100, 115, 32, 105, 110, 32, 105, 116]]
theorem labs_le : ∀ s ∈ labs, s.size ≤ 40 := by decide
set_option maxRecDepth 100000 in
set_option maxHeartbeats 4000000 in
theorem label_any {B : Nat} (g k : Nat) (w : World) (h : CurS B w g k) (hk : k ≤ 80000) (hB : B ≤ w.heap.size) :
    Calls Try.prog 58 #[.pointer (some ⟨g, 0, none⟩)] w fun e w' => ∃ s : ByteArray, e = .returned (.string s) ∧ s.size ≤ 100 ∧ Only [g] w w' ∧ CurS B w' g (k + 200) := by
  have hg := h.lt
  have hE := (Ext.refl w).alloc (.cells (strs labs).toArray 9)
  have hrd := rd_lit (w := w) (t := 9) (strs labs)
  have h0 := h.ext hE
  have hO0 := hE.toOnly [g]
  go_enter Try.func58, Try.ntmps58
  go_wp2_with fail
  refine (of_any g k (some ⟨w.heap.size, 0, none⟩) 7 7 labs _ h0 (by omega) hrd rfl (by omega) (by omega) (by intro a ha; simp at ha; subst ha; simp; omega)).mono ?_
  rintro e w1 ⟨s, rfl, hs, hO1, hC1⟩
  have hs40 := labs_le s hs
  replace hO1 := hO0.thenOnly hO1
  clear h h0 hrd hE hO0 hs
  go_wp2_with fail
  refine (one_any g (k + 2) 16 _ hC1 (by omega) (by omega)).mono ?_
  rintro e w2 ⟨b, rfl, hO2, hC2⟩
  have hO := hO1.thenOnly hO2
  cases b
  · go_wp2
    go_ret
    exact ⟨s, rfl, by omega, hO, hC2.more (by omega)⟩
  · go_wp2
    go_loopw [3] (fun v wr => ∃ t : ByteArray, v = .string t ∧ t.size ≤ 41 ∧ Only [g] w wr ∧ CurS B wr g (k + 4 + 2 * t.size)) (fun v _ => match v with | .string t => 41 - t.size | _ => 0)
    case atStart => exact ⟨s, rfl, by omega, hO, hC2.more (by omega)⟩
    case round =>
      obtain ⟨t, rfl, ht, hO3, hC3⟩ := hrel
      go_wp2_with fail
      refine (pick_any g _ 2 _ hC3 (by omega) (by omega)).mono ?_
      rintro e w4 ⟨r, rfl, hr, hO4, hC4⟩
      have hr2 : r ≤ 1 := by omega
      by_cases hlt : t.size < 40 + r
      · have HSZ : Hid ((t ++ (ByteArray.mk #[120])).size = t.size + 1) := by show _ = _; rw [ByteArray.size_append]; rfl
        go_wp2
        go_roundw
        case rel => exact ⟨_, rfl, by rw [HSZ.out]; omega, hO3.thenOnly hO4, hC4.more (by rw [HSZ.out]; omega)⟩
        case measure => have h9 := HSZ.out; show 41 - (t ++ (ByteArray.mk #[120])).size < 41 - t.size; omega
      · go_wp2
        go_ret
        exact ⟨t, rfl, by omega, hO3.thenOnly hO4, hC4.more (by omega)⟩
def DrawnGSI (w : World) (e : Ending) (w' : World) : Prop := ∃ (P Q G : Int) (s : ByteArray) (n : Int), e = .returned (.tuple #[.agg #[.int .i64 P, .int .i64 Q, .int .i64 G], .string s, .int .i64 n]) ∧ GrpD P Q G ∧ s.size ≤ 100 ∧ (-10 ≤ n ∧ n ≤ 200) ∧ Ext w w'
set_option maxRecDepth 100000 in
set_option maxHeartbeats 4000000 in
theorem DrawDeriveElements_any (A : Option Addr) (n c : Nat) (l : List Int) (w : World) (hR : RdB w A l) (hl : l.length = n) (hn : n ≤ 9223372036854775807) (hx : ∀ x ∈ l, 0 ≤ x ∧ x ≤ 255) :
    Calls Try.prog 12 #[.slice A n c] w fun e w' => DrawnGSI w e w' := by
  have hE0 := (Ext.refl w).alloc (.cells #[.int .i64 0, .int .i64 0, .int .i64 0] 25)
  have B2 := Blk.new w 25 #[.int .i64 0, .int .i64 0, .int .i64 0]
  have hC := new_cur (c := c) (hR.ext hE0) hl hn hx
  simp only [World.size_alloc] at hC
  clear hl hx hR
  replace B2 := B2.alloc (.cells #[.slice A n c, .int .i64 0, .int .u64 0] 85)
  have hE1 := hE0.alloc (.cells #[.slice A n c, .int .i64 0, .int .u64 0] 85)
  go_enter Try.func12, Try.ntmps12
  go_wp2_with fail
  refine (anyGroup_any (w.heap.size + 1) 0 _ hC (by omega) (by simp)).mono ?_
  rintro e w1 ⟨P, Q, G, rfl, hD, hO1, hC1⟩
  have hsz1 : w.heap.size + 2 ≤ w1.heap.size := by have := hO1.size; simp at this; omega
  have E := hE1.only hO1 (fun b hb => by simp at hb; omega)
  replace B2 := B2.only hO1 (by simp)
  clear hE0 hE1 hC hO1
  go_wp2_with fail
  refine (label_any (w.heap.size + 1) _ _ hC1 (by omega) (by omega)).mono ?_
  rintro e w2 ⟨s, rfl, hs, hO2, hC2⟩
  have hsz2 : w.heap.size + 2 ≤ w2.heap.size := by have := hO2.size; omega
  replace E := E.only hO2 (fun b hb => by simp at hb; omega)
  replace B2 := B2.only hO2 (by simp)
  clear hO2 hC1
  go_wp2_with fail
  refine (among_newh (w.heap.size + 1) _ 7 [0, 1, 3, 8, 100, 101, -1] _ _ _ rfl hC2 (by omega) rfl rfl (by omega) (by omega) (by omega)).mono ?_
  rintro e w3 ⟨r, rfl, hr, hO3, hC3⟩
  have hsz3 : w.heap.size + 2 ≤ w3.heap.size := by have := hO3.size; omega
  replace E := E.only hO3 (fun b hb => by simp at hb; omega)
  replace B2 := B2.only hO3 (by simp)
  have C := B2.cells
  have F := B2.frozen
  have CZ := (((B2.set_ 0 (.int .i64 P)).set_ 1 (.int .i64 Q)).set_ 2 (.int .i64 G)).cells
  have hr9 : -10 ≤ r ∧ r ≤ 200 := by simp at hr; omega
  clear hr hO3
  go_wp2
  refine bodyPost_ret (v := .tuple #[.agg #[.int .i64 P, .int .i64 Q, .int .i64 G], .string s, .int .i64 r]) (by simp [results, Try.results12, CZ, go_sem]) rfl ?_
  exact ⟨P, Q, G, s, r, rfl, hD, hs, hr9, E.then (below_three (g := w.heap.size) w3 (.int .i64 P) (.int .i64 Q) (.int .i64 G)) (Nat.le_refl _)⟩
def DrawnGI (w : World) (e : Ending) (w' : World) : Prop := ∃ (P Q G n : Int), e = .returned (.tuple #[.agg #[.int .i64 P, .int .i64 Q, .int .i64 G], .int .i64 n]) ∧ GrpD P Q G ∧ (-10 ≤ n ∧ n ≤ 200) ∧ Ext w w'
set_option maxRecDepth 100000 in
set_option maxHeartbeats 4000000 in
theorem DrawBasesOf_any (A : Option Addr) (n c : Nat) (l : List Int) (w : World) (hR : RdB w A l) (hl : l.length = n) (hn : n ≤ 9223372036854775807) (hx : ∀ x ∈ l, 0 ≤ x ∧ x ≤ 255) :
    Calls Try.prog 18 #[.slice A n c] w fun e w' => DrawnGI w e w' := by
  have hE0 := (Ext.refl w).alloc (.cells #[.int .i64 0, .int .i64 0, .int .i64 0] 25)
  have B2 := Blk.new w 25 #[.int .i64 0, .int .i64 0, .int .i64 0]
  have hC := new_cur (c := c) (hR.ext hE0) hl hn hx
  simp only [World.size_alloc] at hC
  clear hl hx hR
  replace B2 := B2.alloc (.cells #[.slice A n c, .int .i64 0, .int .u64 0] 85)
  have hE1 := hE0.alloc (.cells #[.slice A n c, .int .i64 0, .int .u64 0] 85)
  go_enter Try.func18, Try.ntmps18
  go_wp2_with fail
  refine (anyGroup_any (w.heap.size + 1) 0 _ hC (by omega) (by simp)).mono ?_
  rintro e w1 ⟨P, Q, G, rfl, hD, hO1, hC1⟩
  have hsz1 : w.heap.size + 2 ≤ w1.heap.size := by have := hO1.size; simp at this; omega
  have E := hE1.only hO1 (fun b hb => by simp at hb; omega)
  replace B2 := B2.only hO1 (by simp)
  clear hE0 hE1 hC hO1
  go_wp2_with fail
  refine (among_newh (w.heap.size + 1) _ 7 [0, 1, 3, 8, 24, 25, -1] _ _ _ rfl hC1 (by omega) rfl rfl (by omega) (by omega) (by omega)).mono ?_
  rintro e w3 ⟨r, rfl, hr, hO3, hC3⟩
  have hsz3 : w.heap.size + 2 ≤ w3.heap.size := by have := hO3.size; omega
  replace E := E.only hO3 (fun b hb => by simp at hb; omega)
  replace B2 := B2.only hO3 (by simp)
  have C := B2.cells
  have F := B2.frozen
  have CZ := (((B2.set_ 0 (.int .i64 P)).set_ 1 (.int .i64 Q)).set_ 2 (.int .i64 G)).cells
  have hr9 : -10 ≤ r ∧ r ≤ 200 := by simp at hr; omega
  clear hr hO3
  go_wp2
  refine bodyPost_ret (v := .tuple #[.agg #[.int .i64 P, .int .i64 Q, .int .i64 G], .int .i64 r]) (by simp [results, Try.results18, CZ, go_sem]) rfl ?_
  exact ⟨P, Q, G, r, rfl, hD, hr9, E.then (below_three (g := w.heap.size) w3 (.int .i64 P) (.int .i64 Q) (.int .i64 G)) (Nat.le_refl _)⟩
end Go.Proofs.Ythamimjejlicpaa

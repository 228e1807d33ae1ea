/- Contracts for the laws' own functions on dealings and shared keys: copies, comparisons, marks, sizes. -/
import Derived.Test.YthamimjejlicpaaProg
import Derived.Test.YthamimjejlicpaaDl
namespace Go.Proofs.Ythamimjejlicpaa
open Go.RowKit

theorem szInt1_yes {A : Option Addr} {n c : Nat} {k : Int} {w : World} (h : (n : Int) ≤ k) (hk : k ≤ 9000000000000000000) :
    Calls Try.prog 90 #[.slice A n c, .int .i64 k] w fun e w' => e = .returned (.int .i64 (k - n)) ∧ w = w' := by
  go_enter Try.func90, Try.ntmps90
  go_wp2
  go_ret
  exact ⟨rfl, rfl⟩
theorem szInt1_no {A : Option Addr} {n c : Nat} {k : Int} {w : World} (h : k < n) (hk : 0 ≤ k) (hn : n ≤ 9223372036854775807) :
    Calls Try.prog 90 #[.slice A n c, .int .i64 k] w fun e w' => e = .returned (.int .i64 (-1)) ∧ w = w' := by
  go_enter Try.func90, Try.ntmps90
  go_wp2
  go_ret
  exact ⟨rfl, rfl⟩
set_option maxHeartbeats 1000000 in
theorem toSharedKey_any (A : Option Addr) (n c : Nat) (B : Option Addr) (m d : Nat) (l k : List Int) (w : World) (ha : RdI w A l) (hl : l.length = n) (hb : RdI w B k) (hk : k.length = m) (hn : n + m ≤ 1000000000) :
    Calls Try.prog 39 #[.agg #[.slice A n c, .slice B m d]] w fun e w' => ∃ A' c' B' d', e = .returned (.agg #[.slice A' n c', .slice B' m d']) ∧ OwnK w' w.heap.size A' n c' B' m d' l k ∧ Ext w w' := by
  subst hl hk
  have E := (((Ext.refl w).alloc (.cells #[.slice A l.length c, .slice B k.length d] 58)).alloc (.cells #[.slice none 0 0, .slice none 0 0] 62)).alloc (.cells #[.slice none 0 0, .slice none 0 0] 62)
  have B0 := ((Blk.new w 58 #[.slice A l.length c, .slice B k.length d]).alloc (.cells #[.slice none 0 0, .slice none 0 0] 62)).alloc (.cells #[.slice none 0 0, .slice none 0 0] 62)
  have B1 := (Blk.new (w.alloc (.cells #[.slice A l.length c, .slice B k.length d] 58)) 62 #[.slice none 0 0, .slice none 0 0]).alloc (.cells #[.slice none 0 0, .slice none 0 0] 62)
  have B2 := Blk.new ((w.alloc (.cells #[.slice A l.length c, .slice B k.length d] 58)).alloc (.cells #[.slice none 0 0, .slice none 0 0] 62)) 62 #[.slice none 0 0, .slice none 0 0]
  simp only [World.size_alloc] at B1 B2
  go_enter Try.func39, Try.ntmps39
  go_wp2_with fail
  generalize ((w.alloc (.cells #[.slice A l.length c, .slice B k.length d] 58)).alloc (.cells #[.slice none 0 0, .slice none 0 0] 62)).alloc (.cells #[.slice none 0 0, .slice none 0 0] 62) = w0 at *
  refine (toIntS_any _ _ _ l _ (ha.ext E) rfl (by omega)).mono ?_
  rintro e w1 ⟨A1, c1, rfl, h1, e1⟩
  have z0 := E.size
  have lt1 := B1.lt
  have lt2 := B2.lt
  have S1 := ((B2.ext e1).set_ 0 (.slice A1 l.length c1))
  have S0 := (B0.ext e1).far (p := ⟨w.heap.size + 1 + 1, 0, none⟩) (by simp; omega) (.slice A1 l.length c1)
  have S9 := (B1.ext e1).far (p := ⟨w.heap.size + 1 + 1, 0, none⟩) (by simp) (.slice A1 l.length c1)
  have E1 : Ext w (w1.setCell ⟨w.heap.size + 1 + 1, 0, none⟩ (.slice A1 l.length c1)) := (E.trans e1).setCell (p := ⟨w.heap.size + 1 + 1, 0, none⟩) (by simp; omega) _
  have O1 : OwnI (w1.setCell ⟨w.heap.size + 1 + 1, 0, none⟩ (.slice A1 l.length c1)) w0.heap.size 3 A1 l.length c1 l := h1.only (fp := [w.heap.size + 1 + 1]) ((Only.refl _ _).setCell (p := ⟨w.heap.size + 1 + 1, 0, none⟩) (by simp) _) (Apart.of_high (B := w0.heap.size) (by intro b hb; simp at hb; omega) h1.high)
  have q2 := (B2.ext e1).frozen
  have c2 := (B2.ext e1).cells
  have q0 := S0.cells
  go_wp2_with fail
  have hsz : (w1.setCell ⟨w.heap.size + 1 + 1, 0, none⟩ (.slice A1 l.length c1)).heap.size = w1.heap.size := by simp [World.setCell]
  generalize w1.setCell ⟨w.heap.size + 1 + 1, 0, none⟩ (.slice A1 l.length c1) = w2 at *
  refine (toIntS_any _ _ _ k _ (hb.ext E1) rfl (by omega)).mono ?_
  rintro e w3 ⟨A2, c3, rfl, h2, e2⟩
  clear q2 c2 q0
  have T1 := ((S1.ext e2).set_ 1 (.slice A2 k.length c3))
  have T9 := ((S9.ext e2).far (p := ⟨w.heap.size + 1 + 1, 1, none⟩) (by simp) (.slice A2 k.length c3))
  have q2 := (S1.ext e2).frozen
  have c2 := (S1.ext e2).cells
  have c9 := T9.cells
  have f9 := T9.frozen
  have c4 := T1.cells
  have lt3 := T9.lt
  have E2 : Ext w (w3.setCell ⟨w.heap.size + 1 + 1, 1, none⟩ (.slice A2 k.length c3)) := (E1.trans e2).setCell (p := ⟨w.heap.size + 1 + 1, 1, none⟩) (by simp; omega) _
  have hz := e1.size
  have hon : Only [w.heap.size + 1 + 1, w.heap.size + 1] w3 (((w3.setCell ⟨w.heap.size + 1 + 1, 1, none⟩ (.slice A2 k.length c3)).setCell ⟨w.heap.size + 1, 0, none⟩ (.slice A1 l.length c1)).setCell ⟨w.heap.size + 1, 1, none⟩ (.slice A2 k.length c3)) :=
    (((Only.refl _ w3).setCell (p := ⟨w.heap.size + 1 + 1, 1, none⟩) (by simp) _).setCell (p := ⟨w.heap.size + 1, 0, none⟩) (by simp) _).setCell (p := ⟨w.heap.size + 1, 1, none⟩) (by simp) _
  have z2 := h1.low
  have z3 := e2.size
  go_wp2
  have hE := ((E2.setCell (p := ⟨w.heap.size + 1, 0, none⟩) (by simp) (.slice A1 l.length c1)).setCell (p := ⟨w.heap.size + 1, 1, none⟩) (by simp) (.slice A2 k.length c3))
  have hlo : ∀ b ∈ [w.heap.size + 1 + 1, w.heap.size + 1], b < w0.heap.size := by intro b hb; simp at hb; omega
  have hz2 := O1.low
  have hz4 : w0.heap.size ≤ w2.heap.size := by
    have := S1.lt
    have h9 : w2.heap.size = w1.heap.size := hsz
    omega
  have k1 := ((O1.ext e2).only hon (Apart.of_high (B := w0.heap.size) hlo O1.high)).more z0
  have k2 := (h2.only hon (Apart.of_high (B := w0.heap.size) hlo (h2.high.mono hz4))).more (base' := w.heap.size) (by omega)
  have cz := ((T9.set_ 0 (.slice A1 l.length c1)).set_ 1 (.slice A2 k.length c3)).cells
  refine bodyPost_ret (v := .agg #[.slice A1 l.length c1, .slice A2 k.length c3]) (by simp [results, Try.results39, cz, go_sem]) rfl ⟨A1, c1, A2, c3, rfl, ⟨k1, k2, Apart.of_low hz2 h2.high⟩, hE⟩
set_option maxHeartbeats 1000000 in
theorem eqSharedKey_same {A A' : Option Addr} {n c n' c' : Nat} {B B' : Option Addr} {m d m' d' : Nat} {l k : List Int} {w : World} (h1 : SlI w A n c l) (h2 : SlI w B m d k) (h3 : SlI w A' n' c' l) (h4 : SlI w B' m' d' k) :
    Calls Try.prog 42 #[.agg #[.slice A n c, .slice B m d], .agg #[.slice A' n' c', .slice B' m' d']] w fun e w' => e = .returned (.bool true) ∧ Ext w w' := by
  have E := ((Ext.refl w).alloc (.cells #[.slice A n c, .slice B m d] 62)).alloc (.cells #[.slice A' n' c', .slice B' m' d'] 62)
  have B0 := (Blk.new w 62 #[.slice A n c, .slice B m d]).alloc (.cells #[.slice A' n' c', .slice B' m' d'] 62)
  have B1 := Blk.new (w.alloc (.cells #[.slice A n c, .slice B m d] 62)) 62 #[.slice A' n' c', .slice B' m' d']
  simp only [World.size_alloc] at B1
  have q0 := B0.cells
  have q1 := B1.cells
  go_enter Try.func42, Try.ntmps42
  go_wp2_with fail
  refine (eqIntS_same (h1.rd.ext E) (h3.rd.ext E) h1.len h3.len h1.le h3.le).mono ?_
  rintro e w1 ⟨rfl, e1⟩
  clear q0 q1
  have q0 := (B0.ext e1).cells
  have q1 := (B1.ext e1).cells
  replace E := E.trans e1
  go_wp2_with fail
  refine (eqIntS_same (h2.rd.ext E) (h4.rd.ext E) h2.len h4.len h2.le h4.le).mono ?_
  rintro e w2 ⟨rfl, e2⟩
  go_wp2
  go_ret
  exact ⟨rfl, E.trans e2⟩
set_option maxHeartbeats 1000000 in
theorem markSharedKey_any {A : Option Addr} {n c : Nat} {B : Option Addr} {m d : Nat} {l k : List Int} {base : Nat} {z : Int} {w : World} (h : OwnK w base A n c B m d l k) (hz : 0 ≤ z) (hn : z + n + m ≤ 1000000000) :
    Calls Try.prog 44 #[.agg #[.slice A n c, .slice B m d], .int .i64 z] w fun e w' => e = .returned (.int .i64 (z + n + m)) ∧ OwnK w' base A n c B m d (iota z n) (iota (z + n) m) ∧ Only (fpI A ++ fpI B) w w' := by
  have B0 := Blk.new w 62 #[.slice A n c, .slice B m d]
  have E := (Ext.refl w).alloc (.cells #[.slice A n c, .slice B m d] 62)
  have q0 := B0.cells
  have la := h.a.low
  have lb := h.b.low
  have h' := h.ext E
  go_enter Try.func44, Try.ntmps44
  go_wp2_with fail
  refine (markIntS_any h'.a (by omega) (by omega)).mono ?_
  rintro e w1 ⟨rfl, m1, k1⟩
  clear q0
  have q0 := (B0.only k1 (fun hh => absurd (la _ hh) (by omega))).cells
  have b1 := h'.b.only k1 (fun b hb hb' => h.ap b hb' hb)
  go_wp2_with fail
  refine (markIntS_any b1 (by omega) (by omega)).mono ?_
  rintro e w2 ⟨rfl, m2, k2⟩
  have a2 := m1.only k2 h.ap
  go_wp2
  go_ret
  refine ⟨rfl, ⟨a2, m2, h.ap⟩, ?_⟩
  have := (E.toOnly []).trans (k1.trans k2)
  simpa using this
set_option maxHeartbeats 1000000 in
theorem heldSharedKey_any {A : Option Addr} {n c : Nat} {B : Option Addr} {m d : Nat} {base : Nat} {z : Int} {w : World} (h : OwnK w base A n c B m d (iota z n) (iota (z + n) m)) (hz : 0 ≤ z) (hn : z + n + m ≤ 1000000000) :
    Calls Try.prog 46 #[.agg #[.slice A n c, .slice B m d], .int .i64 z] w fun e w' => e = .returned (.int .i64 (z + n + m)) ∧ Ext w w' := by
  have B0 := Blk.new w 62 #[.slice A n c, .slice B m d]
  have E := (Ext.refl w).alloc (.cells #[.slice A n c, .slice B m d] 62)
  have q0 := B0.cells
  go_enter Try.func46, Try.ntmps46
  go_wp2_with fail
  refine (heldIntS_any (h.a.rd.ext E) (by omega) (by omega)).mono ?_
  rintro e w1 ⟨rfl, e1⟩
  clear q0
  have q0 := (B0.ext e1).cells
  replace E := E.trans e1
  go_wp2_with fail
  refine (heldIntS_any (h.b.rd.ext E) (by omega) (by omega)).mono ?_
  rintro e w2 ⟨rfl, e2⟩
  go_wp2
  go_ret
  exact ⟨rfl, E.trans e2⟩
set_option maxHeartbeats 1000000 in
theorem szSharedKey_any {A : Option Addr} {n c : Nat} {B : Option Addr} {m d : Nat} {z : Int} {w : World} (hz : 0 ≤ z) (hz2 : z ≤ 1000000000) (hn : n ≤ 9223372036854775807) (hm : m ≤ 9223372036854775807) :
    Calls Try.prog 36 #[.agg #[.slice A n c, .slice B m d], .int .i64 z] w fun e w' => e = .returned (.int .i64 (if (n : Int) + m ≤ z then z - n - m else -1)) ∧ Ext w w' := by
  have B0 := Blk.new w 58 #[.slice A n c, .slice B m d]
  have E := (Ext.refl w).alloc (.cells #[.slice A n c, .slice B m d] 58)
  have q0 := B0.cells
  by_cases h1 : (n : Int) ≤ z
  · by_cases h2 : (n : Int) + m ≤ z
    · rw [if_pos h2]
      go_enter Try.func36, Try.ntmps36
      go_wp2_with fail
      refine (szInt1_yes h1 (by omega)).mono ?_
      rintro e w1 ⟨rfl, rfl⟩
      go_wp2_with fail
      refine (szInt1_yes (by omega) (by omega)).mono ?_
      rintro e w1 ⟨rfl, rfl⟩
      go_wp2
      go_ret
      exact ⟨rfl, E⟩
    · rw [if_neg h2]
      go_enter Try.func36, Try.ntmps36
      go_wp2_with fail
      refine (szInt1_yes h1 (by omega)).mono ?_
      rintro e w1 ⟨rfl, rfl⟩
      go_wp2_with fail
      refine (szInt1_no (by omega) (by omega) hm).mono ?_
      rintro e w1 ⟨rfl, rfl⟩
      go_wp2
      go_ret
      exact ⟨rfl, E⟩
  · rw [if_neg (by omega)]
    go_enter Try.func36, Try.ntmps36
    go_wp2_with fail
    refine (szInt1_no (by omega) (by omega) hn).mono ?_
    rintro e w1 ⟨rfl, rfl⟩
    go_wp2
    go_ret
    exact ⟨rfl, E⟩
theorem szSharedKey_yes {A : Option Addr} {n c : Nat} {B : Option Addr} {m d : Nat} {z : Int} {w : World} (h : (n : Int) + m ≤ z) (hz2 : z ≤ 1000000000) :
    Calls Try.prog 36 #[.agg #[.slice A n c, .slice B m d], .int .i64 z] w fun e w' => e = .returned (.int .i64 (z - n - m)) ∧ Ext w w' := by
  have h9 := szSharedKey_any (A := A) (n := n) (c := c) (B := B) (m := m) (d := d) (z := z) (w := w) (by omega) hz2 (by omega) (by omega)
  rw [if_pos h] at h9
  exact h9
theorem szSharedKey_no {A : Option Addr} {n c : Nat} {B : Option Addr} {m d : Nat} {z : Int} {w : World} (h : z < (n : Int) + m) (hz : 0 ≤ z) (hz2 : z ≤ 1000000000) (hn : n ≤ maxLen) (hm : m ≤ maxLen) :
    Calls Try.prog 36 #[.agg #[.slice A n c, .slice B m d], .int .i64 z] w fun e w' => e = .returned (.int .i64 (-1)) ∧ Ext w w' := by
  unfold maxLen at hn hm
  have h9 := szSharedKey_any (A := A) (n := n) (c := c) (B := B) (m := m) (d := d) (z := z) (w := w) hz hz2 (by omega) (by omega)
  rw [if_neg (by omega)] at h9
  exact h9
end Go.Proofs.Ythamimjejlicpaa

/- Contracts for the laws' own functions on dealings and shared keys: copies, comparisons, marks, sizes. -/
import Derived.Test.YtpfccboighdcbaaProg
import Derived.Test.YtpfccboighdcbaaDl
namespace Go.Proofs.Ytpfccboighdcbaa
open Go.RowKit

theorem szInt1_yes {A : Option Addr} {n c : Nat} {k : Int} {w : World} (h : (n : Int) ≤ k) (hk : k ≤ 9000000000000000000) :
    Calls Try.prog 106 #[.slice A n c, .int .i64 k] w fun e w' => e = .returned (.int .i64 (k - n)) ∧ w = w' := by
  go_enter Try.func106, Try.ntmps106
  go_wp2
  go_ret
  exact ⟨rfl, rfl⟩
theorem szInt1_no {A : Option Addr} {n c : Nat} {k : Int} {w : World} (h : k < n) (hk : 0 ≤ k) (hn : n ≤ 9223372036854775807) :
    Calls Try.prog 106 #[.slice A n c, .int .i64 k] w fun e w' => e = .returned (.int .i64 (-1)) ∧ w = w' := by
  go_enter Try.func106, Try.ntmps106
  go_wp2
  go_ret
  exact ⟨rfl, rfl⟩
set_option maxHeartbeats 1000000 in
theorem eqSharedKey_same {A A' : Option Addr} {n c n' c' : Nat} {B B' : Option Addr} {m d m' d' : Nat} {l k : List Int} {w : World} (h1 : SlI w A n c l) (h2 : SlI w B m d k) (h3 : SlI w A' n' c' l) (h4 : SlI w B' m' d' k) :
    Calls Try.prog 30 #[.agg #[.slice A n c, .slice B m d], .agg #[.slice A' n' c', .slice B' m' d']] w fun e w' => e = .returned (.bool true) ∧ Ext w w' := by
  have E := ((Ext.refl w).alloc (.cells #[.slice A n c, .slice B m d] 70)).alloc (.cells #[.slice A' n' c', .slice B' m' d'] 70)
  have B0 := (Blk.new w 70 #[.slice A n c, .slice B m d]).alloc (.cells #[.slice A' n' c', .slice B' m' d'] 70)
  have B1 := Blk.new (w.alloc (.cells #[.slice A n c, .slice B m d] 70)) 70 #[.slice A' n' c', .slice B' m' d']
  simp only [World.size_alloc] at B1
  have q0 := B0.cells
  have q1 := B1.cells
  go_enter Try.func30, Try.ntmps30
  go_wp2_with fail
  refine (eqIntS_same (h1.rd.ext E) (h3.rd.ext E) h1.len h3.len h1.le h3.le).mono ?_
  rintro e w1 ⟨rfl, e1⟩
  clear q0 q1
  have q0 := (B0.ext e1).cells
  have q1 := (B1.ext e1).cells
  replace E := E.trans e1
  go_wp2_with fail
  refine (eqIntS_same (h2.rd.ext E) (h4.rd.ext E) h2.len h4.len h2.le h4.le).mono ?_
  rintro e w2 ⟨rfl, e2⟩
  go_wp2
  go_ret
  exact ⟨rfl, E.trans e2⟩
set_option maxHeartbeats 1000000 in
theorem markSharedKey_any {A : Option Addr} {n c : Nat} {B : Option Addr} {m d : Nat} {l k : List Int} {base : Nat} {z : Int} {w : World} (h : OwnK w base A n c B m d l k) (hz : 0 ≤ z) (hn : z + n + m ≤ 1000000000) :
    Calls Try.prog 35 #[.agg #[.slice A n c, .slice B m d], .int .i64 z] w fun e w' => e = .returned (.int .i64 (z + n + m)) ∧ OwnK w' base A n c B m d (iota z n) (iota (z + n) m) ∧ Only (fpI A ++ fpI B) w w' := by
  have B0 := Blk.new w 70 #[.slice A n c, .slice B m d]
  have E := (Ext.refl w).alloc (.cells #[.slice A n c, .slice B m d] 70)
  have q0 := B0.cells
  have la := h.a.low
  have lb := h.b.low
  have h' := h.ext E
  go_enter Try.func35, Try.ntmps35
  go_wp2_with fail
  refine (markIntS_any h'.a (by omega) (by omega)).mono ?_
  rintro e w1 ⟨rfl, m1, k1⟩
  clear q0
  have q0 := (B0.only k1 (fun hh => absurd (la _ hh) (by omega))).cells
  have b1 := h'.b.only k1 (fun b hb hb' => h.ap b hb' hb)
  go_wp2_with fail
  refine (markIntS_any b1 (by omega) (by omega)).mono ?_
  rintro e w2 ⟨rfl, m2, k2⟩
  have a2 := m1.only k2 h.ap
  go_wp2
  go_ret
  refine ⟨rfl, ⟨a2, m2, h.ap⟩, ?_⟩
  have := (E.toOnly []).trans (k1.trans k2)
  simpa using this
set_option maxHeartbeats 1000000 in
theorem heldSharedKey_any {A : Option Addr} {n c : Nat} {B : Option Addr} {m d : Nat} {base : Nat} {z : Int} {w : World} (h : OwnK w base A n c B m d (iota z n) (iota (z + n) m)) (hz : 0 ≤ z) (hn : z + n + m ≤ 1000000000) :
    Calls Try.prog 36 #[.agg #[.slice A n c, .slice B m d], .int .i64 z] w fun e w' => e = .returned (.int .i64 (z + n + m)) ∧ Ext w w' := by
  have B0 := Blk.new w 70 #[.slice A n c, .slice B m d]
  have E := (Ext.refl w).alloc (.cells #[.slice A n c, .slice B m d] 70)
  have q0 := B0.cells
  go_enter Try.func36, Try.ntmps36
  go_wp2_with fail
  refine (heldIntS_any (h.a.rd.ext E) (by omega) (by omega)).mono ?_
  rintro e w1 ⟨rfl, e1⟩
  clear q0
  have q0 := (B0.ext e1).cells
  replace E := E.trans e1
  go_wp2_with fail
  refine (heldIntS_any (h.b.rd.ext E) (by omega) (by omega)).mono ?_
  rintro e w2 ⟨rfl, e2⟩
  go_wp2
  go_ret
  exact ⟨rfl, E.trans e2⟩
end Go.Proofs.Ytpfccboighdcbaa

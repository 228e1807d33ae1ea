/- The cursor over a code's bytes: its draws. -/
import Derived.Test.YtnekpofaflpmdaaGreatDoorProg
import Derived.Test.YtnekpofaflpmdaaGreatDoorBase
import Derived.BigQuiet
import Derived.Laws.BitsLemmas
namespace Go.Proofs.YtnekpofaflpmdaaGreatDoor
open Go.RowKit

def bytesV (l : List Int) : List Value := l.map (Value.int .u8)
theorem bytesV_length (l : List Int) : (bytesV l).length = l.length := by simp [bytesV]
def RdB (w : World) (A : Option Addr) (l : List Int) : Prop := Rd w A (bytesV l)
theorem RdB.at_ {w : World} {A : Option Addr} {l : List Int} {k : Nat} (h : RdB w A l) (hk : k < l.length) : ∃ ad, A = some ad ∧ w.cell? (ad.add k) = some (.int .u8 (l[k]'hk)) := by
  obtain ⟨ad, hA, hc⟩ := Rd.at_ h (k := k) (by rw [bytesV_length]; exact hk)
  exact ⟨ad, hA, by simpa [bytesV] using hc⟩
theorem RdB.ext {w w' : World} {A : Option Addr} {l : List Int} (h : RdB w A l) (hb : Ext w w') : RdB w' A l := Rd.ext h hb

/-- A cursor lies in block g, at most k steps on; it and the code lie below block B. -/
def CurS (B : Nat) (w : World) (g k : Nat) : Prop := g < B ∧ ∃ (A : Option Addr) (l : List Int) (c p : Nat) (sd : Int),
  Blk w g 58 #[.slice A l.length c, .int .i64 p, .int .u64 sd] ∧ RdB w A l ∧ l.length ≤ 9223372036854775807 ∧ (∀ x ∈ l, 0 ≤ x ∧ x ≤ 255) ∧ p ≤ k ∧ ∀ a, A = some a → l ≠ [] → a.block < B ∧ a.block ≠ g

theorem cell_congr {w w' : World} {p : Addr} (h : w'.heap[p.block]? = w.heap[p.block]?) : w'.cell? p = w.cell? p := by simp only [World.cell?, h]
theorem Rd.only {w w' : World} {fp : List Nat} {A : Option Addr} {xs : List Value} (h : Rd w A xs) (k : Only fp w w') (hA : ∀ a, A = some a → xs ≠ [] → a.block ∉ fp) : Rd w' A xs := by
  by_cases hx : xs = []
  · exact .inl hx
  rcases h with h | ⟨ad, hA', hc⟩
  · exact .inl h
  · refine .inr ⟨ad, hA', fun j u hu => ?_⟩
    have h1 := hc j u hu
    have hb := add_block ad j
    rw [cell_congr (k.block _ (World.block_lt_of_cell? w _ h1) (by rw [hb]; exact hA ad hA' hx))]
    exact h1
theorem bytesV_nil {l : List Int} (h : bytesV l ≠ []) : l ≠ [] := fun e => h (by rw [e]; rfl)
theorem CurS.ext {B : Nat} {w w' : World} {g k : Nat} (h : CurS B w g k) (hE : Ext w w') : CurS B w' g k := by
  obtain ⟨hg, A, l, c, p, sd, hB, hR, hl, hx, hp, hA⟩ := h
  exact ⟨hg, A, l, c, p, sd, hB.ext hE, hR.ext hE, hl, hx, hp, hA⟩
theorem CurS.more {B : Nat} {w : World} {g k k' : Nat} (h : CurS B w g k) (hk : k ≤ k') : CurS B w g k' := by
  obtain ⟨hg, A, l, c, p, sd, hB, hR, hl, hx, hp, hA⟩ := h
  exact ⟨hg, A, l, c, p, sd, hB, hR, hl, hx, by omega, hA⟩
/-- What turns lies from block B on. -/
theorem CurS.below {B : Nat} {w w' : World} {g k : Nat} (h : CurS B w g k) (hE : Below B w w') : CurS B w' g k := by
  obtain ⟨hg, A, l, c, p, sd, hB, hR, hl, hx, hp, hA⟩ := h
  refine ⟨hg, A, l, c, p, sd, hB.below hE hg, ?_, hl, hx, hp, hA⟩
  by_cases hn : l = []
  · subst hn; exact .inl rfl
  rcases hR with hR | ⟨ad, hA', hc⟩
  · exact .inl hR
  · refine .inr ⟨ad, hA', fun j u hu => ?_⟩
    rw [cell_congr (hE.block _ (by rw [add_block]; exact (hA ad hA' hn).1))]
    exact hc j u hu
theorem CurS.lt {B : Nat} {w : World} {g k : Nat} (h : CurS B w g k) : g < B := h.1
theorem CurS.only {B : Nat} {w w' : World} {fp : List Nat} {g k : Nat} (h : CurS B w g k) (hO : Only fp w w') (hf : High B fp) (hB : B ≤ w.heap.size) : CurS B w' g k :=
  h.below ⟨hO.os, hO.tape, hO.output, hO.size, fun b hb => hO.block b (by omega) (fun e => by have := hf b e; omega)⟩
theorem cur_step {B : Nat} {w : World} {g k n c p : Nat} {A : Option Addr} {l : List Int} {sd : Int} (hB : Blk w g 58 #[.slice A n c, .int .i64 p, .int .u64 sd]) (hn : l.length = n) (hR : RdB w A l) (hl : n ≤ 9223372036854775807) (hx : ∀ x ∈ l, 0 ≤ x ∧ x ≤ 255) (hp : p ≤ k) (hA : ∀ a, A = some a → l ≠ [] → a.block < B ∧ a.block ≠ g) (hg : g < B) (a b : Nat) (sd' : Int) :
    Only [g] w ((((w.drewN a).setCell ⟨g, 1, none⟩ (.int .i64 ((p : Int) + 1))).setCell ⟨g, 2, none⟩ (.int .u64 sd')).drewN b) ∧
    CurS B ((((w.drewN a).setCell ⟨g, 1, none⟩ (.int .i64 ((p : Int) + 1))).setCell ⟨g, 2, none⟩ (.int .u64 sd')).drewN b) g (k + 1) := by
  have hO : Only [g] w ((((w.drewN a).setCell ⟨g, 1, none⟩ (.int .i64 ((p : Int) + 1))).setCell ⟨g, 2, none⟩ (.int .u64 sd')).drewN b) := ((((Only.refl [g] w).drewN a).setCell (by simp) _).setCell (by simp) _).drewN b
  refine ⟨hO, hg, A, l, c, p + 1, sd', ?_, Rd.only hR hO (fun a ha hn0 => by simp [(hA a ha (bytesV_nil hn0)).2]), by omega, hx, by omega, hA⟩
  subst hn
  exact (((hB.drewN a).set_ 1 _).set_ 2 _).drewN b

theorem wraps_u64_63 (n : Int) (h₀ : 0 ≤ n) (h₁ : n < 2 ^ 63) : IntKind.u64.wrap n = n := by rw [IntKind.wrap_u64]; omega
theorem seed_byte (s : Int) : ∃ r : Nat, r ≤ 255 ∧ wrap64 (bits BinOp.and IntKind.u64 (IntKind.u64.wrap s / 1099511627776) 255) = r := by
  have hs : 0 ≤ IntKind.u64.wrap s ∧ IntKind.u64.wrap s < 18446744073709551616 := by rw [IntKind.wrap_u64]; omega
  generalize IntKind.u64.wrap s = x at hs
  obtain ⟨h0, h1⟩ := hs
  have h := bits_mask .u64 63 (by decide) wraps_u64_63 8 (by decide) (x / 1099511627776) (by omega) (by omega)
  have e : ((2 : Int) ^ 8 - 1) = 255 := by decide
  have e2 : ((2 : Int) ^ 8) = 256 := by decide
  rw [e, e2] at h
  rw [h]
  refine ⟨(x / 1099511627776 % 256).toNat, by omega, ?_⟩
  unfold wrap64
  omega

set_option maxHeartbeats 1000000 in
theorem next_any {B : Nat} (g k : Nat) (w : World) (h : CurS B w g k) (hk : k ≤ 1000000000) :
    Calls Tryz.prog 58 #[.pointer (some ⟨g, 0, none⟩)] w fun e w' => ∃ r : Nat, e = .returned (.int .i64 r) ∧ r ≤ 255 ∧ Only [g] w w' ∧ CurS B w' g (k + 1) := by
  obtain ⟨hg, A, l, c, p, sd, hB, hR, hl, hx, hp, hA⟩ := h
  have Cg := hB.cells
  have Fg := hB.frozen
  generalize hn : l.length = n at *
  have HN := Lib.hid hn
  clear hn
  have hOS := cur_step (k := k) hB HN.out hR hl hx hp hA hg
  by_cases hpn : p < n
  · obtain ⟨ad, rfl, hc⟩ := hR.at_ (k := p) (by rw [HN.out]; exact hpn)
    obtain ⟨x0, x1⟩ := hx (l[p]'(by rw [HN.out]; exact hpn)) (List.getElem_mem _)
    generalize l[p]'(by rw [HN.out]; exact hpn) = b at *
    obtain ⟨b, rfl⟩ := Int.eq_ofNat_of_zero_le x0
    have hpz : (p : Int) < n := by omega
    have HOS := Lib.hid hOS
    clear hOS hR hA hx
    go_enter Tryz.func58, Tryz.ntmps58
    go_wp2
    go_quiet (fail)
    go_wp2
    go_quiet (fail)
    go_wp2
    go_quiet (fail)
    go_wp2
    go_ret
    exact ⟨b, rfl, by omega, HOS.out _ _ _⟩
  · have hpz : (n : Int) ≤ p := by omega
    have HOS := Lib.hid hOS
    clear hOS hR hA hx
    go_enter Tryz.func58, Tryz.ntmps58
    go_wp2
    go_quiet (fail)
    go_wp2
    go_quiet (fail)
    go_wp2
    obtain ⟨r, hr, he⟩ := seed_byte (IntKind.u64.wrap (IntKind.u64.wrap (sd * 6364136223846793005)) + 1442695040888963407)
    go_ret
    exact ⟨r, ret_int he, hr, HOS.out _ _ _⟩

set_option maxHeartbeats 1000000 in
theorem pick_any {B : Nat} (g k : Nat) (n : Int) (w : World) (h : CurS B w g k) (hk : k ≤ 100000000) (hn : n ≤ 1000000000) :
    Calls Tryz.prog 33 #[.pointer (some ⟨g, 0, none⟩), .int .i64 n] w fun e w' => ∃ r : Nat, e = .returned (.int .i64 r) ∧ ((r : Int) < n ∨ r = 0) ∧ Only [g] w w' ∧ CurS B w' g (k + 2) := by
  by_cases h1 : n ≤ 1
  · go_enter Tryz.func33, Tryz.ntmps33
    go_wp2
    go_ret
    exact ⟨0, rfl, .inr rfl, Only.refl _ _, h.more (by omega)⟩
  obtain ⟨m, rfl⟩ := Int.eq_ofNat_of_zero_le (show 0 ≤ n by omega)
  have hm : ((m : Int) == 0) = false := by simp; omega
  by_cases h2 : (m : Int) ≤ 200
  · go_enter Tryz.func33, Tryz.ntmps33
    go_wp2_with fail
    refine (next_any g k _ h (by omega)).mono ?_
    rintro e w1 ⟨r, rfl, hr, hO, hC⟩
    go_wp2
    go_ret
    refine ⟨r % m, ret_int ?_, .inl ?_, hO, hC.more (by omega)⟩
    · go_light
      simp
    · have := Nat.mod_lt r (show 0 < m by omega)
      omega
  · go_enter Tryz.func33, Tryz.ntmps33
    go_wp2_with fail
    refine (next_any g k _ h (by omega)).mono ?_
    rintro e w1 ⟨r, rfl, hr, hO, hC⟩
    go_wp2_with fail
    refine (next_any g (k + 1) _ hC (by omega)).mono ?_
    rintro e w2 ⟨r2, rfl, hr2, hO2, hC2⟩
    go_wp2
    go_ret
    refine ⟨(r * 256 + r2) % m, ret_int ?_, .inl ?_, (hO.trans hO2).mono (by simp), hC2⟩
    · go_light
      simp
    · have := Nat.mod_lt (r * 256 + r2) (show 0 < m by omega)
      omega

theorem one_any {B : Nat} (g k : Nat) (n : Int) (w : World) (h : CurS B w g k) (hk : k ≤ 100000000) (hn : n ≤ 1000000000) :
    Calls Tryz.prog 30 #[.pointer (some ⟨g, 0, none⟩), .int .i64 n] w fun e w' => ∃ b : Bool, e = .returned (.bool b) ∧ Only [g] w w' ∧ CurS B w' g (k + 2) := by
  go_enter Tryz.func30, Tryz.ntmps30
  go_wp2_with fail
  refine (pick_any g k n _ h hk hn).mono ?_
  rintro e w1 ⟨r, rfl, _, hO, hC⟩
  go_wp2
  go_ret
  exact ⟨_, rfl, hO, hC⟩

/-- One of a list. -/
theorem among_any {B : Nat} (g k : Nat) (A : Option Addr) (n c : Nat) (l : List Int) (w : World) (h : CurS B w g k) (hk : k ≤ 100000000) (ha : RdI w A l) (hl : l.length = n) (hn : 0 < n) (hn2 : n ≤ 1000000) (hA : ∀ a, A = some a → a.block ≠ g) :
    Calls Tryz.prog 32 #[.pointer (some ⟨g, 0, none⟩), .slice A n c] w fun e w' => ∃ r : Int, e = .returned (.int .i64 r) ∧ r ∈ l ∧ Only [g] w w' ∧ CurS B w' g (k + 2) := by
  have HL := Lib.hid hl
  clear hl
  go_enter Tryz.func32, Tryz.ntmps32
  go_wp2_with fail
  refine (pick_any g k n _ h hk (by omega)).mono ?_
  rintro e w1 ⟨r, rfl, hr, hO, hC⟩
  have hrn : r < l.length := by rw [HL.out]; omega
  have hrz : (r : Int) < n := by omega
  obtain ⟨ad, rfl, hc⟩ := RdI.at_ (Rd.only ha hO (fun a e _ => by simp [hA a e])) hrn
  go_wp2
  go_ret
  exact ⟨_, rfl, List.getElem_mem _, hO, hC⟩

/-- A new cursor. -/
theorem new_cur {w : World} {A : Option Addr} {l : List Int} {n c : Nat} (hR : RdB w A l) (hl : l.length = n) (hn : n ≤ 9223372036854775807) (hx : ∀ x ∈ l, 0 ≤ x ∧ x ≤ 255) :
    CurS (w.heap.size + 1) (w.alloc (.cells #[.slice A n c, .int .i64 0, .int .u64 0] 58)) w.heap.size 0 := by
  subst hl
  refine ⟨by omega, A, l, c, 0, 0, Blk.new w _ _, hR.ext ((Ext.refl w).alloc _), hn, hx, Nat.le_refl _, fun a ha hne => ?_⟩
  have h0 : 0 < l.length := List.length_pos_iff.2 hne
  obtain ⟨ad, hA, hc⟩ := hR.at_ h0
  rw [hA] at ha
  obtain rfl : ad = a := by simpa using ha
  have := World.block_lt_of_cell? w _ hc
  rw [add_block] at this
  omega
theorem ext_cur {w w' : World} {o : Obj} (h : Only [w.heap.size] (w.alloc o) w') : Ext w w' := ((Ext.refl w).alloc o).only h (fun b hb => by simp only [List.mem_singleton] at hb; omega)
end Go.Proofs.YtnekpofaflpmdaaGreatDoor

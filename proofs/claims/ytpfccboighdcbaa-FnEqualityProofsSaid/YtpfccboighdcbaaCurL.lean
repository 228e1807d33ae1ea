/- Drawn labels; drawn groups with a label and a number, with a number. -/
import Derived.Test.YtpfccboighdcbaaProg
import Derived.Test.YtpfccboighdcbaaCurG2
import Derived.Test.YtpfccboighdcbaaCurR
namespace Go.Proofs.Ytpfccboighdcbaa
open Go.RowKit
set_option linter.unusedVariables false
set_option linter.unusedSimpArgs false

def strs (l : List ByteArray) : List Value := l.map Value.string
set_option maxHeartbeats 1000000 in
theorem of_any {B : Nat} (g k : Nat) (A : Option Addr) (n c : Nat) (l : List ByteArray) (w : World) (h : CurS B w g k) (hk : k ≤ 100000000) (ha : Rd w A (strs l)) (hl : l.length = n) (hn : 0 < n) (hn2 : n ≤ 1000000) (hA : ∀ a, A = some a → a.block ≠ g) :
    Calls Try.prog 133 #[.pointer (some ⟨g, 0, none⟩), .slice A n c] w fun e w' => ∃ r : ByteArray, e = .returned (.string r) ∧ r ∈ l ∧ Only [g] w w' ∧ CurS B w' g (k + 2) := by
  have HL := Lib.hid hl
  clear hl
  go_enter Try.func133, Try.ntmps133
  go_wp2_with fail
  refine (pick_any g k n _ h hk (by omega)).mono ?_
  rintro e w1 ⟨r, rfl, hr, hO, hC⟩
  have hrn : r < l.length := by rw [HL.out]; omega
  have hrz : (r : Int) < n := by omega
  obtain ⟨ad, rfl, hc⟩ := Rd.at_ (Rd.only ha hO (fun a e _ => by simp [hA a e])) (k := r) (by simpa [strs] using hrn)
  have hc' : w1.cell? (ad.add r) = some (.string l[r]) := by rw [hc]; simp [strs]
  clear hc
  go_wp2
  go_ret
  exact ⟨_, rfl, List.getElem_mem _, hO, hC⟩
theorem rd_lit {w : World} {t : TypeId} (xs : List Value) : Rd (w.alloc (.cells xs.toArray t)) (some ⟨w.heap.size, 0, none⟩) xs := by
  refine .inr ⟨_, rfl, fun j u hu => ?_⟩
  have h := (Blk.new w t xs.toArray).cells j
  have e : (⟨w.heap.size, 0, none⟩ : Addr).add j = ⟨w.heap.size, j, none⟩ := by
    unfold Addr.add
    split <;> simp_all
  rw [e, h]
  simpa using hu
def labs : List ByteArray := [ByteArray.mk #[], ByteArray.mk #[97], ByteArray.mk #[118, 111, 116, 101], ByteArray.mk #[109, 105, 120], ByteArray.mk #[98, 111, 97, 114, 100, 32, 49], ByteArray.mk #[107, 101, 121], ByteArray.mk #[108, 111, 110, 103, 32, 108, 97, 98, 101, 108, 32, 119, 105, 116, 104, 32, 115, 101, 118, 101, 114, 97, 108, 32, 119, 111, 114, 100, 115, 32, 105, 110, 32, 105, 116]]
theorem labs_le : ∀ s ∈ labs, s.size ≤ 40 := by decide
set_option maxRecDepth 100000 in
set_option maxHeartbeats 4000000 in
theorem label_any {B : Nat} (g k : Nat) (w : World) (h : CurS B w g k) (hk : k ≤ 80000) (hB : B ≤ w.heap.size) :
    Calls Try.prog 64 #[.pointer (some ⟨g, 0, none⟩)] w fun e w' => ∃ s : ByteArray, e = .returned (.string s) ∧ s.size ≤ 100 ∧ Only [g] w w' ∧ CurS B w' g (k + 200) := by
  have hg := h.lt
  have hE := (Ext.refl w).alloc (.cells (strs labs).toArray 9)
  have hrd := rd_lit (w := w) (t := 9) (strs labs)
  have h0 := h.ext hE
  have hO0 := hE.toOnly [g]
  go_enter Try.func64, Try.ntmps64
  go_wp2_with fail
  refine (of_any g k (some ⟨w.heap.size, 0, none⟩) 7 7 labs _ h0 (by omega) hrd rfl (by omega) (by omega) (by intro a ha; simp at ha; subst ha; simp; omega)).mono ?_
  rintro e w1 ⟨s, rfl, hs, hO1, hC1⟩
  have hs40 := labs_le s hs
  replace hO1 := hO0.thenOnly hO1
  clear h h0 hrd hE hO0 hs
  go_wp2_with fail
  refine (one_any g (k + 2) 16 _ hC1 (by omega) (by omega)).mono ?_
  rintro e w2 ⟨b, rfl, hO2, hC2⟩
  have hO := hO1.thenOnly hO2
  cases b
  · go_wp2
    go_ret
    exact ⟨s, rfl, by omega, hO, hC2.more (by omega)⟩
  · go_wp2
    go_loopw [3] (fun v wr => ∃ t : ByteArray, v = .string t ∧ t.size ≤ 41 ∧ Only [g] w wr ∧ CurS B wr g (k + 4 + 2 * t.size)) (fun v _ => match v with | .string t => 41 - t.size | _ => 0)
    case atStart => exact ⟨s, rfl, by omega, hO, hC2.more (by omega)⟩
    case round =>
      obtain ⟨t, rfl, ht, hO3, hC3⟩ := hrel
      go_wp2_with fail
      refine (pick_any g _ 2 _ hC3 (by omega) (by omega)).mono ?_
      rintro e w4 ⟨r, rfl, hr, hO4, hC4⟩
      have hr2 : r ≤ 1 := by omega
      by_cases hlt : t.size < 40 + r
      · have HSZ : Hid ((t ++ (ByteArray.mk #[120])).size = t.size + 1) := by show _ = _; rw [ByteArray.size_append]; rfl
        go_wp2
        go_roundw
        case rel => exact ⟨_, rfl, by rw [HSZ.out]; omega, hO3.thenOnly hO4, hC4.more (by rw [HSZ.out]; omega)⟩
        case measure => have h9 := HSZ.out; show 41 - (t ++ (ByteArray.mk #[120])).size < 41 - t.size; omega
      · go_wp2
        go_ret
        exact ⟨t, rfl, by omega, hO3.thenOnly hO4, hC4.more (by omega)⟩
end Go.Proofs.Ytpfccboighdcbaa

/- Contracts for ciphertexts: encryption, products, decryption. (Printed by tools/gen_encc.py.) -/
import Derived.Test.YthamimjejlicpaaProg
import Derived.Test.YthamimjejlicpaaGrpO
import Derived.Test.YthamimjejlicpaaEncP
import Derived.Test.YthamimjejlicpaaFunC
namespace Go.Proofs.Ythamimjejlicpaa
open Go.RowKit

theorem gpw_rg (p q x e : Int) (h : GrpB p q) : 0 ≤ gpw p q x e ∧ gpw p q x e ≤ 2000000000 := by
  obtain ⟨p1, p2, q1, q2⟩ := h
  unfold gpw powM
  have := Nat.mod_lt (x.toNat ^ (e % q).toNat) (show 0 < p.toNat by omega)
  omega
theorem gmul_rg {p q : Int} (h : GrpB p q) {l : List Int} (hr : ∀ x ∈ l, 0 ≤ x) : 0 ≤ gmul p l ∧ gmul p l ≤ 2000000000 := by
  obtain ⟨p1, p2, q1, q2⟩ := h
  unfold gmul
  suffices H : ∀ (l : List Int) (o : Int), (∀ x ∈ l, 0 ≤ x) → 0 ≤ o ∧ o ≤ 2000000000 → 0 ≤ l.foldl (fun o x => o * x % p) o ∧ l.foldl (fun o x => o * x % p) o ≤ 2000000000 from H l 1 hr (by omega)
  intro l
  induction l with
  | nil => intro o _ h; exact h
  | cons x l ih =>
    intro o hx _
    have hb := emod_bd (x := o * x) p1
    exact ih _ (fun y hy => hx y (by simp [hy])) ⟨hb.1, by have := hb.2; show o * x % p ≤ 2000000000; omega⟩
theorem gmul2_rg {p q x y : Int} (h : GrpB p q) (hx : 0 ≤ x) (hy : 0 ≤ y) : 0 ≤ gmul p [x, y] ∧ gmul p [x, y] ≤ 2000000000 := gmul_rg h (by
  intro z hz
  simp only [List.mem_cons, List.not_mem_nil, or_false] at hz
  rcases hz with rfl | rfl <;> assumption)
theorem two_rg {x y : Int} (hx : 0 ≤ x ∧ x ≤ 3000000000) (hy : 0 ≤ y ∧ y ≤ 3000000000) : ∀ z ∈ [x, y], 0 ≤ z ∧ z ≤ 3000000000 := by
  intro z hz
  simp only [List.mem_cons, List.not_mem_nil, or_false] at hz
  rcases hz with rfl | rfl <;> omega
/-- A slice of two ints that has just been laid. -/
theorem rd_two {w : World} {x y : Int} {k : Nat} (hk : k = w.heap.size) : RdI (w.alloc (.cells #[.int .i64 x, .int .i64 y] 3)) (some ⟨k, 0, none⟩) [x, y] :=
  (ownI_lit (w := w) (base := w.heap.size) [x, y] rfl hk (Nat.le_refl _) (by unfold maxLen; simp)).rd
theorem rd_one {w : World} {x : Int} {k : Nat} (hk : k = w.heap.size) : RdI (w.alloc (.cells #[.int .i64 x] 3)) (some ⟨k, 0, none⟩) [x] :=
  (ownI_lit (w := w) (base := w.heap.size) [x] rfl hk (Nat.le_refl _) (by unfold maxLen; simp)).rd














end Go.Proofs.Ythamimjejlicpaa

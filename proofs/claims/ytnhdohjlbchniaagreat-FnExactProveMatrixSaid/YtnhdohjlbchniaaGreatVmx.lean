/- The proof of a shuffle by a permutation matrix: its equations, in plain Lean. -/
import Derived.Test.YtnhdohjlbchniaaGreatProg
import Derived.Test.YtnhdohjlbchniaaGreatLin
import Derived.Test.YtnhdohjlbchniaaGreatSid
import Derived.Test.YtnhdohjlbchniaaGreatBas
import Derived.Test.YtnhdohjlbchniaaGreatMar
namespace Go.Proofs.YtnhdohjlbchniaaGreat
open Go.RowKit
set_option linter.unusedVariables false

/-- The product of exponents. -/
def allV (q : Int) (e : List Int) : Nat → Int
  | 0 => 1
  | k + 1 => allV q e k * e.getD k 0 % q
theorem allV_succ (q : Int) {e : List Int} {k : Nat} (h : k < e.length) : allV q e (k + 1) = allV q e k * e[k] % q := by
  show allV q e k * e.getD k 0 % q = _
  rw [List.getD_eq_getElem?_getD, List.getElem?_eq_getElem h]; rfl
theorem allV_rg {q : Int} (hq : 2 ≤ q) (e : List Int) : ∀ k, 0 ≤ allV q e k ∧ allV q e k < q
  | 0 => ⟨by simp [allV], by simp [allV]; omega⟩
  | k + 1 => ⟨Int.emod_nonneg _ (by omega), Int.emod_lt_of_pos _ (by omega)⟩
/-- A proof has the form for n ciphertexts. -/
def vmF (p q : Int) (n : Nat) (co cn cm ch rs : List Int) : Bool :=
  decide (co.length = n) && (decide (cn.length = n) && (decide (cm.length = n + 5) && (decide (ch.length = 1) && (decide (rs.length = 2 * n + 4) && (co.all (elB p q) && (cn.all (elB p q) && (cm.all (elB p q) && allR rs 0 (q - 1))))))))
theorem vmF_in {p q : Int} {n : Nat} {co cn cm ch rs : List Int} (h : vmF p q n co cn cm ch rs = true) :
    co.length = n ∧ cn.length = n ∧ cm.length = n + 5 ∧ ch.length = 1 ∧ rs.length = 2 * n + 4 ∧ co.all (elB p q) = true ∧ cn.all (elB p q) = true ∧ cm.all (elB p q) = true ∧ allR rs 0 (q - 1) = true := by
  unfold vmF at h
  simpa only [Bool.and_eq_true, decide_eq_true_eq] using h
/-- The label of the challenges of columns. -/
def colS : ByteArray := ⟨#[109, 105, 120, 32, 99, 111, 108, 117, 109, 110, 115]⟩
/-- The label of the last challenge. -/
def endS : ByteArray := ⟨#[109, 105, 120, 32, 112, 114, 111, 111, 102]⟩
noncomputable def vmE (p q g key : Int) (a b : List (Int × Int)) (co : List Int) : List Int := chsL p q g colS (mlL key a b co) a.length
noncomputable def vmZ (p q g key : Int) (a b : List (Int × Int)) (co cn cm : List Int) : Int := chV p q g endS (mlL key a b co ++ cn ++ cm)
/-- The left sides' bases. -/
def vmL (p q H : Int) (hs : List Int) (a : List (Int × Int)) (co cn e : List Int) : List Int :=
  [gmul p [gmul p co, gpw p q (gmul p hs) (-1)], prodV p q co e a.length, gmul p [cn.getD (a.length - 1) 0, gpw p q H (-(allV q e a.length))], prodV p q (a.map Prod.fst) e a.length, prodV p q (a.map Prod.snd) e a.length] ++ cn
def vmRi (p q g H : Int) (cn rs x : List Int) (i : Nat) : Int := gmul p [gpw p q g (rs.getD (4 + i) 0), gpw p q ((H :: cn).getD i 0) (x.getD i 0)]
/-- The right sides. -/
def vmR (p q g key H : Int) (hs : List Int) (b : List (Int × Int)) (cn rs x : List Int) (n : Nat) : List Int :=
  [gpw p q g (rs.getD 0 0), gmul p [gpw p q g (rs.getD 1 0), prodV p q hs x n], gpw p q g (rs.getD 2 0), gmul p [gpw p q g (-(rs.getD 3 0)), prodV p q (b.map Prod.fst) x n], gmul p [gpw p q key (-(rs.getD 3 0)), prodV p q (b.map Prod.snd) x n]] ++ (List.range n).map (vmRi p q g H cn rs x)
/-- An equation holds. -/
def vmQ (p q z : Int) (cm L R : List Int) (i : Nat) : Bool := gmul p [cm.getD i 0, gpw p q (L.getD i 0) z] == R.getD i 0
/-- The proof is right. -/
noncomputable def vmV (p q g key : Int) (a b : List (Int × Int)) (co cn cm ch rs : List Int) : Bool :=
  decide (b.length = a.length) && (vmF p q a.length co cn cm ch rs && ((ch.getD 0 0 == vmZ p q g key a b co cn cm) &&
    (List.range (5 + a.length)).all (vmQ p q (vmZ p q g key a b co cn cm) cm (vmL p q (derV p q g ⟨#[104]⟩ 0) (derL p q g ⟨#[104, 115]⟩ a.length) a co cn (vmE p q g key a b co))
      (vmR p q g key (derV p q g ⟨#[104]⟩ 0) (derL p q g ⟨#[104, 115]⟩ a.length) b cn rs (rs.drop (a.length + 4)) a.length))))
/-- The lists, the key and the group are right, and bases are there. -/
noncomputable def mxB (p q g key : Int) (a : List (Int × Int)) : Bool := grpB p q g && (elB p q key && amB p q a)
noncomputable def vmK (p q g key : Int) (a b : List (Int × Int)) : Bool := mxB p q g key a && (basK p q g a.length && amB p q b)
theorem all5 (f : Nat → Bool) (n : Nat) : (List.range (5 + n)).all f = (f 0 && (f 1 && (f 2 && (f 3 && (f 4 && (List.range n).all fun i => f (5 + i)))))) := by
  rw [List.range_add, List.all_append, List.all_map]
  simp only [show List.range 5 = [0, 1, 2, 3, 4] from rfl, List.all_cons, List.all_nil, Bool.and_true, Bool.and_assoc, Function.comp_def]
theorem fl2_all {p q : Int} {l : List (Int × Int)} (h : l.all (ciB p q) = true) : ∀ x ∈ fl2 l, elB p q x = true := by
  induction l with
  | nil => intro x hx; simp [fl2] at hx
  | cons y t ih =>
    simp only [List.all_cons, Bool.and_eq_true, ciB] at h
    intro x hx
    simp only [fl2, List.mem_cons] at hx
    rcases hx with rfl | rfl | hx
    · exact h.1.1
    · exact h.1.2
    · exact ih (by simpa [ciB] using h.2) x hx
theorem fl2_length (l : List (Int × Int)) : (fl2 l).length = 2 * l.length := by
  induction l with
  | nil => rfl
  | cons y t ih => simp only [fl2, List.length_cons, ih]; omega
theorem mlL_length (key : Int) (a b : List (Int × Int)) (r : List Int) : (mlL key a b r).length = 1 + 2 * a.length + 2 * b.length + r.length := by
  simp only [mlL, List.length_append, fl2_length, List.length_singleton]
theorem allR_el {p q : Int} {l : List Int} (hp : p ≤ 2000000000) (h : ∀ x ∈ l, elB p q x = true) : allR l 0 4611686018427387903 = true := by
  rw [allR_iff]
  intro x hx
  have := (elB_iff.1 (h x hx)).1
  omega
theorem mlL_el {p q g key : Int} {a b : List (Int × Int)} {r : List Int} (hk : elB p q key = true) (ha : a.all (ciB p q) = true) (hb : b.all (ciB p q) = true) (hr : r.all (elB p q) = true) : ∀ x ∈ mlL key a b r, elB p q x = true := by
  intro x hx
  simp only [mlL, List.mem_append, List.mem_singleton] at hx
  rcases hx with ((rfl | h) | h) | h
  · exact hk
  · exact fl2_all ha x h
  · exact fl2_all hb x h
  · exact List.all_eq_true.1 hr x h
theorem amB_in {p q : Int} {l : List (Int × Int)} (h : amB p q l = true) : 1 ≤ l.length ∧ l.length ≤ 12 ∧ l.all (ciB p q) = true := by
  unfold amB at h
  simp only [Bool.and_eq_true, decide_eq_true_eq] at h
  have := inR_iff.1 h.1
  exact ⟨by omega, by omega, h.2.2⟩
/-- The challenges are there. -/
theorem vm_chs {p q g key : Int} {a b : List (Int × Int)} {co : List Int} (hG : grpB p q g = true) (hk : elB p q key = true) (ha : amB p q a = true) (hb : amB p q b = true) (hl : b.length = a.length) (hc : co.length = a.length) (he : co.all (elB p q) = true) : chN 4 colS (mlL key a b co) = true := by
  obtain ⟨a1, a2, a3⟩ := amB_in ha
  obtain ⟨b1, b2, b3⟩ := amB_in hb
  have hp := (grpB_in hG).bd.g2.2
  unfold chN
  simp only [Bool.and_eq_true, decide_eq_true_eq]
  refine ⟨by decide, ?_, allR_el hp (mlL_el (g := g) hk a3 b3 he)⟩
  have hs : colS.size = 11 := rfl
  rw [mlL_length, hs]; omega
theorem vm_ch {p q g key : Int} {a b : List (Int × Int)} {co cn cm : List Int} (hG : grpB p q g = true) (hk : elB p q key = true) (ha : amB p q a = true) (hb : amB p q b = true) (hl : b.length = a.length) (hc : co.length = a.length) (he : co.all (elB p q) = true)
    (hc2 : cn.length = a.length) (he2 : cn.all (elB p q) = true) (hc3 : cm.length = a.length + 5) (he3 : cm.all (elB p q) = true) : chK p q g endS (mlL key a b co ++ cn ++ cm) = true ∧ allR (mlL key a b co ++ cn ++ cm) 0 4611686018427387903 = true := by
  obtain ⟨a1, a2, a3⟩ := amB_in ha
  obtain ⟨b1, b2, b3⟩ := amB_in hb
  have hp := (grpB_in hG).bd.g2.2
  have hr : allR (mlL key a b co ++ cn ++ cm) 0 4611686018427387903 = true := allR_el (q := q) hp fun x hx => by
    simp only [List.mem_append] at hx
    rcases hx with (h | h) | h
    · exact mlL_el (g := g) hk a3 b3 he x h
    · exact List.all_eq_true.1 he2 x h
    · exact List.all_eq_true.1 he3 x h
  refine ⟨?_, hr⟩
  rw [chK_eq hG]
  unfold chN
  simp only [Bool.and_eq_true, decide_eq_true_eq]
  refine ⟨by decide, ?_, hr⟩
  have hs : endS.size = 9 := rfl
  simp only [List.length_append, mlL_length, hs]; omega
end Go.Proofs.YtnhdohjlbchniaaGreat

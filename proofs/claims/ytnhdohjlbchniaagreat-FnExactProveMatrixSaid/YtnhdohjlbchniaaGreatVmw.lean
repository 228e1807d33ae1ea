/- The equations of a matrix proof one by one, in plain Lean. -/
import Derived.Test.YtnhdohjlbchniaaGreatProg
import Derived.Test.YtnhdohjlbchniaaGreatVmx3
namespace Go.Proofs.YtnhdohjlbchniaaGreat
open Go.RowKit
set_option linter.unusedVariables false

/-- The proof is right, with bases that are given. -/
noncomputable def vmW (p q g key H : Int) (hs : List Int) (a b : List (Int × Int)) (co cn cm ch rs : List Int) : Bool :=
  decide (b.length = a.length) && (vmF p q a.length co cn cm ch rs && ((ch.getD 0 0 == vmZ p q g key a b co cn cm) &&
    (List.range (5 + a.length)).all (vmQ p q (vmZ p q g key a b co cn cm) cm (vmL p q H hs a co cn (vmE p q g key a b co)) (vmR p q g key H hs b cn rs (rs.drop (a.length + 4)) a.length))))
theorem vmV_eq (p q g key : Int) (a b : List (Int × Int)) (co cn cm ch rs : List Int) : vmV p q g key a b co cn cm ch rs = vmW p q g key (derV p q g ⟨#[104]⟩ 0) (derL p q g ⟨#[104, 115]⟩ a.length) a b co cn cm ch rs := rfl
theorem getD_tail5 {a0 a1 a2 a3 a4 d : Int} {l : List Int} {i : Nat} : ([a0, a1, a2, a3, a4] ++ l).getD (5 + i) d = l.getD i d := by
  rw [Nat.add_comm 5 i]; rfl
theorem getD_map_range {f : Nat → Int} {n i : Nat} (h : i < n) : ((List.range n).map f).getD i 0 = f i := by
  rw [List.getD_eq_getElem?_getD, List.getElem?_map, List.getElem?_range h]; rfl
/-- The last equations. -/
def vmQi (p q g H z : Int) (cn cm rs x : List Int) (i : Nat) : Bool := gmul p [cm.getD (5 + i) 0, gpw p q (cn.getD i 0) z] == vmRi p q g H cn rs x i
theorem vm_all {p q g key H z : Int} {hs : List Int} {a b : List (Int × Int)} {co cn cm rs e x : List Int} :
    (List.range (5 + a.length)).all (vmQ p q z cm (vmL p q H hs a co cn e) (vmR p q g key H hs b cn rs x a.length)) =
      ((gmul p [cm.getD 0 0, gpw p q (gmul p [gmul p co, gpw p q (gmul p hs) (-1)]) z] == gpw p q g (rs.getD 0 0)) &&
      ((gmul p [cm.getD 1 0, gpw p q (prodV p q co e a.length) z] == gmul p [gpw p q g (rs.getD 1 0), prodV p q hs x a.length]) &&
      ((gmul p [cm.getD 2 0, gpw p q (gmul p [cn.getD (a.length - 1) 0, gpw p q H (-(allV q e a.length))]) z] == gpw p q g (rs.getD 2 0)) &&
      ((gmul p [cm.getD 3 0, gpw p q (prodV p q (a.map Prod.fst) e a.length) z] == gmul p [gpw p q g (-(rs.getD 3 0)), prodV p q (b.map Prod.fst) x a.length]) &&
      ((gmul p [cm.getD 4 0, gpw p q (prodV p q (a.map Prod.snd) e a.length) z] == gmul p [gpw p q key (-(rs.getD 3 0)), prodV p q (b.map Prod.snd) x a.length]) &&
      (List.range a.length).all (vmQi p q g H z cn cm rs x)))))) := by
  rw [all5]
  have hl : (List.range a.length).all (fun i => vmQ p q z cm (vmL p q H hs a co cn e) (vmR p q g key H hs b cn rs x a.length) (5 + i)) = (List.range a.length).all (vmQi p q g H z cn cm rs x) := by
    rw [Bool.eq_iff_iff, List.all_eq_true, List.all_eq_true]
    refine forall_congr' fun i => forall_congr' fun hi => ?_
    rw [List.mem_range] at hi
    unfold vmQ vmQi vmL vmR
    rw [getD_tail5, getD_tail5, getD_map_range hi]
  rw [hl]
  rfl
theorem el_bd {p q x : Int} (hp : p ≤ 2000000000) (h : elB p q x = true) : 0 ≤ x ∧ x ≤ 3000000000 := by
  have := (elB_iff.1 h).1
  omega
theorem els_bd {p q : Int} {l : List Int} (hp : p ≤ 2000000000) (h : l.all (elB p q) = true) : ∀ x ∈ l, 0 ≤ x ∧ x ≤ 3000000000 := fun x hx => el_bd hp (List.all_eq_true.1 h x hx)
theorem ci_bd {p q : Int} {l : List (Int × Int)} (hp : p ≤ 2000000000) (h : l.all (ciB p q) = true) : (∀ x ∈ l.map Prod.fst, 0 ≤ x ∧ x ≤ 3000000000) ∧ ∀ x ∈ l.map Prod.snd, 0 ≤ x ∧ x ≤ 3000000000 := by
  constructor <;>
  · intro x hx
    obtain ⟨y, hy, rfl⟩ := List.mem_map.1 hx
    have := List.all_eq_true.1 h y hy
    simp only [ciB, Bool.and_eq_true] at this
    first
      | exact el_bd hp this.1
      | exact el_bd hp this.2
theorem prod_bd {p q : Int} (h : GrpB p q) (l e : List Int) (k : Nat) : 0 ≤ prodV p q l e k ∧ prodV p q l e k ≤ 2000000000 := by
  have := prodV_rg1 q h.1 l e k
  have := h.2
  omega
theorem mul_bd {p q : Int} (h : GrpB p q) {l : List Int} (hl : ∀ x ∈ l, 0 ≤ x ∧ x ≤ 3000000000) : 0 ≤ gmul p l ∧ gmul p l ≤ 2000000000 := gmul_rg h fun x hx => (hl x hx).1
theorem chs_bd {p q g : Int} (h : grpB p q g = true) (s : ByteArray) (l : List Int) (n : Nat) : ∀ x ∈ chsL p q g s l n, 0 ≤ x ∧ x < q := by
  intro x hx
  obtain ⟨k, hk, rfl⟩ := List.getElem_of_mem hx
  rw [chsL_at hk]
  exact chV_rg h _ _
theorem getD_lt {l : List Int} {i : Nat} (h : i < l.length) : l.getD i 0 = l[i] := by
  rw [List.getD_eq_getElem?_getD, List.getElem?_eq_getElem h]; rfl
theorem g2_bd {p q x y : Int} (h : GrpB p q) (hx : 0 ≤ x) (hy : 0 ≤ y) : 0 ≤ gmul p [x, y] ∧ gmul p [x, y] ≤ 2000000000 := gmul_rg h fun z hz => by
  simp only [List.mem_cons, List.not_mem_nil, or_false] at hz
  rcases hz with rfl | rfl <;> assumption
theorem if_wanted {c : Bool} {A B : Prop} (h : c = true) (ha : A) : if c = true then A else B := by rw [if_pos h]; exact ha
theorem rd_cells {w V : World} {t : TypeId} {xs : List Value} {k : Nat} (hk : k = w.heap.size) (hV : Ext (w.alloc (.cells xs.toArray t)) V) : Rd V (some ⟨k, 0, none⟩) xs := by
  subst hk
  refine Rd.ext (.inr ⟨_, rfl, fun j u hu => ?_⟩) hV
  have h := (Blk.new w t xs.toArray).cells j
  have e : (⟨w.heap.size, 0, none⟩ : Addr).add j = ⟨w.heap.size, j, none⟩ := by
    unfold Addr.add
    split <;> simp_all
  rw [e, h]
  simpa using hu
theorem rdSS_lit3 {w V : World} {A B C : Option Addr} {n c m d i j : Nat} {l1 l2 l3 : List Int} {t : TypeId} {k : Nat} (hk : k = w.heap.size) (hV : Ext (w.alloc (.cells #[.slice A n c, .slice B m d, .slice C i j] t)) V) (h1 : SlI V A n c l1) (h2 : SlI V B m d l2) (h3 : SlI V C i j l3) : RdSS V (some ⟨k, 0, none⟩) [l1, l2, l3] :=
  RowsRd.rd (rs := [(A, n, c), (B, m, d), (C, i, j)]) ⟨rfl, fun i hi _ => match i, hi with | 0, _ => h1 | 1, _ => h2 | 2, _ => h3⟩ (rd_cells (xs := [.slice A n c, .slice B m d, .slice C i j]) hk hV)
section
variable {P : Program} {ops : Array Oper} {Q : Exit → Act → World → Prop} {md : Region.Mode} {S : World → Prop}
/-- An operation's slot holds nothing, and its guard says no. -/
def idle (ops : Array Oper) (a : Act) (i : Nat) : Bool := match ops[i]? with
  | some o => !Region.wanted o (yielded ops a.tmps) && (match o.dst with
    | some d => (match a.tmps[d]? with
      | some (.tuple ⟨[]⟩) => true
      | none => true
      | _ => false)
    | none => true)
  | none => false
theorem idle_put {a : Act} {i : Nat} (h : idle ops a i = true) : ∃ o, ops[i]? = some o ∧ Region.wanted o (yielded ops a.tmps) = false ∧ a.put o.dst undef = a := by
  unfold idle at h
  split at h
  case h_2 => cases h
  case h_1 o ho =>
    rw [Bool.and_eq_true] at h
    refine ⟨o, ho, by simpa using h.1, ?_⟩
    have h2 := h.2
    unfold Act.put
    split at h2
    case h_2 e => simp [e]
    case h_1 d hd =>
      simp only [hd]
      split at h2
      case h_3 => cases h2
      case h_1 e =>
        have h3 := Array.getElem?_eq_some_iff.1 e
        obtain ⟨h4, h5⟩ := h3
        have : a.tmps.setIfInBounds d undef = a.tmps := by
          apply Array.ext (by simp)
          intro k h6 h7
          rw [Array.getElem_setIfInBounds]
          split
          · rename_i e2; subst e2; rw [h5]; rfl
          · rfl
        rw [this]
      case h_2 e =>
        have : a.tmps.setIfInBounds d undef = a.tmps := by
          apply Array.ext (by simp)
          intro k h6 h7
          rw [Array.getElem_setIfInBounds]
          split
          · rename_i e2; subst e2; simp at e; omega
          · rfl
        rw [this]
def skipOk (md : Region.Mode) (ops : Array Oper) (a : Act) : Array Bool → List Nat → Bool
  | _, [] => true
  | listed, i :: r => idle ops a i && (Region.free md ops listed i && ((Region.ready md ops listed).contains i && skipOk md ops a (listed.setIfInBounds i true) r))
/-- Operations that are not wanted and whose slots hold nothing: all at once. -/
theorem wpAnyH_skips {a : Act} {w : World} (hs : Region.noSelect ops = true) (hQ : ∀ d c a w, Q (.panic c) (a.put d undef) w → Q (.panic c) a w) (hS : S w) :
    ∀ {is : List Nat} {fuel : Nat} {listed l' : Array Bool}, skipOk md ops a listed is = true → is.foldl (fun l i => l.setIfInBounds i true) listed = l' →
      wpAnyH P md ops Q S fuel l' a w → wpAnyH P md ops Q S (fuel + is.length) listed a w
  | [], _, _, _, _, hl, h => by cases hl; exact h
  | i :: r, fuel, listed, l', hk, hl, h => by
    simp only [skipOk, Bool.and_eq_true] at hk
    obtain ⟨o, ho, hw, hp⟩ := idle_put hk.1
    refine wpAnyH_take (v := undef) ho hs hk.2.1 hk.2.2.1 (fun c a w => hQ _ c a w) (Or.inr ⟨hw, rfl⟩) hS ?_
    rw [hp]
    exact wpAnyH_skips hs hQ hS hk.2.2.2 hl h
/-- One comes up alone. -/
theorem wpAnyH_one {i : Nat} {o : Oper} {fuel : Nat} {listed : Array Bool} {a : Act} {w : World} (hr : Region.ready md ops listed = [i]) (ho : ops[i]? = some o)
    (hw : Region.wanted o (yielded ops a.tmps) = true)
    (h : ∀ K' : Act → World → Prop, Shut (∀ a w, S w → (S w → wpAnyH P md ops Q S fuel (listed.setIfInBounds i true) a w) → K' a w) → Oper.wp P o a w K' Q) : wpAnyH P md ops Q S (fuel + 1) listed a w :=
  wpAnyH_ready hr (by simp) (AllReadyH.cons ho (fun K' hK => by rw [if_pos hw]; exact h K' hK) AllReadyH.nil)
/-- wpAnyH_take with its closed facts found by themselves. -/
theorem tkH (i : Nat) {oi : Oper} {v : Value} {fuel : Nat} {listed : Array Bool} {a : Act} {w : World}
    (hi : ops[i]? = some oi := by (simp only [List.getElem?_toArray, List.getElem?_cons_succ, List.getElem?_cons_zero]; rfl))
    (hs : Region.noSelect ops = true := by kernel_rfl) (hf : Region.free md ops listed i = true := by kernel_rfl) (hr : (Region.ready md ops listed).contains i = true := by kernel_rfl)
    (hQ : ∀ c a w, Q (.panic c) (a.put oi.dst v) w → Q (.panic c) a w := by exact fun _ _ _ h => h) (hS : S w := by assumption) (hy : YieldsIf P ops S oi v a)
    (h : wpAnyH P md ops Q S fuel (listed.setIfInBounds i true) (a.put oi.dst v) w) : wpAnyH P md ops Q S (fuel + 1) listed a w := wpAnyH_take hi hs hf hr hQ hy hS h
theorem yldH {o : Oper} {v : Value} {a : Act} (hw : Region.wanted o (yielded ops a.tmps) = true) (h : ∀ w, S w → (execOp a.eval o).run P w = .ok (.value v) w) : YieldsIf P ops S o v a := Or.inl ⟨hw, h⟩
end
end Go.Proofs.YtnhdohjlbchniaaGreat

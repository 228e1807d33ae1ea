/- Lists of strings of the call's own: 'append(s, x)' of one string that has just been laid into a new cell. -/
import Derived.Test.YtnekpofaflpmdaaGreatDoorProg
import Derived.Test.YtnekpofaflpmdaaGreatDoorRw
import Derived.Test.YtnekpofaflpmdaaGreatDoorLies
import Derived.Test.YtnekpofaflpmdaaGreatDoorShf
namespace Go.Proofs.YtnekpofaflpmdaaGreatDoor
section
open Go.RowKit
/-- A slice type whose elements are strings. -/
structure StrSl (P : Program) (t e : TypeId) : Prop where
  ht : P.underlying t = some (.slice e)
  hi : ∃ i, P.info? e = some i ∧ i.zero = some (.string ⟨#[]⟩) ∧ i.size = 1 ∧ i.bytes = 16
def strV (l : List ByteArray) : List Value := l.map .string
theorem strV_app (l : List ByteArray) (b : ByteArray) : strV l ++ [.string b] = strV (l ++ [b]) := by simp [strV]
set_option maxRecDepth 100000 in
theorem strSl : StrSl Tryz.prog 48 9 := ⟨Tryz.underlying48, by
  refine ⟨_, rfl, ?_, ?_, ?_⟩ <;> rfl⟩
/-- 'append(s, x)' of one string that has just been laid into a new cell. -/
theorem wpList_app1S {P : Program} {w0 : World} {ops : Array Oper} {rest : List Oper} {o : Oper} {a : Act} {Q : Exit → Act → World → Prop} {t e : TypeId} (S : StrSl P t e) {b : ByteArray}
    (hg : o.guard = none) (s x : Operand) (ho : o.op = .call { callee := .builtin .append, args := #[s, x], argTypes := #[t, t] })
    {base : Nat} {A : Option Addr} {n c c' : Nat} {l : List ByteArray} (hown : OwnW 1 w0 base e A n c (strV l)) (hs : a.eval s = .slice A n c)
    {h : Nat} (hx : a.eval x = .slice (some ⟨h, 0, none⟩) 1 c') (hh : w0.heap.size = h) (hn : n ≤ 1000000000) (hb : base ≤ w0.heap.size)
    (hK : ∀ A' d w', OwnW 1 w' base e A' (n + 1) d (strV (l ++ [b])) → Below base w0 w' → wpList P ops Q rest (a.put o.dst (.slice A' (n + 1) d)) w') :
    wpList P ops Q (o :: rest) a (w0.alloc (.cells #[.string b] e)) := by
  subst hh
  obtain ⟨i, h2, h3, h4, h5⟩ := S.hi
  have hcell : (w0.alloc (.cells #[.string b] e)).cell? ⟨w0.heap.size, 0, none⟩ = some (.string b) := cell_one_new w0 _ _ 0 _ rfl
  have hO : OwnW 1 (w0.alloc (.cells #[.string b] e)) base e A n c (strV l) := hown.ext ((Ext.refl w0).alloc _)
  refine wpList_append_own (P := P) _ hg s x t ho base e i (.string ⟨#[]⟩) 1 16 S.ht h2 h3 h4 h5 rfl (by omega) (.slice A n c) n (strV l) hs hO ⟨w0.heap.size, 0, none⟩ 1 c' [.string b] hx (by simp) ?_ (by simp [Value.oneCell']) (by unfold maxLen; omega) (by omega) (by simp; omega) ?_
  · intro j u hu
    match j with
    | 0 => simp only [List.getElem?_cons_zero, Option.some.injEq] at hu; subst hu; exact hcell
    | j + 1 => simp at hu
  · intro v' w' h6 h7 h8
    rw [strV_app] at h6
    have hbl : Below base w0 w' := Below.trans ((Below.refl base w0).alloc hb _) ((Below.refl base _).grown h7 (by simp; omega) fun k hk => (World.ownsRow.lt hO k hk).1)
    rcases h6.2 with ⟨_, h0⟩ | ⟨g, cap, cur, rfl, rest⟩
    · omega
    · exact hK _ _ w' h6 hbl

/-- The string of one byte. -/
def chrS (b : UInt8) : ByteArray := ⟨#[b]⟩
theorem run_chr {b : UInt8} (w0 : World) {y : Int} (hy : y = (b.toNat : Int)) {h c : Nat} (hh : w0.heap.size = h) :
    (convert 22 9 (.slice (some ⟨h, 0, none⟩) 1 c)).run Tryz.prog (w0.alloc (.cells #[.int .u8 y] 5)) = .ok (.string (chrS b)) (w0.alloc (.cells #[.int .u8 y] 5)) := by
  subst hh hy
  have h := run_convert_bytes_back (P := Tryz.prog) (w0.alloc (.cells #[.int .u8 (b.toNat : Int)] 5)) 22 9 5 ⟨w0.heap.size, 0, none⟩ c [b] Tryz.underlying22 Tryz.underlying5 Tryz.underlying9 (fun i hi => by
    obtain rfl : i = 0 := by simpa using hi
    exact cell_one_new w0 _ _ 0 _ rfl)
  exact h

/-- The byte of a small number. -/
def byI (y : Int) : UInt8 := UInt8.ofNat y.toNat
theorem byI_eq {y : Int} (h0 : 0 ≤ y) (h1 : y < 256) : y = ((byI y).toNat : Int) := by
  unfold byI
  rw [UInt8.toNat_ofNat']
  omega
/-- The bytes of a vote's text. -/
def vtJ (a : Int) : List Int → List UInt8
  | [] => []
  | [k] => if a = 4 then [byI (97 + k - 1)] else [byI (48 + k)]
  | k :: l => if a = 4 then byI (97 + k - 1) :: vtJ a l else byI (48 + k) :: 44 :: vtJ a l
theorem vtJ_app (a : Int) (k : Int) : ∀ l : List Int, vtJ a (l ++ [k]) = vtJ a l ++ (if a = 4 then [byI (97 + k - 1)] else if l = [] then [byI (48 + k)] else [44, byI (48 + k)])
  | [] => by simp [vtJ]
  | [x] => by
    by_cases h : a = 4
    · simp [vtJ, h]
    · simp [vtJ, h]
  | x :: y :: l => by
    have ih := vtJ_app a k (y :: l)
    by_cases h : a = 4
    · simp [vtJ, h] at ih ⊢; exact ih
    · simp [vtJ, h] at ih ⊢; exact ih
def vtT (a : Int) (l : List Int) : ByteArray := if l = [] then ⟨#[45]⟩ else ⟨(vtJ a l).toArray⟩
end
end Go.Proofs.YtnekpofaflpmdaaGreatDoor

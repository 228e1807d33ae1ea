/- Contracts: the text of a digest, and back. -/
import Derived.Test.YthamimjejlicpaaProg
import Derived.Test.YthamimjejlicpaaLab
import Derived.Test.YthamimjejlicpaaDl
import Derived.Lib.Bytealg
import Derived.Lib.Strings
import Derived.Lib.Walk
import Derived.Laws.IdiomStrings
namespace Go.Proofs.Ythamimjejlicpaa
open Go.RowKit

/-- t is the type of slices of bytes, e that of bytes. -/
structure ByteSl (P : Program) (t e : TypeId) : Prop where
  ht : P.underlying t = some (.slice e)
  hi : ∃ i, P.info? e = some i ∧ i.zero = some (.int .u8 0) ∧ i.size = 1 ∧ i.bytes = 1
def bytesU (l : List UInt8) : List Value := l.map fun b => .int .u8 (b.toNat : Int)
set_option maxRecDepth 100000 in
theorem byteSl : ByteSl Try.prog 22 5 := ⟨Try.underlying22, by
  refine ⟨_, rfl, ?_, ?_, ?_⟩ <;> rfl⟩
theorem bytesU_app (l : List UInt8) (b : UInt8) : bytesU l ++ [.int .u8 (b.toNat : Int)] = bytesU (l ++ [b]) := by simp [bytesU]
/-- 'append(s, b)' of one byte that has just been laid into a new cell. -/
theorem wpList_appB {P : Program} {w0 : World} {ops : Array Oper} {rest : List Oper} {o : Oper} {a : Act} {Q : Exit → Act → World → Prop} {t e : TypeId} (S : ByteSl P t e) {b : UInt8} {y : Int} (hy : y = (b.toNat : Int))
    (hg : o.guard = none) (s x : Operand) (ho : o.op = .call { callee := .builtin .append, args := #[s, x], argTypes := #[t, t] })
    {base : Nat} {A : Option Addr} {n c c' : Nat} {l : List UInt8} (hown : OwnW 1 w0 base e A n c (bytesU l)) (hs : a.eval s = .slice A n c)
    {h : Nat} (hx : a.eval x = .slice (some ⟨h, 0, none⟩) 1 c') (hh : w0.heap.size = h) (hn : n ≤ 1000000000) (hb : base ≤ w0.heap.size)
    (hK : ∀ A' d w', OwnW 1 w' base e A' (n + 1) d (bytesU (l ++ [b])) → Below base w0 w' → wpList P ops Q rest (a.put o.dst (.slice A' (n + 1) d)) w') :
    wpList P ops Q (o :: rest) a (w0.alloc (.cells #[.int .u8 y] e)) := by
  subst hh hy
  obtain ⟨i, h2, h3, h4, h5⟩ := S.hi
  have hcell : (w0.alloc (.cells #[.int .u8 (b.toNat : Int)] e)).cell? ⟨w0.heap.size, 0, none⟩ = some (.int .u8 (b.toNat : Int)) := cell_one_new w0 _ _ 0 _ rfl
  have hO : OwnW 1 (w0.alloc (.cells #[.int .u8 (b.toNat : Int)] e)) base e A n c (bytesU l) := hown.ext ((Ext.refl w0).alloc _)
  refine wpList_append_own (P := P) _ hg s x t ho base e i (.int .u8 0) 1 1 S.ht h2 h3 h4 h5 rfl (by omega) (.slice A n c) n (bytesU l) hs hO ⟨w0.heap.size, 0, none⟩ 1 c' [.int .u8 (b.toNat : Int)] hx (by simp) ?_ (by simp [Value.oneCell']) (by unfold maxLen; omega) (by omega) (by simp; omega) ?_
  · intro j u hu
    match j with
    | 0 => simp only [List.getElem?_cons_zero, Option.some.injEq] at hu; subst hu; exact hcell
    | j + 1 => simp at hu
  · intro v' w' h6 h7 h8
    rw [bytesU_app] at h6
    have hbl : Below base w0 w' := Below.trans ((Below.refl base w0).alloc hb _) ((Below.refl base _).grown h7 (by simp; omega) fun k hk => (World.ownsRow.lt hO k hk).1)
    rcases h6.2 with ⟨_, h0⟩ | ⟨g, cap, cur, rfl, rest⟩
    · omega
    · exact hK _ _ w' h6 hbl

def hexS : ByteArray := ⟨#[48, 49, 50, 51, 52, 53, 54, 55, 56, 57, 97, 98, 99, 100, 101, 102]⟩
def hexB (v : Nat) : UInt8 := hexS.data.getD v 0
/-- The first j digits of a digest. -/
def hexL (d j : Nat) : List UInt8 := (List.range j).map fun i => hexB (d / 16 ^ (15 - i) % 16)
theorem hexL_length (d j : Nat) : (hexL d j).length = j := by simp [hexL]
theorem hexL_succ (d j : Nat) : hexL d (j + 1) = hexL d j ++ [hexB (d / 16 ^ (15 - j) % 16)] := by simp [hexL, List.range_succ]
def hexT (d : Nat) : ByteArray := ⟨(hexL d 16).toArray⟩
theorem hexT_size (d : Nat) : (hexT d).size = 16 := by show (hexL d 16).toArray.size = 16; simp [hexL]
theorem hexT_get {d j : Nat} (h : j < (hexT d).size) : (hexT d)[j] = hexB (d / 16 ^ (15 - j) % 16) := by
  show (hexL d 16).toArray[j]'h = _
  simp [hexL]
theorem hexB_get {v : Nat} (h : v < hexS.size) : hexS[v] = hexB v := by
  show hexS.data[v]'h = _
  have h2 : v < hexS.data.size := h
  unfold hexB
  rw [Array.getD_eq_getD_getElem?, Array.getElem?_eq_getElem h2]; rfl
theorem hexB_ix : ∀ v < 16, Lib.indexByte hexS.data.toList (hexB v) = (v : Int) := by decide
theorem bit_15 (k : Nat) (hk : (k : Int) ≤ 9000000000000000000) : bits .and .i64 (k : Int) 15 = ((k % 16 : Nat) : Int) := by
  have h1 : (15 : Int) = ((15 : Nat) : Int) := rfl
  rw [h1]
  show IntKind.i64.wrap ((BitVec.ofInt 64 (k : Int) &&& BitVec.ofInt 64 ((15 : Nat) : Int)).toNat : Int) = _
  rw [BitVec.toNat_and, toNat_i64 k (by omega), toNat_i64 15 (by omega), IntKind.wrap_i64, show (15 : Nat) = 2 ^ 4 - 1 from rfl, Nat.and_two_pow_sub_one_eq_mod, show (2 : Nat) ^ 4 = 16 from rfl]
  omega
theorem bit_or (k v : Nat) (hk : (k : Int) ≤ 500000000000000000) (hv : v < 16) : bits .or .u64 ((k : Int) * 16) (v : Int) = (k : Int) * 16 + v := by
  have h1 : (k : Int) * 16 = ((k * 16 : Nat) : Int) := by omega
  rw [h1]
  show IntKind.u64.wrap ((BitVec.ofInt 64 ((k * 16 : Nat) : Int) ||| BitVec.ofInt 64 (v : Int)).toNat : Int) = _
  rw [BitVec.toNat_or, toNat_i64 _ (by omega), toNat_i64 v (by omega), show k * 16 = 2 ^ 4 * k by omega, ← Nat.two_pow_add_eq_or_of_lt (by omega), IntKind.wrap_u64]
  omega
/-- The number that the first j digits tell. -/
def hexP (d j : Nat) : Nat := d / 16 ^ (16 - j)
theorem hexP_succ {d j : Nat} (h : j < 16) : hexP d (j + 1) = hexP d j * 16 + d / 16 ^ (15 - j) % 16 := by
  unfold hexP
  rw [show 16 - (j + 1) = 15 - j by omega, show 16 - j = (15 - j) + 1 by omega, Nat.pow_succ, ← Nat.div_div_eq_div_mul]
  omega
theorem hexP_le (d j : Nat) : hexP d j ≤ d := Nat.div_le_self _ _
theorem hexP_low {d j : Nat} (hj : j < 16) (hd : d ≤ 4611686018427387903) : hexP d j ≤ 288230376151711743 := by
  unfold hexP
  rw [show 16 - j = (15 - j) + 1 by omega, Nat.pow_succ, Nat.mul_comm, ← Nat.div_div_eq_div_mul]
  exact Nat.le_trans (Nat.div_le_self _ _) (by omega)

set_option maxHeartbeats 1000000 in
set_option maxRecDepth 100000 in
theorem slIndexByte (s : ByteArray) (c : Int) (w : World) :
    Calls Try.prog 137 #[.string s, .int .u8 c] w fun e w' => e = .returned (.int .i64 (Lib.indexByte s.data.toList c.toNat.toUInt8)) ∧ w' = w := by
  go_enter Try.func137, Try.ntmps137
  go_wp2
  rw [run_callFunc_extern Try.func171 (by kernel_rfl) (by kernel_rfl) (by kernel_rfl) (e := Extern.BytealgIndexByte.indexByte) (by kernel_rfl), Lib.run_indexByteString]
  simp only [Result.andThen]
  rw [Oper.upon_value]
  go_wp2
  go_ret
  exact ⟨rfl, rfl⟩
theorem stIndexByte (s : ByteArray) (c : Int) (w : World) :
    Calls Try.prog 76 #[.string s, .int .u8 c] w fun e w' => e = .returned (.int .i64 (Lib.indexByte s.data.toList c.toNat.toUInt8)) ∧ w' = w := by
  go_enter Try.func76, Try.ntmps76
  go_wp2_with fail
  refine (slIndexByte s c _).mono ?_
  rintro e w1 ⟨rfl, rfl⟩
  go_wp2
  go_ret
  exact ⟨rfl, rfl⟩
set_option maxHeartbeats 1000000 in
theorem isDigest_D (x : Int) (w : World) : Calls Try.prog 67 #[.int .i64 x] w fun e w' => e = .returned (.bool (inR x 0 4611686018427387903)) ∧ w = w' := by
  go_enter Try.func67, Try.ntmps67
  go_wp2_with fail
  refine (within_any _ _ _ _).mono ?_
  rintro e w1 ⟨rfl, rfl⟩
  go_wp2
  go_ret
  exact ⟨rfl, rfl⟩
set_option maxRecDepth 100000 in
set_option maxHeartbeats 4000000 in
theorem DigestText_yes (d : Nat) (w : World) (hd : d ≤ 4611686018427387903) :
    Calls Try.prog 25 #[.int .i64 d] w fun e w' => e = .returned (.tuple #[.string (hexT d), .bool true]) ∧ Ext w w' := by
  have hR : inR (d : Int) 0 4611686018427387903 = true := inR_iff.2 ⟨by omega, by omega⟩
  have HR := Lib.hid hR
  clear hR
  have hX0 : OwnW 1 (w.alloc (.cells #[] 5)) w.heap.size 5 (some ⟨w.heap.size, 0, none⟩) 0 0 (bytesU []) := World.ownsRow_lit (base := w.heap.size) (e := 5) (size := 1) w #[] 0 (Nat.le_refl _) (by unfold maxLen; omega) rfl
  have E0 := (Ext.refl w).alloc (.cells #[] 5)
  go_enter Try.func25, Try.ntmps25
  go_wp2_with fail
  refine (isDigest_D _ _).mono ?_
  rintro e w1 ⟨he, rfl⟩
  rw [HR.out] at he; subst he
  go_wp2
  go_loopw [4, 5] (fun u k wr => ∃ (j : Nat) (X : Option Addr) (a : Nat), j ≤ 16 ∧ k = .int .i64 (15 - (j : Int)) ∧ u = .slice X j a ∧ OwnW 1 wr w.heap.size 5 X j a (bytesU (hexL d j)) ∧ Ext w wr) (fun _ k _ => (intOf k + 1).toNat)
  case atStart => exact ⟨0, _, _, by omega, rfl, rfl, hX0, E0⟩
  case round =>
    obtain ⟨j, X, a, hj, rfl, rfl, hX, E⟩ := hrel
    by_cases hlt : j < 16
    · have hsz := E.size
      obtain ⟨v, hv, hv16⟩ : ∃ v : Nat, d / 16 ^ (15 - j) % 16 = v ∧ v < 16 := ⟨_, rfl, Nat.mod_lt _ (by omega)⟩
      have hand : bits .and .i64 ((d : Int) / 2 ^ (4 * (15 - j))) 15 = (v : Int) := by
        have e : ((d : Int) / 2 ^ (4 * (15 - j))) = ((d / 16 ^ (15 - j) : Nat) : Int) := by
          rw [show (16 : Nat) = 2 ^ 4 from rfl, ← Nat.pow_mul]; simp
        rw [e, bit_15 _ (by have := Nat.div_le_self d (16 ^ (15 - j)); omega), hv]
      have HSU : Hid (hexL d (j + 1) = hexL d j ++ [hexB v]) := by show _ = _; rw [hexL_succ, hv]
      have hby : (({ data := #[48, 49, 50, 51, 52, 53, 54, 55, 56, 57, 97, 98, 99, 100, 101, 102] } : ByteArray)[v]'hv16).toNat = ((hexB v).toNat : Nat) := by
        exact congrArg UInt8.toNat (hexB_get (v := v) hv16)
      have HBY := Lib.hid hby
      clear hv hby
      go_wp2_with (at_builtin; refine wpList_appB (b := hexB v) byteSl (by exact congrArg Nat.cast HBY.out) rfl _ _ rfl hX rfl rfl rfl (by omega) hsz ?_; intro A2 d2 w2 hO2 hb2)
      go_roundw
      case rel => exact ⟨j + 1, A2, d2, by omega, by go_num, rfl, by rw [HSU.out]; exact hO2, E.then hb2 (Nat.le_refl _)⟩
      case measure => simp [intOf]; omega
    · obtain rfl : j = 16 := by omega
      obtain ⟨g, rfl, hg⟩ := hX.addr (by omega)
      have hcv : (convert 22 9 (.slice (some ⟨g, 0, none⟩) 16 a)).run Try.prog wr = .ok (.string (hexT d)) wr := by
        have h := run_convert_bytes_back (P := Try.prog) wr 22 9 5 ⟨g, 0, none⟩ a (hexL d 16) Try.underlying22 Try.underlying5 Try.underlying9 (fun i hi => by
          have h1 := (hX.at0 i (by simpa [bytesU] using hi)).1
          have e : (⟨g, 0, none⟩ : Addr).add i = ⟨g, i, none⟩ := by
            unfold Addr.add
            split <;> simp_all
          rw [e, h1]; simp [bytesU])
        rw [hexL_length] at h
        exact h
      have HCV := Lib.hid hcv
      clear hcv
      go_wp2
      rw [HCV.out]
      simp only [Result.andThen]
      rw [Oper.upon_value]
      go_wp2
      go_ret2
      exact ⟨rfl, E⟩
set_option maxRecDepth 100000 in
set_option maxHeartbeats 4000000 in
theorem ParseDigest_yes (d : Nat) (w : World) (hd : d ≤ 4611686018427387903) :
    Calls Try.prog 26 #[.string (hexT d)] w fun e w' => e = .returned (.tuple #[.int .i64 d, .bool true]) ∧ w = w' := by
  have HZ := Lib.hid (hexT_size d)
  have HAT : Hid (∀ j, (h : j < (hexT d).size) → (hexT d)[j] = hexB (d / 16 ^ (15 - j) % 16)) := fun j h => hexT_get h
  obtain ⟨s, hs⟩ : ∃ s, hexT d = s := ⟨_, rfl⟩
  rw [hs] at HZ HAT ⊢
  clear hs
  have hz := HZ.out
  go_enter Try.func26, Try.ntmps26
  go_wp2
  go_loop [4, 5, 6, 12] (fun u x y k => ∃ j : Nat, j ≤ 16 ∧ k = .int .i64 j ∧ u = .int .u64 (hexP d j)) (fun _ _ _ k => 16 - (intOf k).toNat)
  case atStart => exact ⟨0, by omega, rfl, by simp [hexP]; omega⟩
  case round =>
    obtain ⟨j, hj, rfl, rfl⟩ := hrel
    by_cases hlt : j < 16
    · have hjs : j < s.size := by omega
      obtain ⟨v, hv, hv16⟩ : ∃ v : Nat, d / 16 ^ (15 - j) % 16 = v ∧ v < 16 := ⟨_, rfl, Nat.mod_lt _ (by omega)⟩
      have hb : s[j] = hexB v := by rw [HAT.out j hjs, hv]
      have hsu := hexP_succ (d := d) hlt
      rw [hv] at hsu
      have HSU := Lib.hid hsu
      have hlo := hexP_low hlt hd
      generalize hexP d j = P0 at *
      have hor := bit_or P0 v (by omega) hv16
      have hix : Lib.indexByte hexS.data.toList (((hexB v).toNat : Int)).toNat.toUInt8 = (v : Int) := by
        have e : (((hexB v).toNat : Int)).toNat.toUInt8 = hexB v := by simp
        rw [e]; exact hexB_ix v hv16
      have HIX := Lib.hid hix
      clear hix hv hsu
      go_wp2_with fail
      refine (stIndexByte hexS _ _).mono ?_
      rintro e w2 ⟨he, rfl⟩
      rw [HIX.out] at he; subst he
      go_wp2
      go_round
      case rel => exact ⟨j + 1, by omega, by go_num, by rw [HSU.out]; first | rfl | (simp; done) | go_num⟩
      case measure => simp [intOf]; omega
    · obtain rfl : j = 16 := by omega
      have hP : hexP d 16 = d := by simp [hexP]
      rw [hP]
      go_wp2
      go_ret2
      exact ⟨rfl, rfl⟩
end Go.Proofs.Ythamimjejlicpaa

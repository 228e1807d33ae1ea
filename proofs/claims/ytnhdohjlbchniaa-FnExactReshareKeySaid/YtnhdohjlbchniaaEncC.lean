/- Contracts for ciphertexts: encryption, products, decryption. (Printed by tools/gen_encc.py.) -/
import Derived.Test.YtnhdohjlbchniaaProg
import Derived.Test.YtnhdohjlbchniaaGrpO
import Derived.Test.YtnhdohjlbchniaaEncP
import Derived.Test.YtnhdohjlbchniaaFunC
namespace Go.Proofs.Ytnhdohjlbchniaa
open Go.RowKit

theorem gpw_rg (p q x e : Int) (h : GrpB p q) : 0 ≤ gpw p q x e ∧ gpw p q x e ≤ 2000000000 := by
  obtain ⟨p1, p2, q1, q2⟩ := h
  unfold gpw powM
  have := Nat.mod_lt (x.toNat ^ (e % q).toNat) (show 0 < p.toNat by omega)
  omega
theorem gmul_rg {p q : Int} (h : GrpB p q) {l : List Int} (hr : ∀ x ∈ l, 0 ≤ x) : 0 ≤ gmul p l ∧ gmul p l ≤ 2000000000 := by
  obtain ⟨p1, p2, q1, q2⟩ := h
  unfold gmul
  suffices H : ∀ (l : List Int) (o : Int), (∀ x ∈ l, 0 ≤ x) → 0 ≤ o ∧ o ≤ 2000000000 → 0 ≤ l.foldl (fun o x => o * x % p) o ∧ l.foldl (fun o x => o * x % p) o ≤ 2000000000 from H l 1 hr (by omega)
  intro l
  induction l with
  | nil => intro o _ h; exact h
  | cons x l ih =>
    intro o hx _
    have hb := emod_bd (x := o * x) p1
    exact ih _ (fun y hy => hx y (by simp [hy])) ⟨hb.1, by have := hb.2; show o * x % p ≤ 2000000000; omega⟩
theorem gmul2_rg {p q x y : Int} (h : GrpB p q) (hx : 0 ≤ x) (hy : 0 ≤ y) : 0 ≤ gmul p [x, y] ∧ gmul p [x, y] ≤ 2000000000 := gmul_rg h (by
  intro z hz
  simp only [List.mem_cons, List.not_mem_nil, or_false] at hz
  rcases hz with rfl | rfl <;> assumption)
theorem two_rg {x y : Int} (hx : 0 ≤ x ∧ x ≤ 3000000000) (hy : 0 ≤ y ∧ y ≤ 3000000000) : ∀ z ∈ [x, y], 0 ≤ z ∧ z ≤ 3000000000 := by
  intro z hz
  simp only [List.mem_cons, List.not_mem_nil, or_false] at hz
  rcases hz with rfl | rfl <;> omega
/-- A slice of two ints that has just been laid. -/
theorem rd_two {w : World} {x y : Int} {k : Nat} (hk : k = w.heap.size) : RdI (w.alloc (.cells #[.int .i64 x, .int .i64 y] 3)) (some ⟨k, 0, none⟩) [x, y] :=
  (ownI_lit (w := w) (base := w.heap.size) [x, y] rfl hk (Nat.le_refl _) (by unfold maxLen; simp)).rd
theorem rd_one {w : World} {x : Int} {k : Nat} (hk : k = w.heap.size) : RdI (w.alloc (.cells #[.int .i64 x] 3)) (some ⟨k, 0, none⟩) [x] :=
  (ownI_lit (w := w) (base := w.heap.size) [x] rfl hk (Nat.le_refl _) (by unfold maxLen; simp)).rd
/-- At the return: a pair of ints that lies in a cell. -/
theorem ret_ci {fn : Func} {w : World} {g : Nat} {t : Tmp} {a b : Int} {tm : Array Value} {Q : Ending → World → Prop}
    (B : Blk w g 91 #[.int .i64 a, .int .i64 b])
    (h : fn.results = #[.cell t 91]) (ht : tm.getD t undef = .pointer (some ⟨g, 0, none⟩)) (hQ : Q (.returned (.agg #[.int .i64 a, .int .i64 b])) w) :
    bodyPost Try.prog fn Q .ret { tmps := tm, defers := [] } w := by
  have C := B.cells
  refine bodyPost_ret (v := .agg #[.int .i64 a, .int .i64 b]) ?_ rfl hQ
  have ht' : (tm[t]?).getD undef = .pointer (some ⟨g, 0, none⟩) := by simpa using ht
  simp [results, h, ht', go_sem, C]
theorem ret_ciB {fn : Func} {w : World} {g : Nat} {t u : Tmp} {a b : Int} {k : Bool} {tm : Array Value} {Q : Ending → World → Prop}
    (B : Blk w g 91 #[.int .i64 a, .int .i64 b])
    (h : fn.results = #[.cell t 91, .tmp u]) (ht : tm.getD t undef = .pointer (some ⟨g, 0, none⟩)) (hu : tm.getD u undef = .bool k) (hQ : Q (.returned (.tuple #[.agg #[.int .i64 a, .int .i64 b], .bool k])) w) :
    bodyPost Try.prog fn Q .ret { tmps := tm, defers := [] } w := by
  have C := B.cells
  refine bodyPost_ret (v := .tuple #[.agg #[.int .i64 a, .int .i64 b], .bool k]) ?_ rfl hQ
  have ht' : (tm[t]?).getD undef = .pointer (some ⟨g, 0, none⟩) := by simpa using ht
  have hu' : (tm[u]?).getD undef = .bool k := by simpa using hu
  simp [results, h, ht', hu', go_sem, C]
theorem below_two {g : Nat} (u : World) (a b : Value) : Below g u ((u.setCell ⟨g, 0, none⟩ a).setCell ⟨g, 1, none⟩ b) :=
  ((Below.refl g u).setCell (p := ⟨g, 0, none⟩) (Nat.le_refl _) a).setCell (p := ⟨g, 1, none⟩) (Nat.le_refl _) b







set_option maxRecDepth 100000 in
set_option maxHeartbeats 4000000 in
theorem hasCipher_any (p q g a b : Int) (w : World) (hG : GrpB p q) :
    Calls Try.prog 133 #[.agg #[.int .i64 p, .int .i64 q, .int .i64 g], .agg #[.int .i64 a, .int .i64 b]] w fun e w' => e = .returned (.bool (elB p q a && elB p q b)) ∧ Ext w w' := by
  obtain ⟨kk, hkk⟩ : ∃ kq : Bool, (elB p q a && elB p q b) = kq := ⟨_, rfl⟩
  rw [hkk]
  have B0 := (Blk.new w 31 #[.int .i64 p, .int .i64 q, .int .i64 g]).alloc (.cells #[.int .i64 a, .int .i64 b] 91)
  have B1 := Blk.new (w.alloc (.cells #[.int .i64 p, .int .i64 q, .int .i64 g] 31)) 91 #[.int .i64 a, .int .i64 b]
  have E := (((Ext.refl w).alloc (.cells #[.int .i64 p, .int .i64 q, .int .i64 g] 31)).alloc (.cells #[.int .i64 a, .int .i64 b] 91))
  simp only [World.size_alloc] at B1
  cases h1 : (elB p q a)
  · have hk : kk = false := by rw [← hkk]; simp [h1]; try (intros; simp_all)
    rw [hk]
    have H1 := Lib.hid h1
    clear hk hkk h1
    go_enter Try.func133, Try.ntmps133
    have C_B0 := B0.cells
    have C_B1 := B1.cells
    go_wp2_with fail
    refine (has_any p q g a _ hG).mono ?_
    rintro e w1 ⟨he, hb⟩
    rw [H1.out] at he; subst he
    clear C_B0 C_B1
    replace E := E.trans hb
    replace B0 := B0.ext hb
    replace B1 := B1.ext hb
    clear hb
    have C_B0 := B0.cells
    have C_B1 := B1.cells
    go_wp2
    go_ret
    exact ⟨rfl, E⟩
  cases h2 : (elB p q b)
  · have hk : kk = false := by rw [← hkk]; simp [h1, h2]; try (intros; simp_all)
    rw [hk]
    have H1 := Lib.hid h1
    have H2 := Lib.hid h2
    clear hk hkk h1 h2
    go_enter Try.func133, Try.ntmps133
    have C_B0 := B0.cells
    have C_B1 := B1.cells
    go_wp2_with fail
    refine (has_any p q g a _ hG).mono ?_
    rintro e w1 ⟨he, hb⟩
    rw [H1.out] at he; subst he
    clear C_B0 C_B1
    replace E := E.trans hb
    replace B0 := B0.ext hb
    replace B1 := B1.ext hb
    clear hb
    have C_B0 := B0.cells
    have C_B1 := B1.cells
    go_wp2_with fail
    refine (has_any p q g b _ hG).mono ?_
    rintro e w2 ⟨he, hb⟩
    rw [H2.out] at he; subst he
    clear C_B0 C_B1
    replace E := E.trans hb
    replace B0 := B0.ext hb
    replace B1 := B1.ext hb
    clear hb
    have C_B0 := B0.cells
    have C_B1 := B1.cells
    go_wp2
    go_ret
    exact ⟨rfl, E⟩
  have hk : kk = true := by rw [← hkk]; simp_all
  rw [hk]
  have H1 := Lib.hid h1
  have H2 := Lib.hid h2
  clear hk hkk h1 h2
  go_enter Try.func133, Try.ntmps133
  have C_B0 := B0.cells
  have C_B1 := B1.cells
  go_wp2_with fail
  refine (has_any p q g a _ hG).mono ?_
  rintro e w1 ⟨he, hb⟩
  rw [H1.out] at he; subst he
  clear C_B0 C_B1
  replace E := E.trans hb
  replace B0 := B0.ext hb
  replace B1 := B1.ext hb
  clear hb
  have C_B0 := B0.cells
  have C_B1 := B1.cells
  go_wp2_with fail
  refine (has_any p q g b _ hG).mono ?_
  rintro e w2 ⟨he, hb⟩
  rw [H2.out] at he; subst he
  clear C_B0 C_B1
  replace E := E.trans hb
  replace B0 := B0.ext hb
  replace B1 := B1.ext hb
  clear hb
  have C_B0 := B0.cells
  have C_B1 := B1.cells
  go_wp2
  go_ret
  exact ⟨rfl, E⟩

theorem keyB_and (a b : Bool) : (a && b) = (a && b) := rfl

set_option maxRecDepth 100000 in
set_option maxHeartbeats 4000000 in
theorem eKey_any (p q g k : Int) (w : World) :
    Calls Try.prog 91 #[.agg #[.int .i64 p, .int .i64 q, .int .i64 g], .int .i64 k] w fun e w' => e = .returned (.bool (grpB p q g && elB p q k)) ∧ Ext w w' := by
  obtain ⟨kk, hkk⟩ : ∃ kq : Bool, (grpB p q g && elB p q k) = kq := ⟨_, rfl⟩
  rw [hkk]
  have B0 := Blk.new w 31 #[.int .i64 p, .int .i64 q, .int .i64 g]
  have E := ((Ext.refl w).alloc (.cells #[.int .i64 p, .int .i64 q, .int .i64 g] 31))
  cases h1 : (grpB p q g)
  · have hk : kk = false := by rw [← hkk]; simp [h1]; try (intros; simp_all)
    rw [hk]
    have H1 := Lib.hid h1
    clear hk hkk h1
    go_enter Try.func91, Try.ntmps91
    have C_B0 := B0.cells
    go_wp2_with fail
    refine (l2Good_any p q g _).mono ?_
    rintro e w1 ⟨he, hb⟩
    rw [H1.out] at he; subst he
    clear C_B0
    replace E := E.trans hb
    replace B0 := B0.ext hb
    clear hb
    have C_B0 := B0.cells
    go_wp2
    go_ret
    exact ⟨rfl, E⟩
  have hG := (grpB_in h1).bd
  have hGI := grpB_in h1
  have hp9 := hGI.p9
  cases h2 : (elB p q k)
  · have hk : kk = false := by rw [← hkk]; simp [h1, h2]; try (intros; simp_all)
    rw [hk]
    have H1 := Lib.hid h1
    have H2 := Lib.hid h2
    clear hk hkk h1 h2
    go_enter Try.func91, Try.ntmps91
    have C_B0 := B0.cells
    go_wp2_with fail
    refine (l2Good_any p q g _).mono ?_
    rintro e w1 ⟨he, hb⟩
    rw [H1.out] at he; subst he
    clear C_B0
    replace E := E.trans hb
    replace B0 := B0.ext hb
    clear hb
    have C_B0 := B0.cells
    go_wp2_with fail
    replace E := E.alloc (.cells #[.int .i64 k] 3)
    replace B0 := B0.alloc (.cells #[.int .i64 k] 3)
    refine (gIs_any p q g _ 1 1 [k] _ hG (rd_one (by simp)) rfl (by decide)).mono ?_
    rintro e w2 ⟨he, hb⟩
    simp only [List.all_cons, List.all_nil, Bool.and_true] at he
    rw [H2.out] at he; subst he
    clear C_B0
    replace E := E.trans hb
    replace B0 := B0.ext hb
    clear hb
    have C_B0 := B0.cells
    go_wp2
    go_ret
    exact ⟨rfl, E⟩
  have hk : kk = true := by rw [← hkk]; simp_all
  rw [hk]
  have H1 := Lib.hid h1
  have H2 := Lib.hid h2
  clear hk hkk h1 h2
  go_enter Try.func91, Try.ntmps91
  have C_B0 := B0.cells
  go_wp2_with fail
  refine (l2Good_any p q g _).mono ?_
  rintro e w1 ⟨he, hb⟩
  rw [H1.out] at he; subst he
  clear C_B0
  replace E := E.trans hb
  replace B0 := B0.ext hb
  clear hb
  have C_B0 := B0.cells
  go_wp2_with fail
  replace E := E.alloc (.cells #[.int .i64 k] 3)
  replace B0 := B0.alloc (.cells #[.int .i64 k] 3)
  refine (gIs_any p q g _ 1 1 [k] _ hG (rd_one (by simp)) rfl (by decide)).mono ?_
  rintro e w2 ⟨he, hb⟩
  simp only [List.all_cons, List.all_nil, Bool.and_true] at he
  rw [H2.out] at he; subst he
  clear C_B0
  replace E := E.trans hb
  replace B0 := B0.ext hb
  clear hb
  have C_B0 := B0.cells
  go_wp2
  go_ret
  exact ⟨rfl, E⟩





end Go.Proofs.Ytnhdohjlbchniaa

/- Contracts for bases: the program's and the reference's. -/
import Derived.Test.YtnhdohjlbchniaaGreatProg
import Derived.Test.YtnhdohjlbchniaaGreatDer2
namespace Go.Proofs.YtnhdohjlbchniaaGreat
open Go.RowKit

/-- Whether n + 1 bases are there. -/
noncomputable def basK (p q g : Int) (n : Nat) : Bool := (derV p q g ⟨#[104]⟩ 0 != 0) && derA p q g ⟨#[104, 115]⟩ n
/-- Bases as an answer. -/
def BasPost (p q g : Int) (K : Bool) (n : Nat) (w : World) (e : Ending) (w' : World) : Prop :=
  ∃ (H : Int) (A : Option Addr) (m c : Nat), e = .returned (.tuple #[.agg #[.int .i64 H, .slice A m c], .bool K]) ∧
    (K = true → H = derV p q g ⟨#[104]⟩ 0 ∧ OwnI w' w.heap.size 3 A m c (derL p q g ⟨#[104, 115]⟩ n)) ∧ (K = false → H = 0 ∧ A = none ∧ m = 0 ∧ c = 0) ∧ Ext w w'
theorem ret_bas {fn : Func} {w : World} {g : Nat} {t u : Tmp} {h : Int} {A : Option Addr} {m c : Nat} {k : Bool} {tm : Array Value} {Q : Ending → World → Prop}
    (B : Blk w g 49 #[.int .i64 h, .slice A m c])
    (hr : fn.results = #[.cell t 49, .tmp u]) (ht : tm.getD t undef = .pointer (some ⟨g, 0, none⟩)) (hu : tm.getD u undef = .bool k) (hQ : Q (.returned (.tuple #[.agg #[.int .i64 h, .slice A m c], .bool k])) w) :
    bodyPost Tryz.prog fn Q .ret { tmps := tm, defers := [] } w := by
  have C := B.cells
  refine bodyPost_ret (v := .tuple #[.agg #[.int .i64 h, .slice A m c], .bool k]) ?_ rfl hQ
  have ht' : (tm[t]?).getD undef = .pointer (some ⟨g, 0, none⟩) := by simpa using ht
  have hu' : (tm[u]?).getD undef = .bool k := by simpa using hu
  simp [results, hr, ht', hu', go_sem, C]
set_option maxRecDepth 100000 in
set_option maxHeartbeats 4000000 in
theorem basesOf_any (p q g : Int) (n : Nat) (w : World) (h : grpB p q g = true) (hn : n ≤ 24) :
    Calls Tryz.prog 54 #[.agg #[.int .i64 p, .int .i64 q, .int .i64 g], .int .i64 n] w fun e w' => BasPost p q g (basK p q g n) n w e w' := by
  have H := Lib.hid h
  have E := ((Ext.refl w).alloc (.cells #[.int .i64 p, .int .i64 q, .int .i64 g] 33)).alloc (.cells #[.int .i64 0, .slice none 0 0] 49)
  have B := (Blk.new w 33 #[.int .i64 p, .int .i64 q, .int .i64 g]).alloc (.cells #[.int .i64 0, .slice none 0 0] 49)
  have BZ := Blk.new (w.alloc (.cells #[.int .i64 p, .int .i64 q, .int .i64 g] 33)) 49 #[.int .i64 0, .slice none 0 0]
  simp only [World.size_alloc] at BZ
  obtain ⟨V0, hV0⟩ : ∃ V0, derV p q g ⟨#[104]⟩ 0 = V0 := ⟨_, rfl⟩
  obtain ⟨one, hone⟩ : ∃ one, (V0 != 0) = one := ⟨_, rfl⟩
  have HK : Hid (basK p q g n = (one && derA p q g ⟨#[104, 115]⟩ n)) := by show _ = _; unfold basK; rw [hV0, hone]
  have HV0 := Lib.hid hV0
  have HONE := Lib.hid hone
  clear h hV0 hone
  go_enter Tryz.func54, Tryz.ntmps54
  have C := B.cells
  go_wp2_with fail
  refine (derive_any p q g ⟨#[104]⟩ 0 _ H.out (by decide) (by omega)).mono ?_
  rintro e w1 ⟨he, hb⟩
  rw [HV0.out, HONE.out] at he; subst he
  replace E := E.trans hb
  replace B := B.ext hb
  replace BZ := BZ.ext hb
  clear hb C
  have B8 := Blk.new w1 49 #[.int .i64 V0, .slice none 0 0]
  have hb := (Ext.refl w1).alloc (.cells #[.int .i64 V0, .slice none 0 0] 49)
  have hz1 := BZ.lt
  replace E := E.trans hb
  replace B := B.ext hb
  replace BZ := BZ.ext hb
  have hO0 : OwnI (w1.alloc (.cells #[.int .i64 V0, .slice none 0 0] 49)) (w1.heap.size + 1) 3 none 0 0 [] := OwnI.nil _ _ _
  go_wp2
  obtain ⟨g8, hg8⟩ : ∃ g8, w1.heap.size = g8 := ⟨_, rfl⟩
  rw [hg8] at hz1 B8 hO0
  simp only [hg8]
  clear hg8
  go_loopw [9, 21] (fun bt i wr => ∃ (j : Nat) (b : Bool) (A : Option Addr) (c : Nat), j ≤ n ∧ i = .int .i64 j ∧ bt = .bool b ∧ Hid (b = derA p q g ⟨#[104, 115]⟩ j) ∧ Blk wr g8 49 #[.int .i64 V0, .slice A j c] ∧ OwnI wr (g8 + 1) 3 A j c (derL p q g ⟨#[104, 115]⟩ j) ∧ Blk wr w.heap.size 33 #[.int .i64 p, .int .i64 q, .int .i64 g] ∧ Blk wr (w.heap.size + 1) 49 #[.int .i64 0, .slice none 0 0] ∧ Ext w wr) (fun _ i _ => n - (intOf i).toNat)
  case atStart => exact ⟨0, true, none, 0, Nat.zero_le _, rfl, rfl, rfl, B8, hO0, B, BZ, E⟩
  case round =>
    clear B8 hO0 B BZ E hb
    obtain ⟨j, b, A, c, hj, rfl, rfl, HB, B8, hO, B, BZ, E⟩ := hrel
    have C := B.cells
    by_cases hlt : j < n
    · obtain ⟨ok, hok⟩ : ∃ ok, (derV p q g ⟨#[104, 115]⟩ j != 0) = ok := ⟨_, rfl⟩
      obtain ⟨V, hV⟩ : ∃ V, derV p q g ⟨#[104, 115]⟩ j = V := ⟨_, rfl⟩
      have hnew : (b && ok) = derA p q g ⟨#[104, 115]⟩ (j + 1) := by rw [derA_succ, ← HB.out, hok]
      have hsu := derL_succ p q g ⟨#[104, 115]⟩ j
      rw [hV] at hsu hok
      have HOK := Lib.hid hok
      have HV := Lib.hid hV
      have HN := Lib.hid hnew
      have HSU := Lib.hid hsu
      clear hok hV hnew hsu
      go_wp2_with fail
      refine (derive_any p q g ⟨#[104, 115]⟩ j _ H.out (by decide) (by omega)).mono ?_
      rintro e w3 ⟨he, hb3⟩
      rw [HV.out, HOK.out] at he; subst he
      have B83 := B8.ext hb3
      have hO3 := hO.ext hb3
      have B3 := B.ext hb3
      have BZ3 := BZ.ext hb3
      have C83 := B83.cells
      have hsz3 : g8 + 1 ≤ w3.heap.size := B83.lt
      clear C
      cases b
      · go_wp2_with (at_builtin; refine wpList_app1 intSl rfl _ _ rfl hO3 rfl rfl (by omega) hsz3 ?_; intro A2 c2 w4 hO4 hb4; have B84 := B83.below hb4 (by omega); have C84 := B84.cells; have F84 := B84.frozen)
        rw [← HSU.out] at hO4
        have hlt4 := hO4.lt
        have hO5 := hO4.keep (w' := w4.setCell ⟨g8, 1, none⟩ (.slice A2 (j + 1) c2)) fun a ha => Below.heap_setCell _ _ _ _ (by have := (hlt4 a ha).1; simp only [ne_eq]; omega)
        go_roundw
        case rel => exact ⟨j + 1, false, A2, c2, by omega, by go_num, rfl, HN.out, B84.set_ 1 (.slice A2 (j + 1) c2), hO5, (B3.below hb4 (by omega)).far (p := ⟨g8, 1, none⟩) (by simp; omega) _, (BZ3.below hb4 (by omega)).far (p := ⟨g8, 1, none⟩) (by simp; omega) _, ((E.trans hb3).then hb4 (by omega)).setCell (by simp; omega) _⟩
        case measure => simp [intOf]; omega
      · cases ok
        · go_wp2_with (at_builtin; refine wpList_app1 intSl rfl _ _ rfl hO3 rfl rfl (by omega) hsz3 ?_; intro A2 c2 w4 hO4 hb4; have B84 := B83.below hb4 (by omega); have C84 := B84.cells; have F84 := B84.frozen)
          rw [← HSU.out] at hO4
          have hlt4 := hO4.lt
          have hO5 := hO4.keep (w' := w4.setCell ⟨g8, 1, none⟩ (.slice A2 (j + 1) c2)) fun a ha => Below.heap_setCell _ _ _ _ (by have := (hlt4 a ha).1; simp only [ne_eq]; omega)
          go_roundw
          case rel => exact ⟨j + 1, false, A2, c2, by omega, by go_num, rfl, HN.out, B84.set_ 1 (.slice A2 (j + 1) c2), hO5, (B3.below hb4 (by omega)).far (p := ⟨g8, 1, none⟩) (by simp; omega) _, (BZ3.below hb4 (by omega)).far (p := ⟨g8, 1, none⟩) (by simp; omega) _, ((E.trans hb3).then hb4 (by omega)).setCell (by simp; omega) _⟩
          case measure => simp [intOf]; omega
        · go_wp2_with (at_builtin; refine wpList_app1 intSl rfl _ _ rfl hO3 rfl rfl (by omega) hsz3 ?_; intro A2 c2 w4 hO4 hb4; have B84 := B83.below hb4 (by omega); have C84 := B84.cells; have F84 := B84.frozen)
          rw [← HSU.out] at hO4
          have hlt4 := hO4.lt
          have hO5 := hO4.keep (w' := w4.setCell ⟨g8, 1, none⟩ (.slice A2 (j + 1) c2)) fun a ha => Below.heap_setCell _ _ _ _ (by have := (hlt4 a ha).1; simp only [ne_eq]; omega)
          go_roundw
          case rel => exact ⟨j + 1, true, A2, c2, by omega, by go_num, rfl, HN.out, B84.set_ 1 (.slice A2 (j + 1) c2), hO5, (B3.below hb4 (by omega)).far (p := ⟨g8, 1, none⟩) (by simp; omega) _, (BZ3.below hb4 (by omega)).far (p := ⟨g8, 1, none⟩) (by simp; omega) _, ((E.trans hb3).then hb4 (by omega)).setCell (by simp; omega) _⟩
          case measure => simp [intOf]; omega
    · obtain rfl : j = n := by omega
      have hb := HB.out
      cases one
      · have hk : basK p q g j = false := by rw [HK.out, Bool.false_and]
        have HKK := Lib.hid hk
        have CZ := BZ.cells
        have FZ := BZ.frozen
        clear hk hb
        go_wp2
        refine ret_bas (h := 0) (A := none) (m := 0) (c := 0) (k := false) ((BZ.set_ 0 (.int .i64 0)).set_ 1 (.slice none 0 0)) rfl rfl rfl ?_
        exact ⟨0, none, 0, 0, by rw [HKK.out], fun h9 => (by rw [HKK.out] at h9; cases h9), fun _ => ⟨rfl, rfl, rfl, rfl⟩, (E.setCell (by simp) _).setCell (by simp) _⟩
      · cases b
        · have hk : basK p q g j = false := by rw [HK.out, ← hb]; rfl
          have HKK := Lib.hid hk
          have CZ := BZ.cells
          have FZ := BZ.frozen
          clear hk hb
          go_wp2
          refine ret_bas (h := 0) (A := none) (m := 0) (c := 0) (k := false) ((BZ.set_ 0 (.int .i64 0)).set_ 1 (.slice none 0 0)) rfl rfl rfl ?_
          exact ⟨0, none, 0, 0, by rw [HKK.out], fun h9 => (by rw [HKK.out] at h9; cases h9), fun _ => ⟨rfl, rfl, rfl, rfl⟩, (E.setCell (by simp) _).setCell (by simp) _⟩
        · have hk : basK p q g j = true := by rw [HK.out, ← hb]; rfl
          have HKK := Lib.hid hk
          have CZ := BZ.cells
          have FZ := BZ.frozen
          have C8 := B8.cells
          clear hk hb
          have hlt8 := hO.lt
          have hO5 := (hO.keep (w' := wr.setCell ⟨w.heap.size + 1, 0, none⟩ (.int .i64 V0)) fun a ha => Below.heap_setCell _ _ _ _ (by have := (hlt8 a ha).1; simp only [ne_eq]; omega)).keep (w' := (wr.setCell ⟨w.heap.size + 1, 0, none⟩ (.int .i64 V0)).setCell ⟨w.heap.size + 1, 1, none⟩ (.slice A j c)) fun a ha => Below.heap_setCell _ _ _ _ (by have := (hlt8 a ha).1; simp only [ne_eq]; omega)
          go_wp2
          refine ret_bas (h := V0) (A := A) (m := j) (c := c) (k := true) ((BZ.set_ 0 (.int .i64 V0)).set_ 1 (.slice A j c)) rfl rfl rfl ?_
          exact ⟨V0, A, j, c, by rw [HKK.out], fun _ => ⟨HV0.out.symm, hO5.more (by omega)⟩, fun h9 => (by rw [HKK.out] at h9; cases h9), (E.setCell (by simp) _).setCell (by simp) _⟩
end Go.Proofs.YtnhdohjlbchniaaGreat

/- Contracts for DecodeContest: the program's and the reference's. -/
import Derived.Test.YtnekpofaflpmdaaGreatDoorProg
import Derived.Test.YtnekpofaflpmdaaGreatDoorCon
import Derived.Test.YtnekpofaflpmdaaGreatDoorEq
import Derived.Deep.RegionHeld3
namespace Go.Proofs.YtnekpofaflpmdaaGreatDoor
open Go.RowKit

theorem five_cells {ad : Addr} {a b d e f : Int} {w : World} (ha : RdI w (some ad) [a, b, d, e, f]) :
    w.cell? ad = some (.int .i64 a) ∧ w.cell? ⟨ad.block, ad.off + 1, none⟩ = some (.int .i64 b) ∧ w.cell? ⟨ad.block, ad.off + 2, none⟩ = some (.int .i64 d) ∧ w.cell? ⟨ad.block, ad.off + 3, none⟩ = some (.int .i64 e) ∧ w.cell? ⟨ad.block, ad.off + 4, none⟩ = some (.int .i64 f) := by
  have h0 := (RdI.at_ (k := 0) ha (by simp))
  have h1 := (RdI.at_ (k := 1) ha (by simp))
  have h2 := (RdI.at_ (k := 2) ha (by simp))
  have h3 := (RdI.at_ (k := 3) ha (by simp))
  have h4 := (RdI.at_ (k := 4) ha (by simp))
  simp only [Option.some.injEq, exists_eq_left', List.getElem_cons_zero, List.getElem_cons_succ] at h0 h1 h2 h3 h4
  exact ⟨h0, h1, h2, h3, h4⟩

def decCt (l : List Int) : (Int × Int × Int × Int × Int) × Bool := match l with
  | [a, b, d, e, f] => if validCt a b d e f then ((a, b, d, e, f), true) else ((0, 0, 0, 0, 0), false)
  | _ => ((0, 0, 0, 0, 0), false)
def ctVal (x : Int × Int × Int × Int × Int) : Value := .agg #[.int .i64 x.1, .int .i64 x.2.1, .int .i64 x.2.2.1, .int .i64 x.2.2.2.1, .int .i64 x.2.2.2.2]

/-- At the return: a contest that lies in a cell, and a bool. -/
theorem ret_ct {fn : Func} {w0 w : World} {g : Nat} {t u : Tmp} {x : Int × Int × Int × Int × Int} {b : Bool} {tm : Array Value}
    (B : Blk w g 25 #[.int .i64 x.1, .int .i64 x.2.1, .int .i64 x.2.2.1, .int .i64 x.2.2.2.1, .int .i64 x.2.2.2.2]) (E : Ext w0 w)
    (h : fn.results = #[.cell t 25, .tmp u]) (ht : tm.getD t undef = .pointer (some ⟨g, 0, none⟩)) (hu : tm.getD u undef = .bool b) (_h : True = True) :
    bodyPost Tryz.prog fn (fun e' w' => e' = .returned (.tuple #[ctVal x, .bool b]) ∧ Ext w0 w') .ret { tmps := tm, defers := [] } w := by
  have C := B.cells
  refine bodyPost_ret (v := .tuple #[ctVal x, .bool b]) ?_ rfl ⟨rfl, E⟩
  have ht' : (tm[t]?).getD undef = .pointer (some ⟨g, 0, none⟩) := by simpa using ht
  have hu' : (tm[u]?).getD undef = .bool b := by simpa using hu
  simp [results, h, ht', hu', go_sem, C, ctVal]
set_option maxHeartbeats 1000000 in
theorem iDec_five (ad : Addr) (c : Nat) (a b d e f : Int) (w : World) (ha : RdI w (some ad) [a, b, d, e, f]) :
    Calls Tryz.prog 14 #[.slice (some ad) 5 c] w fun e' w' => e' = .returned (.tuple #[ctVal (decCt [a, b, d, e, f]).1, .bool (decCt [a, b, d, e, f]).2]) ∧ Ext w w' := by
  obtain ⟨h0, h1, h2, h3, h4⟩ := five_cells ha
  have e0 : w.heap.size ≠ ad.block := World.new_ne w ad h0
  cases hv : validCt a b d e f
  · have hr : decCt [a, b, d, e, f] = ((0, 0, 0, 0, 0), false) := by simp [decCt, hv]
    rw [hr]
    clear hr
    go_enter Tryz.func14, Tryz.ntmps14
    go_wp2_with fail
    go_region_held3 (fun w' => w'.cell? ad = some (.int .i64 a) ∧ w'.cell? ⟨ad.block, ad.off + 1, none⟩ = some (.int .i64 b) ∧ w'.cell? ⟨ad.block, ad.off + 2, none⟩ = some (.int .i64 d) ∧ w'.cell? ⟨ad.block, ad.off + 3, none⟩ = some (.int .i64 e) ∧ w'.cell? ⟨ad.block, ad.off + 4, none⟩ = some (.int .i64 f)) (go_keep)
      (first | fail)
    go_wp2_with fail
    refine (IsValidContest_any _ _ _ _ _ _).mono ?_
    rintro e' w1 ⟨rfl, hb⟩
    have E := ((((Ext.refl w).alloc _).alloc _).drew).trans hb
    have B := ((Blk.new w 25 #[.int .i64 0, .int .i64 0, .int .i64 0, .int .i64 0, .int .i64 0]).alloc _).drew.ext hb
    have C := B.cells
    have F := B.frozen
    go_wp2_with fail
    have B3 := (((((B.set_ 0 (.int .i64 0)).set_ 1 (.int .i64 0)).set_ 2 (.int .i64 0)).set_ 3 (.int .i64 0)).set_ 4 (.int .i64 0))
    have E3 := ((((E.setCell (p := ⟨w.heap.size, 0, none⟩) (Nat.le_refl _) (.int .i64 0)).setCell (p := ⟨w.heap.size, 1, none⟩) (Nat.le_refl _) (.int .i64 0)).setCell (p := ⟨w.heap.size, 2, none⟩) (Nat.le_refl _) (.int .i64 0)).setCell (p := ⟨w.heap.size, 3, none⟩) (Nat.le_refl _) (.int .i64 0)).setCell (p := ⟨w.heap.size, 4, none⟩) (Nat.le_refl _) (.int .i64 0)
    exact ret_ct B3 E3 rfl rfl rfl rfl
  · have hr : decCt [a, b, d, e, f] = ((a, b, d, e, f), true) := by simp [decCt, hv]
    rw [hr]
    clear hr
    go_enter Tryz.func14, Tryz.ntmps14
    go_wp2_with fail
    go_region_held3 (fun w' => w'.cell? ad = some (.int .i64 a) ∧ w'.cell? ⟨ad.block, ad.off + 1, none⟩ = some (.int .i64 b) ∧ w'.cell? ⟨ad.block, ad.off + 2, none⟩ = some (.int .i64 d) ∧ w'.cell? ⟨ad.block, ad.off + 3, none⟩ = some (.int .i64 e) ∧ w'.cell? ⟨ad.block, ad.off + 4, none⟩ = some (.int .i64 f)) (go_keep)
      (first | fail)
    go_wp2_with fail
    refine (IsValidContest_any _ _ _ _ _ _).mono ?_
    rintro e' w1 ⟨rfl, hb⟩
    have E := ((((Ext.refl w).alloc _).alloc _).drew).trans hb
    have B := ((Blk.new w 25 #[.int .i64 0, .int .i64 0, .int .i64 0, .int .i64 0, .int .i64 0]).alloc _).drew.ext hb
    have B2 := (Blk.new (w.alloc (.cells #[.int .i64 0, .int .i64 0, .int .i64 0, .int .i64 0, .int .i64 0] 25)) 25 #[.int .i64 a, .int .i64 b, .int .i64 d, .int .i64 e, .int .i64 f]).drew.ext hb
    simp only [World.size_alloc] at B2
    have C := B.cells
    have F := B.frozen
    have C2 := B2.cells
    go_wp2_with fail
    have B3 := (((((B.set_ 0 (.int .i64 a)).set_ 1 (.int .i64 b)).set_ 2 (.int .i64 d)).set_ 3 (.int .i64 e)).set_ 4 (.int .i64 f))
    have E3 := ((((E.setCell (p := ⟨w.heap.size, 0, none⟩) (Nat.le_refl _) (.int .i64 a)).setCell (p := ⟨w.heap.size, 1, none⟩) (Nat.le_refl _) (.int .i64 b)).setCell (p := ⟨w.heap.size, 2, none⟩) (Nat.le_refl _) (.int .i64 d)).setCell (p := ⟨w.heap.size, 3, none⟩) (Nat.le_refl _) (.int .i64 e)).setCell (p := ⟨w.heap.size, 4, none⟩) (Nat.le_refl _) (.int .i64 f)
    exact ret_ct B3 E3 rfl rfl rfl rfl

theorem decCt_other {l : List Int} (h : l.length ≠ 5) : decCt l = ((0, 0, 0, 0, 0), false) := by
  unfold decCt
  split
  · simp at h
  · rfl
theorem five_of {l : List Int} (h : l.length = 5) : ∃ a b d e f, l = [a, b, d, e, f] := by
  match l, h with
  | [a, b, d, e, f], _ => exact ⟨a, b, d, e, f, rfl⟩

set_option maxHeartbeats 400000 in
theorem iDecodeContest_any (A : Option Addr) (n c : Nat) (l : List Int) (w : World) (ha : RdI w A l) (hl : l.length = n) (_hn : n ≤ 1048576) (_hc : n ≤ c ∧ c ≤ maxLen) :
    Calls Tryz.prog 14 #[.slice A n c] w fun e' w' => e' = .returned (.tuple #[ctVal (decCt l).1, .bool (decCt l).2]) ∧ Ext w w' := by
  by_cases h5 : n = 5
  · subst h5
    obtain ⟨a, b, d, e, f, rfl⟩ := five_of hl
    obtain ⟨ad, rfl, _⟩ := RdI.at_ (k := 0) ha (by simp)
    exact iDec_five ad c a b d e f w ha
  · rw [decCt_other (by omega)]
    have hne : ((n : Int) != 5) = true := by rw [bne_iff_ne]; omega
    go_enter Tryz.func14, Tryz.ntmps14
    go_wp2_with fail
    refine bodyPost_ret (v := .tuple #[ctVal (0, 0, 0, 0, 0), .bool false]) (by simp [results, Tryz.results14, go_sem, ctVal]) rfl ⟨rfl, ?_⟩
    (repeat (first | exact Ext.refl _ | assumption | apply Ext.drew | apply Ext.drewN | apply Ext.alloc | refine Ext.setCell ?_ (by simp; try omega) _))

end Go.Proofs.YtnekpofaflpmdaaGreatDoor

/- Contract for slices.Sort of a list of ints of the call's own. -/
import Derived.Test.YtpdlcbgenimmcaaProg
import Derived.Test.YtpdlcbgenimmcaaOwn
import Derived.Shelf.Sort.Plain
import Derived.Shelf.Slices.In.SortNone
import Derived.Lib.OwnBridge
import Derived.Sort.OwnSortedInts
import Derived.ChangeAlike
namespace Go.Proofs.Ytpdlcbgenimmcaa
open Go.RowKit

def srtRen : Go.Shelf.Ren := ⟨fun | 125 => 171 | 128 => 247 | 129 => 248 | 189 => 87 | 215 => 277 | 216 => 244 | 257 => 170 | 294 => 238 | 295 => 239 | 296 => 240 | 297 => 241 | 298 => 242 | 299 => 243 | 300 => 245 | 301 => 246 | 328 => 272 | 329 => 273 | 330 => 274 | 331 => 275 | 332 => 276 | 343 => 283 | x => x, fun | 0 => 0 | 3 => 3 | 4 => 4 | 5 => 5 | 9 => 9 | 28 => 28 | 46 => 194 | 51 => 249 | 53 => 129 | 131 => 102 | 182 => 242 | 183 => 243 | 218 => 263 | 222 => 267 | 228 => 273 | 229 => 179 | x => x, fun x => x⟩
theorem srtLays : Go.Proofs.Lays.n189 Try.prog srtRen where
  mixed := by kernel_rfl
  f125 := by kernel_rfl
  f128 := by kernel_rfl
  f129 := by kernel_rfl
  f189 := by kernel_rfl
  f215 := by kernel_rfl
  f216 := by kernel_rfl
  f257 := by kernel_rfl
  f294 := by kernel_rfl
  f295 := by kernel_rfl
  f296 := by kernel_rfl
  f297 := by kernel_rfl
  f298 := by kernel_rfl
  f299 := by kernel_rfl
  f300 := by kernel_rfl
  f301 := by kernel_rfl
  f328 := by kernel_rfl
  f329 := by kernel_rfl
  f330 := by kernel_rfl
  f331 := by kernel_rfl
  f332 := by kernel_rfl
  f343 := by kernel_rfl
  t0 := Try.underlying0
  a0 := Try.isAgg0
  z0 := Try.sizeOf0
  v0 := Try.zeroValue0
  t3 := Try.underlying3
  a3 := Try.isAgg3
  z3 := Try.sizeOf3
  v3 := Try.zeroValue3
  t4 := Try.underlying4
  a4 := Try.isAgg4
  z4 := Try.sizeOf4
  v4 := Try.zeroValue4
  t5 := Try.underlying5
  a5 := Try.isAgg5
  z5 := Try.sizeOf5
  v5 := Try.zeroValue5
  t9 := Try.underlying9
  a9 := Try.isAgg9
  z9 := Try.sizeOf9
  v9 := Try.zeroValue9
  t28 := Try.underlying28
  a28 := Try.isAgg28
  z28 := Try.sizeOf28
  v28 := Try.zeroValue28
  t46 := Try.underlying194
  a46 := Try.isAgg194
  z46 := Try.sizeOf194
  v46 := Try.zeroValue194
  t51 := Try.underlying249
  a51 := Try.isAgg249
  z51 := Try.sizeOf249
  v51 := Try.zeroValue249
  t53 := Try.underlying129
  a53 := Try.isAgg129
  z53 := Try.sizeOf129
  v53 := Try.zeroValue129
  t131 := Try.underlying102
  a131 := Try.isAgg102
  z131 := Try.sizeOf102
  v131 := Try.zeroValue102
  t182 := Try.underlying242
  a182 := Try.isAgg242
  z182 := Try.sizeOf242
  v182 := Try.zeroValue242
  t183 := Try.underlying243
  a183 := Try.isAgg243
  z183 := Try.sizeOf243
  v183 := Try.zeroValue243
  t218 := Try.underlying263
  a218 := Try.isAgg263
  z218 := Try.sizeOf263
  v218 := Try.zeroValue263
  t222 := Try.underlying267
  a222 := Try.isAgg267
  z222 := Try.sizeOf267
  v222 := Try.zeroValue267
  t228 := Try.underlying273
  a228 := Try.isAgg273
  z228 := Try.sizeOf273
  v228 := Try.zeroValue273
  t229 := Try.underlying179
  a229 := Try.isAgg179
  z229 := Try.sizeOf179
  v229 := Try.zeroValue179

theorem only_sorted {w : World} {g q : Nat} {d : Array Int} {os : Array Obj} : Only [g] w (Go.Sort.grow (Go.Sort.putRow (Value.int .i64) (Go.Sort.ahead w q) g 0 d) os) := by
  refine ⟨rfl, rfl, rfl, by simp [Go.Sort.grow, Go.Sort.putRow, Go.Sort.mapBlock, Go.Sort.ahead], fun k hk hn => ?_⟩
  simp only [List.mem_singleton] at hn
  rw [Go.Sort.heap_grow_old _ _ (by simpa [Go.Sort.putRow, Go.Sort.mapBlock, Go.Sort.ahead] using hk)]
  simp [Go.Sort.putRow, Go.Sort.mapBlock, Go.Sort.ahead, Array.getElem?_modify, show g ≠ k by omega]
/-- slices.Sort of a slice of the call's own. -/
theorem Sort_own {w : World} {base : Nat} {A : Option Addr} {n c : Nat} {l : List Int} (h : OwnI w base 3 A n c l) (hn9 : n ≤ 1000000) :
    Calls Try.prog 87 #[.slice A n c] w fun e w' => e = .returned (.tuple #[]) ∧ OwnI w' base 3 A n c (l.mergeSort fun x y => decide (x ≤ y)) ∧ Only (fpI A) w w' := by
  by_cases hn : n = 0
  · subst hn
    have hl0 : l = [] := List.eq_nil_of_length_eq_zero h.len
    subst hl0
    refine (Any.slices_Sort_int_none srtLays A c w).mono ?_
    rintro e w' ⟨he, rfl⟩
    exact ⟨he, by simpa using h, Only.refl _ _⟩
  have hne : (.slice A n c : Value) ≠ .slice none 0 0 := by
    intro e; injection e with _ e2 _; omega
  obtain ⟨g, cap, hv, hb, hlt, hnc, hcm, hl, hH⟩ := Go.Lib.holds_of_ownsRow (show w.ownsRow base 3 1 (.slice A n c) n (l.map (Value.int .i64)) from h) hne
  injection hv with hA _ hc
  subst hA; subst hc
  have hd := Any.slices_Sort_int srtLays g 0 c l w hH (by omega) (by unfold maxLen at hcm; omega)
  rw [hl] at hd
  refine hd.mono ?_
  rintro e w' ⟨he, q, os, rfl⟩
  refine ⟨he, ?_, only_sorted⟩
  have hg : ∃ cur, w.heap[g]? = some (.cells cur 3 (0, 0)) ∧ cur.size = c * 1 := by
    rcases h.2 with ⟨e0, _⟩ | ⟨g', cap', cur, e0, _, hg, _, _, hs, _⟩
    · cases e0
    · injection e0 with e1 _ e3
      injection e1 with e1
      injection e1 with e1
      subst e1; subst e3
      exact ⟨cur, hg, hs⟩
  obtain ⟨cur, hg, hs⟩ := hg
  have := ownsRow_sortedI (n := q) (os := os) (ts := l.mergeSort fun x y => decide (x ≤ y)) (ss := l) (by simp) hb hg (by omega) hcm hs
  rw [hl] at this
  exact this
end Go.Proofs.Ytpdlcbgenimmcaa

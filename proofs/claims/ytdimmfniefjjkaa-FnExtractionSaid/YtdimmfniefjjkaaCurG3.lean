/- Drawn groups with an element; drawn orders. -/
import Derived.Test.YtdimmfniefjjkaaProg
import Derived.Test.YtdimmfniefjjkaaCurG2
namespace Go.Proofs.Ytdimmfniefjjkaa
open Go.RowKit

/-- At the return: a group that lies in a cell, and an int. -/
theorem ret_grpI {fn : Func} {w : World} {g : Nat} {t u : Tmp} {a b c x : Int} {tm : Array Value} {Q : Ending → World → Prop}
    (B : Blk w g 37 #[.int .i64 a, .int .i64 b, .int .i64 c])
    (h : fn.results = #[.cell t 37, .tmp u]) (ht : tm.getD t undef = .pointer (some ⟨g, 0, none⟩)) (hu : tm.getD u undef = .int .i64 x) (hQ : Q (.returned (.tuple #[.agg #[.int .i64 a, .int .i64 b, .int .i64 c], .int .i64 x])) w) :
    bodyPost Try.prog fn Q .ret { tmps := tm, defers := [] } w := by
  have C := B.cells
  refine bodyPost_ret (v := .tuple #[.agg #[.int .i64 a, .int .i64 b, .int .i64 c], .int .i64 x]) ?_ rfl hQ
  have ht' : (tm[t]?).getD undef = .pointer (some ⟨g, 0, none⟩) := by simpa using ht
  have hu' : (tm[u]?).getD undef = .int .i64 x := by simpa using hu
  simp [results, h, ht', hu', go_sem, C]

/-- A drawn group and a number. -/
def DrawnGI (w : World) (e : Ending) (w' : World) : Prop := ∃ P Q G x : Int, e = .returned (.tuple #[.agg #[.int .i64 P, .int .i64 Q, .int .i64 G], .int .i64 x]) ∧ GrpD P Q G ∧ -2000000000 ≤ x ∧ x ≤ 2000000000 ∧ Ext w w'


end Go.Proofs.Ytdimmfniefjjkaa

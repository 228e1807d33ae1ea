/-
  No cell of these rows narrows 'for every input' (looked for: loops, veiled, ifaces, maps, wideKeys, modest, calm, conditions, laid).
  DERIVED. THE GIVEN ROWS OF THIS SEAT. 5 by the template 'for every input the law returns true; each argument reads behind the call as it read before'; 0 by the template 'total and deterministic' (their statements: YtjifppkclkcpcaaTotals.lean).
  GIVEN WITH THE SEED: the statements are not yours to turn. If you find one false, say at which input.
  Laid BY PROGRAM, IN A SANDBOX (cutbox-rows.mjs): the forced cells as the released guide's own fill.sh prints them over the translation cbf7ecbe2ebad2d7… (all of the seat's roots in one cut). By AI agents, Wed Nov 11 2026. No macro, syntax, notation, axiom, sorry.
-/
import Derived.Test.YtjifppkclkcpcaaChecked
import GoSem.Claim
import GoSem.ClaimJoined
import GoSem.ClaimMapViews
import Derived.JoinedTies
import Derived.KernelRfl
namespace Go.Proofs.Ytjifppkclkcpcaa
/- THE CELL 'sum', in the pinned program and in every row, IS THE sha256 OF THE DUMP (.gsa) THAT YtjifppkclkcpcaaProg.lean LOADS. Nothing in Lean hashes anything: it is a label: what it is worth is what the hold of that sum in a sandbox is worth. -/
noncomputable def Try.pinned : Pinned := { name := "ytjifppkclkcpcaa", sum := "cbf7ecbe2ebad2d726c81e85705d555f48ad6639b6006c21519c8c6594c3ec58", checked := Try.checked }
namespace Rows
def none {H : Type} : Left H := { results := [], args := [] }

/-- 'laws.FnExactIsValidContest': WHATEVER THE INPUT: true; the input reads as it did. -/
def fnExactIsValidContestSpec : ChangeSpec := { name := "fnExactIsValidContest", fn := fun _ => fun
  | [d] => { results := [.lit (.bool true)], args := [d] }
  | _ => none }
def fnExactIsValidContestRow : OpenClaim := { program := "ytjifppkclkcpcaa", sum := "cbf7ecbe2ebad2d726c81e85705d555f48ad6639b6006c21519c8c6594c3ec58", func := "loop.example/g00878/laws.FnExactIsValidContest", spec := "fnExactIsValidContest", apart := false }
def FnExactIsValidContestSaid : Prop := fnExactIsValidContestRow.holds Try.pinned (OpenSpec.ofChange fnExactIsValidContestSpec)

/-- ITS FALSE NEIGHBOUR: 'it returns false'. Refute it at one input. -/
def fnExactIsValidContestWrong : ChangeSpec := { name := "fnExactIsValidContest", fn := fun _ => fun
  | [d] => { results := [.lit (.bool false)], args := [d] }
  | _ => none }
def FnExactIsValidContestWrongFalsely : Prop := fnExactIsValidContestRow.holds Try.pinned (OpenSpec.ofChange fnExactIsValidContestWrong)

/-- 'laws.FnExactUndetectedWays': WHATEVER THE INPUT: true; the input reads as it did. -/
def fnExactUndetectedWaysSpec : ChangeSpec := { name := "fnExactUndetectedWays", fn := fun _ => fun
  | [d1, d2, d3] => { results := [.lit (.bool true)], args := [d1, d2, d3] }
  | _ => none }
def fnExactUndetectedWaysRow : OpenClaim := { program := "ytjifppkclkcpcaa", sum := "cbf7ecbe2ebad2d726c81e85705d555f48ad6639b6006c21519c8c6594c3ec58", func := "loop.example/g00878/laws.FnExactUndetectedWays", spec := "fnExactUndetectedWays", apart := false }
def FnExactUndetectedWaysSaid : Prop := fnExactUndetectedWaysRow.holds Try.pinned (OpenSpec.ofChange fnExactUndetectedWaysSpec)

/-- ITS FALSE NEIGHBOUR: 'it returns false'. Refute it at one input. -/
def fnExactUndetectedWaysWrong : ChangeSpec := { name := "fnExactUndetectedWays", fn := fun _ => fun
  | [d1, d2, d3] => { results := [.lit (.bool false)], args := [d1, d2, d3] }
  | _ => none }
def FnExactUndetectedWaysWrongFalsely : Prop := fnExactUndetectedWaysRow.holds Try.pinned (OpenSpec.ofChange fnExactUndetectedWaysWrong)

/-- 'laws.FnExactDetectionChance': WHATEVER THE INPUT: true; the input reads as it did. -/
def fnExactDetectionChanceSpec : ChangeSpec := { name := "fnExactDetectionChance", fn := fun _ => fun
  | [d1, d2, d3] => { results := [.lit (.bool true)], args := [d1, d2, d3] }
  | _ => none }
def fnExactDetectionChanceRow : OpenClaim := { program := "ytjifppkclkcpcaa", sum := "cbf7ecbe2ebad2d726c81e85705d555f48ad6639b6006c21519c8c6594c3ec58", func := "loop.example/g00878/laws.FnExactDetectionChance", spec := "fnExactDetectionChance", apart := false }
def FnExactDetectionChanceSaid : Prop := fnExactDetectionChanceRow.holds Try.pinned (OpenSpec.ofChange fnExactDetectionChanceSpec)

/-- ITS FALSE NEIGHBOUR: 'it returns false'. Refute it at one input. -/
def fnExactDetectionChanceWrong : ChangeSpec := { name := "fnExactDetectionChance", fn := fun _ => fun
  | [d1, d2, d3] => { results := [.lit (.bool false)], args := [d1, d2, d3] }
  | _ => none }
def FnExactDetectionChanceWrongFalsely : Prop := fnExactDetectionChanceRow.holds Try.pinned (OpenSpec.ofChange fnExactDetectionChanceWrong)

/-- 'laws.FnExactLeastAudits': WHATEVER THE INPUT: true; the input reads as it did. -/
def fnExactLeastAuditsSpec : ChangeSpec := { name := "fnExactLeastAudits", fn := fun _ => fun
  | [d1, d2, d3, d4] => { results := [.lit (.bool true)], args := [d1, d2, d3, d4] }
  | _ => none }
def fnExactLeastAuditsRow : OpenClaim := { program := "ytjifppkclkcpcaa", sum := "cbf7ecbe2ebad2d726c81e85705d555f48ad6639b6006c21519c8c6594c3ec58", func := "loop.example/g00878/laws.FnExactLeastAudits", spec := "fnExactLeastAudits", apart := false }
def FnExactLeastAuditsSaid : Prop := fnExactLeastAuditsRow.holds Try.pinned (OpenSpec.ofChange fnExactLeastAuditsSpec)

/-- ITS FALSE NEIGHBOUR: 'it returns false'. Refute it at one input. -/
def fnExactLeastAuditsWrong : ChangeSpec := { name := "fnExactLeastAudits", fn := fun _ => fun
  | [d1, d2, d3, d4] => { results := [.lit (.bool false)], args := [d1, d2, d3, d4] }
  | _ => none }
def FnExactLeastAuditsWrongFalsely : Prop := fnExactLeastAuditsRow.holds Try.pinned (OpenSpec.ofChange fnExactLeastAuditsWrong)

/-- 'laws.FnExactEncodeContest': WHATEVER THE INPUT: true; the input reads as it did. -/
def fnExactEncodeContestSpec : ChangeSpec := { name := "fnExactEncodeContest", fn := fun _ => fun
  | [d] => { results := [.lit (.bool true)], args := [d] }
  | _ => none }
def fnExactEncodeContestRow : OpenClaim := { program := "ytjifppkclkcpcaa", sum := "cbf7ecbe2ebad2d726c81e85705d555f48ad6639b6006c21519c8c6594c3ec58", func := "loop.example/g00878/laws.FnExactEncodeContest", spec := "fnExactEncodeContest", apart := false }
def FnExactEncodeContestSaid : Prop := fnExactEncodeContestRow.holds Try.pinned (OpenSpec.ofChange fnExactEncodeContestSpec)

/-- ITS FALSE NEIGHBOUR: 'it returns false'. Refute it at one input. -/
def fnExactEncodeContestWrong : ChangeSpec := { name := "fnExactEncodeContest", fn := fun _ => fun
  | [d] => { results := [.lit (.bool false)], args := [d] }
  | _ => none }
def FnExactEncodeContestWrongFalsely : Prop := fnExactEncodeContestRow.holds Try.pinned (OpenSpec.ofChange fnExactEncodeContestWrong)

/- THE SECOND FORM. 'bulk': how many values and letters a reading holds, each counted each time it is reached (what is shared counts as often as it is met; a slice's spare places count too). A statement '..UptoSaid' is the law's where the arguments, and the package variables that the reading takes, are together of bulk at most 1048576: NARROWER than '..Said'. Prove '..Said' where nothing that the law and all that it calls make is longer than what came in: it says more and counts as full. Else prove '..UptoSaid'. A law counts once. -/
mutual
def uptoBulk {H : Type} : DataW H → Nat
  | .lit (.string bytes) => bytes.length + 1
  | .lit _ => 1
  | .nil => 1
  | .ptr d => uptoBulk d + 1
  | .slice elems spare => uptoBulkAll elems + uptoBulkAll spare + 1
  | .agg parts => uptoBulkAll parts + 1
  | .iface _ d => uptoBulk d + 1
  | .map entries => uptoBulkEntries entries + 1
  | .held _ => 1
def uptoBulkAll {H : Type} : List (DataW H) → Nat
  | [] => 0
  | d :: r => uptoBulk d + uptoBulkAll r
def uptoBulkEntries {H : Type} : List (Lit × DataW H) → Nat
  | [] => 0
  | x :: r => uptoBulkEntry x + uptoBulkEntries r
def uptoBulkEntry {H : Type} : Lit × DataW H → Nat
  | (.string bytes, d) => bytes.length + uptoBulk d + 1
  | (_, d) => uptoBulk d + 1
 end
def uptoSmall : (H : Type) → List (DataW H) → Bool := fun _ ds => decide (uptoBulkAll ds ≤ 1048576)
def OpenSpec.upto (s : _root_.Go.ChangeSpec) : _root_.Go.OpenSpec := { _root_.Go.OpenSpec.ofChange s with cond := some uptoSmall }

/-- 'laws.FnExactIsValidContest', WHERE WHAT IT READS IS OF BULK AT MOST 1048576: true; the input reads as it did. -/
def fnExactIsValidContestUptoRow : OpenClaim := { program := "ytjifppkclkcpcaa", sum := "cbf7ecbe2ebad2d726c81e85705d555f48ad6639b6006c21519c8c6594c3ec58", func := "loop.example/g00878/laws.FnExactIsValidContest", spec := "fnExactIsValidContest", apart := false, narrowed := true }
def FnExactIsValidContestUptoSaid : Prop := fnExactIsValidContestUptoRow.holds Try.pinned (OpenSpec.upto fnExactIsValidContestSpec)

/-- 'laws.FnExactUndetectedWays', WHERE WHAT IT READS IS OF BULK AT MOST 1048576: true; the input reads as it did. -/
def fnExactUndetectedWaysUptoRow : OpenClaim := { program := "ytjifppkclkcpcaa", sum := "cbf7ecbe2ebad2d726c81e85705d555f48ad6639b6006c21519c8c6594c3ec58", func := "loop.example/g00878/laws.FnExactUndetectedWays", spec := "fnExactUndetectedWays", apart := false, narrowed := true }
def FnExactUndetectedWaysUptoSaid : Prop := fnExactUndetectedWaysUptoRow.holds Try.pinned (OpenSpec.upto fnExactUndetectedWaysSpec)

/-- 'laws.FnExactDetectionChance', WHERE WHAT IT READS IS OF BULK AT MOST 1048576: true; the input reads as it did. -/
def fnExactDetectionChanceUptoRow : OpenClaim := { program := "ytjifppkclkcpcaa", sum := "cbf7ecbe2ebad2d726c81e85705d555f48ad6639b6006c21519c8c6594c3ec58", func := "loop.example/g00878/laws.FnExactDetectionChance", spec := "fnExactDetectionChance", apart := false, narrowed := true }
def FnExactDetectionChanceUptoSaid : Prop := fnExactDetectionChanceUptoRow.holds Try.pinned (OpenSpec.upto fnExactDetectionChanceSpec)

/-- 'laws.FnExactLeastAudits', WHERE WHAT IT READS IS OF BULK AT MOST 1048576: true; the input reads as it did. -/
def fnExactLeastAuditsUptoRow : OpenClaim := { program := "ytjifppkclkcpcaa", sum := "cbf7ecbe2ebad2d726c81e85705d555f48ad6639b6006c21519c8c6594c3ec58", func := "loop.example/g00878/laws.FnExactLeastAudits", spec := "fnExactLeastAudits", apart := false, narrowed := true }
def FnExactLeastAuditsUptoSaid : Prop := fnExactLeastAuditsUptoRow.holds Try.pinned (OpenSpec.upto fnExactLeastAuditsSpec)

/-- 'laws.FnExactEncodeContest', WHERE WHAT IT READS IS OF BULK AT MOST 1048576: true; the input reads as it did. -/
def fnExactEncodeContestUptoRow : OpenClaim := { program := "ytjifppkclkcpcaa", sum := "cbf7ecbe2ebad2d726c81e85705d555f48ad6639b6006c21519c8c6594c3ec58", func := "loop.example/g00878/laws.FnExactEncodeContest", spec := "fnExactEncodeContest", apart := false, narrowed := true }
def FnExactEncodeContestUptoSaid : Prop := fnExactEncodeContestUptoRow.holds Try.pinned (OpenSpec.upto fnExactEncodeContestSpec)

end Rows
end Go.Proofs.Ytjifppkclkcpcaa

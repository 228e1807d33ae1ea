/-
  No cell of these rows narrows 'for every input' (looked for: loops, veiled, ifaces, maps, wideKeys, modest, calm, conditions, laid).
  DERIVED. THE GIVEN ROWS OF THIS SEAT. 18 by the template 'for every input the law returns true; each argument reads behind the call as it read before'; 0 by the template 'total and deterministic' (their statements: YteohpelbkmdlmaaTotals.lean).
  GIVEN WITH THE SEED: the statements are not yours to turn. If you find one false, say at which input.
  Laid BY PROGRAM, IN A SANDBOX (cutbox-rows.mjs): the forced cells as the released guide's own fill.sh prints them over the translation b6e884904cea2451… (all of the seat's roots in one cut). By AI agents, Wed Nov 11 2026. No macro, syntax, notation, axiom, sorry.
-/
import Derived.Test.YteohpelbkmdlmaaChecked
import GoSem.Claim
import GoSem.ClaimJoined
import GoSem.ClaimMapViews
import Derived.JoinedTies
import Derived.KernelRfl
namespace Go.Proofs.Yteohpelbkmdlmaa
/- THE CELL 'sum', in the pinned program and in every row, IS THE sha256 OF THE DUMP (.gsa) THAT YteohpelbkmdlmaaProg.lean LOADS. Nothing in Lean hashes anything: it is a label: what it is worth is what the hold of that sum in a sandbox is worth. -/
noncomputable def Try.pinned : Pinned := { name := "yteohpelbkmdlmaa", sum := "b6e884904cea24512fe132e14ac922603fd3bc49605f3542fbc5ee0a4061a6a8", checked := Try.checked }
namespace Rows
def none {H : Type} : Left H := { results := [], args := [] }

/-- 'laws.FnExactPermutationOf': WHATEVER THE INPUT: true; the input reads as it did. -/
def fnExactPermutationOfSpec : ChangeSpec := { name := "fnExactPermutationOf", fn := fun _ => fun
  | [d1, d2] => { results := [.lit (.bool true)], args := [d1, d2] }
  | _ => none }
def fnExactPermutationOfRow : OpenClaim := { program := "yteohpelbkmdlmaa", sum := "b6e884904cea24512fe132e14ac922603fd3bc49605f3542fbc5ee0a4061a6a8", func := "loop.example/g00878/laws.FnExactPermutationOf", spec := "fnExactPermutationOf", apart := false }
def FnExactPermutationOfSaid : Prop := fnExactPermutationOfRow.holds Try.pinned (OpenSpec.ofChange fnExactPermutationOfSpec)

/-- ITS FALSE NEIGHBOUR: 'it returns false'. Refute it at one input. -/
def fnExactPermutationOfWrong : ChangeSpec := { name := "fnExactPermutationOf", fn := fun _ => fun
  | [d1, d2] => { results := [.lit (.bool false)], args := [d1, d2] }
  | _ => none }
def FnExactPermutationOfWrongFalsely : Prop := fnExactPermutationOfRow.holds Try.pinned (OpenSpec.ofChange fnExactPermutationOfWrong)

/-- 'laws.FnExactCountVotes': WHATEVER THE INPUT: true; the input reads as it did. -/
def fnExactCountVotesSpec : ChangeSpec := { name := "fnExactCountVotes", fn := fun _ => fun
  | [d] => { results := [.lit (.bool true)], args := [d] }
  | _ => none }
def fnExactCountVotesRow : OpenClaim := { program := "yteohpelbkmdlmaa", sum := "b6e884904cea24512fe132e14ac922603fd3bc49605f3542fbc5ee0a4061a6a8", func := "loop.example/g00878/laws.FnExactCountVotes", spec := "fnExactCountVotes", apart := false }
def FnExactCountVotesSaid : Prop := fnExactCountVotesRow.holds Try.pinned (OpenSpec.ofChange fnExactCountVotesSpec)

/-- ITS FALSE NEIGHBOUR: 'it returns false'. Refute it at one input. -/
def fnExactCountVotesWrong : ChangeSpec := { name := "fnExactCountVotes", fn := fun _ => fun
  | [d] => { results := [.lit (.bool false)], args := [d] }
  | _ => none }
def FnExactCountVotesWrongFalsely : Prop := fnExactCountVotesRow.holds Try.pinned (OpenSpec.ofChange fnExactCountVotesWrong)

/-- 'laws.FnExactSignOf': WHATEVER THE INPUT: true; the input reads as it did. -/
def fnExactSignOfSpec : ChangeSpec := { name := "fnExactSignOf", fn := fun _ => fun
  | [d] => { results := [.lit (.bool true)], args := [d] }
  | _ => none }
def fnExactSignOfRow : OpenClaim := { program := "yteohpelbkmdlmaa", sum := "b6e884904cea24512fe132e14ac922603fd3bc49605f3542fbc5ee0a4061a6a8", func := "loop.example/g00878/laws.FnExactSignOf", spec := "fnExactSignOf", unfollowed := true, recurses := true, apart := false }
def FnExactSignOfSaid : Prop := fnExactSignOfRow.holds Try.pinned (OpenSpec.ofChange fnExactSignOfSpec)

/-- ITS FALSE NEIGHBOUR: 'it returns false'. Refute it at one input. -/
def fnExactSignOfWrong : ChangeSpec := { name := "fnExactSignOf", fn := fun _ => fun
  | [d] => { results := [.lit (.bool false)], args := [d] }
  | _ => none }
def FnExactSignOfWrongFalsely : Prop := fnExactSignOfRow.holds Try.pinned (OpenSpec.ofChange fnExactSignOfWrong)

/-- 'laws.FnExactChainOf': WHATEVER THE INPUT: true; the input reads as it did. -/
def fnExactChainOfSpec : ChangeSpec := { name := "fnExactChainOf", fn := fun _ => fun
  | [d] => { results := [.lit (.bool true)], args := [d] }
  | _ => none }
def fnExactChainOfRow : OpenClaim := { program := "yteohpelbkmdlmaa", sum := "b6e884904cea24512fe132e14ac922603fd3bc49605f3542fbc5ee0a4061a6a8", func := "loop.example/g00878/laws.FnExactChainOf", spec := "fnExactChainOf", unfollowed := true, recurses := true, apart := false }
def FnExactChainOfSaid : Prop := fnExactChainOfRow.holds Try.pinned (OpenSpec.ofChange fnExactChainOfSpec)

/-- ITS FALSE NEIGHBOUR: 'it returns false'. Refute it at one input. -/
def fnExactChainOfWrong : ChangeSpec := { name := "fnExactChainOf", fn := fun _ => fun
  | [d] => { results := [.lit (.bool false)], args := [d] }
  | _ => none }
def FnExactChainOfWrongFalsely : Prop := fnExactChainOfRow.holds Try.pinned (OpenSpec.ofChange fnExactChainOfWrong)

/-- 'laws.FnExactCheckChain': WHATEVER THE INPUT: true; the input reads as it did. -/
def fnExactCheckChainSpec : ChangeSpec := { name := "fnExactCheckChain", fn := fun _ => fun
  | [d1, d2] => { results := [.lit (.bool true)], args := [d1, d2] }
  | _ => none }
def fnExactCheckChainRow : OpenClaim := { program := "yteohpelbkmdlmaa", sum := "b6e884904cea24512fe132e14ac922603fd3bc49605f3542fbc5ee0a4061a6a8", func := "loop.example/g00878/laws.FnExactCheckChain", spec := "fnExactCheckChain", unfollowed := true, recurses := true, apart := false }
def FnExactCheckChainSaid : Prop := fnExactCheckChainRow.holds Try.pinned (OpenSpec.ofChange fnExactCheckChainSpec)

/-- ITS FALSE NEIGHBOUR: 'it returns false'. Refute it at one input. -/
def fnExactCheckChainWrong : ChangeSpec := { name := "fnExactCheckChain", fn := fun _ => fun
  | [d1, d2] => { results := [.lit (.bool false)], args := [d1, d2] }
  | _ => none }
def FnExactCheckChainWrongFalsely : Prop := fnExactCheckChainRow.holds Try.pinned (OpenSpec.ofChange fnExactCheckChainWrong)

/-- 'laws.FnExactMatrixOf': WHATEVER THE INPUT: true; the input reads as it did. -/
def fnExactMatrixOfSpec : ChangeSpec := { name := "fnExactMatrixOf", fn := fun _ => fun
  | [d] => { results := [.lit (.bool true)], args := [d] }
  | _ => none }
def fnExactMatrixOfRow : OpenClaim := { program := "yteohpelbkmdlmaa", sum := "b6e884904cea24512fe132e14ac922603fd3bc49605f3542fbc5ee0a4061a6a8", func := "loop.example/g00878/laws.FnExactMatrixOf", spec := "fnExactMatrixOf", unfollowed := true, recurses := true, apart := false }
def FnExactMatrixOfSaid : Prop := fnExactMatrixOfRow.holds Try.pinned (OpenSpec.ofChange fnExactMatrixOfSpec)

/-- ITS FALSE NEIGHBOUR: 'it returns false'. Refute it at one input. -/
def fnExactMatrixOfWrong : ChangeSpec := { name := "fnExactMatrixOf", fn := fun _ => fun
  | [d] => { results := [.lit (.bool false)], args := [d] }
  | _ => none }
def FnExactMatrixOfWrongFalsely : Prop := fnExactMatrixOfRow.holds Try.pinned (OpenSpec.ofChange fnExactMatrixOfWrong)

/-- 'laws.FnExactCyclesOf': WHATEVER THE INPUT: true; the input reads as it did. -/
def fnExactCyclesOfSpec : ChangeSpec := { name := "fnExactCyclesOf", fn := fun _ => fun
  | [d] => { results := [.lit (.bool true)], args := [d] }
  | _ => none }
def fnExactCyclesOfRow : OpenClaim := { program := "yteohpelbkmdlmaa", sum := "b6e884904cea24512fe132e14ac922603fd3bc49605f3542fbc5ee0a4061a6a8", func := "loop.example/g00878/laws.FnExactCyclesOf", spec := "fnExactCyclesOf", unfollowed := true, recurses := true, apart := false }
def FnExactCyclesOfSaid : Prop := fnExactCyclesOfRow.holds Try.pinned (OpenSpec.ofChange fnExactCyclesOfSpec)

/-- ITS FALSE NEIGHBOUR: 'it returns false'. Refute it at one input. -/
def fnExactCyclesOfWrong : ChangeSpec := { name := "fnExactCyclesOf", fn := fun _ => fun
  | [d] => { results := [.lit (.bool false)], args := [d] }
  | _ => none }
def FnExactCyclesOfWrongFalsely : Prop := fnExactCyclesOfRow.holds Try.pinned (OpenSpec.ofChange fnExactCyclesOfWrong)

/-- 'laws.FnExactPermuteCiphers': WHATEVER THE INPUT: true; the input reads as it did. -/
def fnExactPermuteCiphersSpec : ChangeSpec := { name := "fnExactPermuteCiphers", fn := fun _ => fun
  | [d1, d2] => { results := [.lit (.bool true)], args := [d1, d2] }
  | _ => none }
def fnExactPermuteCiphersRow : OpenClaim := { program := "yteohpelbkmdlmaa", sum := "b6e884904cea24512fe132e14ac922603fd3bc49605f3542fbc5ee0a4061a6a8", func := "loop.example/g00878/laws.FnExactPermuteCiphers", spec := "fnExactPermuteCiphers", unfollowed := true, recurses := true, apart := false }
def FnExactPermuteCiphersSaid : Prop := fnExactPermuteCiphersRow.holds Try.pinned (OpenSpec.ofChange fnExactPermuteCiphersSpec)

/-- ITS FALSE NEIGHBOUR: 'it returns false'. Refute it at one input. -/
def fnExactPermuteCiphersWrong : ChangeSpec := { name := "fnExactPermuteCiphers", fn := fun _ => fun
  | [d1, d2] => { results := [.lit (.bool false)], args := [d1, d2] }
  | _ => none }
def FnExactPermuteCiphersWrongFalsely : Prop := fnExactPermuteCiphersRow.holds Try.pinned (OpenSpec.ofChange fnExactPermuteCiphersWrong)

/-- 'laws.FnExactIsValidVote': WHATEVER THE INPUT: true; the input reads as it did. -/
def fnExactIsValidVoteSpec : ChangeSpec := { name := "fnExactIsValidVote", fn := fun _ => fun
  | [d1, d2] => { results := [.lit (.bool true)], args := [d1, d2] }
  | _ => none }
def fnExactIsValidVoteRow : OpenClaim := { program := "yteohpelbkmdlmaa", sum := "b6e884904cea24512fe132e14ac922603fd3bc49605f3542fbc5ee0a4061a6a8", func := "loop.example/g00878/laws.FnExactIsValidVote", spec := "fnExactIsValidVote", unfollowed := true, recurses := true, apart := false }
def FnExactIsValidVoteSaid : Prop := fnExactIsValidVoteRow.holds Try.pinned (OpenSpec.ofChange fnExactIsValidVoteSpec)

/-- ITS FALSE NEIGHBOUR: 'it returns false'. Refute it at one input. -/
def fnExactIsValidVoteWrong : ChangeSpec := { name := "fnExactIsValidVote", fn := fun _ => fun
  | [d1, d2] => { results := [.lit (.bool false)], args := [d1, d2] }
  | _ => none }
def FnExactIsValidVoteWrongFalsely : Prop := fnExactIsValidVoteRow.holds Try.pinned (OpenSpec.ofChange fnExactIsValidVoteWrong)

/-- 'laws.FnPrimes': WHATEVER THE INPUT: true; the input reads as it did. -/
def fnPrimesSpec : ChangeSpec := { name := "fnPrimes", fn := fun _ => fun
  | [d1, d2] => { results := [.lit (.bool true)], args := [d1, d2] }
  | _ => none }
def fnPrimesRow : OpenClaim := { program := "yteohpelbkmdlmaa", sum := "b6e884904cea24512fe132e14ac922603fd3bc49605f3542fbc5ee0a4061a6a8", func := "loop.example/g00878/laws.FnPrimes", spec := "fnPrimes", unfollowed := true, recurses := true, apart := false }
def FnPrimesSaid : Prop := fnPrimesRow.holds Try.pinned (OpenSpec.ofChange fnPrimesSpec)

/-- ITS FALSE NEIGHBOUR: 'it returns false'. Refute it at one input. -/
def fnPrimesWrong : ChangeSpec := { name := "fnPrimes", fn := fun _ => fun
  | [d1, d2] => { results := [.lit (.bool false)], args := [d1, d2] }
  | _ => none }
def FnPrimesWrongFalsely : Prop := fnPrimesRow.holds Try.pinned (OpenSpec.ofChange fnPrimesWrong)

/-- 'laws.FnExactIsSealable': WHATEVER THE INPUT: true; the input reads as it did. -/
def fnExactIsSealableSpec : ChangeSpec := { name := "fnExactIsSealable", fn := fun _ => fun
  | [d1, d2] => { results := [.lit (.bool true)], args := [d1, d2] }
  | _ => none }
def fnExactIsSealableRow : OpenClaim := { program := "yteohpelbkmdlmaa", sum := "b6e884904cea24512fe132e14ac922603fd3bc49605f3542fbc5ee0a4061a6a8", func := "loop.example/g00878/laws.FnExactIsSealable", spec := "fnExactIsSealable", apart := false }
def FnExactIsSealableSaid : Prop := fnExactIsSealableRow.holds Try.pinned (OpenSpec.ofChange fnExactIsSealableSpec)

/-- ITS FALSE NEIGHBOUR: 'it returns false'. Refute it at one input. -/
def fnExactIsSealableWrong : ChangeSpec := { name := "fnExactIsSealable", fn := fun _ => fun
  | [d1, d2] => { results := [.lit (.bool false)], args := [d1, d2] }
  | _ => none }
def FnExactIsSealableWrongFalsely : Prop := fnExactIsSealableRow.holds Try.pinned (OpenSpec.ofChange fnExactIsSealableWrong)

/-- 'laws.FnAgreeingPoints': WHATEVER THE INPUT: true; the input reads as it did. -/
def fnAgreeingPointsSpec : ChangeSpec := { name := "fnAgreeingPoints", fn := fun _ => fun
  | [d1, d2] => { results := [.lit (.bool true)], args := [d1, d2] }
  | _ => none }
def fnAgreeingPointsRow : OpenClaim := { program := "yteohpelbkmdlmaa", sum := "b6e884904cea24512fe132e14ac922603fd3bc49605f3542fbc5ee0a4061a6a8", func := "loop.example/g00878/laws.FnAgreeingPoints", spec := "fnAgreeingPoints", unfollowed := true, recurses := true, apart := false }
def FnAgreeingPointsSaid : Prop := fnAgreeingPointsRow.holds Try.pinned (OpenSpec.ofChange fnAgreeingPointsSpec)

/-- ITS FALSE NEIGHBOUR: 'it returns false'. Refute it at one input. -/
def fnAgreeingPointsWrong : ChangeSpec := { name := "fnAgreeingPoints", fn := fun _ => fun
  | [d1, d2] => { results := [.lit (.bool false)], args := [d1, d2] }
  | _ => none }
def FnAgreeingPointsWrongFalsely : Prop := fnAgreeingPointsRow.holds Try.pinned (OpenSpec.ofChange fnAgreeingPointsWrong)

/-- 'laws.FnExactPermutationOfMatrix': WHATEVER THE INPUT: true; the input reads as it did. -/
def fnExactPermutationOfMatrixSpec : ChangeSpec := { name := "fnExactPermutationOfMatrix", fn := fun _ => fun
  | [d] => { results := [.lit (.bool true)], args := [d] }
  | _ => none }
def fnExactPermutationOfMatrixRow : OpenClaim := { program := "yteohpelbkmdlmaa", sum := "b6e884904cea24512fe132e14ac922603fd3bc49605f3542fbc5ee0a4061a6a8", func := "loop.example/g00878/laws.FnExactPermutationOfMatrix", spec := "fnExactPermutationOfMatrix", unfollowed := true, recurses := true, apart := false }
def FnExactPermutationOfMatrixSaid : Prop := fnExactPermutationOfMatrixRow.holds Try.pinned (OpenSpec.ofChange fnExactPermutationOfMatrixSpec)

/-- ITS FALSE NEIGHBOUR: 'it returns false'. Refute it at one input. -/
def fnExactPermutationOfMatrixWrong : ChangeSpec := { name := "fnExactPermutationOfMatrix", fn := fun _ => fun
  | [d] => { results := [.lit (.bool false)], args := [d] }
  | _ => none }
def FnExactPermutationOfMatrixWrongFalsely : Prop := fnExactPermutationOfMatrixRow.holds Try.pinned (OpenSpec.ofChange fnExactPermutationOfMatrixWrong)

/-- 'laws.FnGroups': WHATEVER THE INPUT: true; the input reads as it did. -/
def fnGroupsSpec : ChangeSpec := { name := "fnGroups", fn := fun _ => fun
  | [d1, d2] => { results := [.lit (.bool true)], args := [d1, d2] }
  | _ => none }
def fnGroupsRow : OpenClaim := { program := "yteohpelbkmdlmaa", sum := "b6e884904cea24512fe132e14ac922603fd3bc49605f3542fbc5ee0a4061a6a8", func := "loop.example/g00878/laws.FnGroups", spec := "fnGroups", unfollowed := true, recurses := true, apart := false }
def FnGroupsSaid : Prop := fnGroupsRow.holds Try.pinned (OpenSpec.ofChange fnGroupsSpec)

/-- ITS FALSE NEIGHBOUR: 'it returns false'. Refute it at one input. -/
def fnGroupsWrong : ChangeSpec := { name := "fnGroups", fn := fun _ => fun
  | [d1, d2] => { results := [.lit (.bool false)], args := [d1, d2] }
  | _ => none }
def FnGroupsWrongFalsely : Prop := fnGroupsRow.holds Try.pinned (OpenSpec.ofChange fnGroupsWrong)

/-- 'laws.FnResidues': WHATEVER THE INPUT: true; the input reads as it did. -/
def fnResiduesSpec : ChangeSpec := { name := "fnResidues", fn := fun _ => fun
  | [d1, d2] => { results := [.lit (.bool true)], args := [d1, d2] }
  | _ => none }
def fnResiduesRow : OpenClaim := { program := "yteohpelbkmdlmaa", sum := "b6e884904cea24512fe132e14ac922603fd3bc49605f3542fbc5ee0a4061a6a8", func := "loop.example/g00878/laws.FnResidues", spec := "fnResidues", unfollowed := true, recurses := true, apart := false }
def FnResiduesSaid : Prop := fnResiduesRow.holds Try.pinned (OpenSpec.ofChange fnResiduesSpec)

/-- ITS FALSE NEIGHBOUR: 'it returns false'. Refute it at one input. -/
def fnResiduesWrong : ChangeSpec := { name := "fnResidues", fn := fun _ => fun
  | [d1, d2] => { results := [.lit (.bool false)], args := [d1, d2] }
  | _ => none }
def FnResiduesWrongFalsely : Prop := fnResiduesRow.holds Try.pinned (OpenSpec.ofChange fnResiduesWrong)

/-- 'laws.FnPolynomials': WHATEVER THE INPUT: true; the input reads as it did. -/
def fnPolynomialsSpec : ChangeSpec := { name := "fnPolynomials", fn := fun _ => fun
  | [d1, d2] => { results := [.lit (.bool true)], args := [d1, d2] }
  | _ => none }
def fnPolynomialsRow : OpenClaim := { program := "yteohpelbkmdlmaa", sum := "b6e884904cea24512fe132e14ac922603fd3bc49605f3542fbc5ee0a4061a6a8", func := "loop.example/g00878/laws.FnPolynomials", spec := "fnPolynomials", unfollowed := true, recurses := true, apart := false }
def FnPolynomialsSaid : Prop := fnPolynomialsRow.holds Try.pinned (OpenSpec.ofChange fnPolynomialsSpec)

/-- ITS FALSE NEIGHBOUR: 'it returns false'. Refute it at one input. -/
def fnPolynomialsWrong : ChangeSpec := { name := "fnPolynomials", fn := fun _ => fun
  | [d1, d2] => { results := [.lit (.bool false)], args := [d1, d2] }
  | _ => none }
def FnPolynomialsWrongFalsely : Prop := fnPolynomialsRow.holds Try.pinned (OpenSpec.ofChange fnPolynomialsWrong)

/-- 'laws.FnPermutations': WHATEVER THE INPUT: true; the input reads as it did. -/
def fnPermutationsSpec : ChangeSpec := { name := "fnPermutations", fn := fun _ => fun
  | [d1, d2] => { results := [.lit (.bool true)], args := [d1, d2] }
  | _ => none }
def fnPermutationsRow : OpenClaim := { program := "yteohpelbkmdlmaa", sum := "b6e884904cea24512fe132e14ac922603fd3bc49605f3542fbc5ee0a4061a6a8", func := "loop.example/g00878/laws.FnPermutations", spec := "fnPermutations", unfollowed := true, recurses := true, apart := false }
def FnPermutationsSaid : Prop := fnPermutationsRow.holds Try.pinned (OpenSpec.ofChange fnPermutationsSpec)

/-- ITS FALSE NEIGHBOUR: 'it returns false'. Refute it at one input. -/
def fnPermutationsWrong : ChangeSpec := { name := "fnPermutations", fn := fun _ => fun
  | [d1, d2] => { results := [.lit (.bool false)], args := [d1, d2] }
  | _ => none }
def FnPermutationsWrongFalsely : Prop := fnPermutationsRow.holds Try.pinned (OpenSpec.ofChange fnPermutationsWrong)

/-- 'laws.FnExactCodeOf': WHATEVER THE INPUT: true; the input reads as it did. -/
def fnExactCodeOfSpec : ChangeSpec := { name := "fnExactCodeOf", fn := fun _ => fun
  | [d1, d2] => { results := [.lit (.bool true)], args := [d1, d2] }
  | _ => none }
def fnExactCodeOfRow : OpenClaim := { program := "yteohpelbkmdlmaa", sum := "b6e884904cea24512fe132e14ac922603fd3bc49605f3542fbc5ee0a4061a6a8", func := "loop.example/g00878/laws.FnExactCodeOf", spec := "fnExactCodeOf", unfollowed := true, recurses := true, apart := false }
def FnExactCodeOfSaid : Prop := fnExactCodeOfRow.holds Try.pinned (OpenSpec.ofChange fnExactCodeOfSpec)

/-- ITS FALSE NEIGHBOUR: 'it returns false'. Refute it at one input. -/
def fnExactCodeOfWrong : ChangeSpec := { name := "fnExactCodeOf", fn := fun _ => fun
  | [d1, d2] => { results := [.lit (.bool false)], args := [d1, d2] }
  | _ => none }
def FnExactCodeOfWrongFalsely : Prop := fnExactCodeOfRow.holds Try.pinned (OpenSpec.ofChange fnExactCodeOfWrong)

/- THE SECOND FORM. 'bulk': how many values and letters a reading holds, each counted each time it is reached (what is shared counts as often as it is met; a slice's spare places count too). A statement '..UptoSaid' is the law's where the arguments, and the package variables that the reading takes, are together of bulk at most 1048576: NARROWER than '..Said'. Prove '..Said' where nothing that the law and all that it calls make is longer than what came in: it says more and counts as full. Else prove '..UptoSaid'. A law counts once. -/
mutual
def uptoBulk {H : Type} : DataW H → Nat
  | .lit (.string bytes) => bytes.length + 1
  | .lit _ => 1
  | .nil => 1
  | .ptr d => uptoBulk d + 1
  | .slice elems spare => uptoBulkAll elems + uptoBulkAll spare + 1
  | .agg parts => uptoBulkAll parts + 1
  | .iface _ d => uptoBulk d + 1
  | .map entries => uptoBulkEntries entries + 1
  | .held _ => 1
def uptoBulkAll {H : Type} : List (DataW H) → Nat
  | [] => 0
  | d :: r => uptoBulk d + uptoBulkAll r
def uptoBulkEntries {H : Type} : List (Lit × DataW H) → Nat
  | [] => 0
  | x :: r => uptoBulkEntry x + uptoBulkEntries r
def uptoBulkEntry {H : Type} : Lit × DataW H → Nat
  | (.string bytes, d) => bytes.length + uptoBulk d + 1
  | (_, d) => uptoBulk d + 1
 end
def uptoSmall : (H : Type) → List (DataW H) → Bool := fun _ ds => decide (uptoBulkAll ds ≤ 1048576)
def OpenSpec.upto (s : _root_.Go.ChangeSpec) : _root_.Go.OpenSpec := { _root_.Go.OpenSpec.ofChange s with cond := some uptoSmall }

/-- 'laws.FnExactPermutationOf', WHERE WHAT IT READS IS OF BULK AT MOST 1048576: true; the input reads as it did. -/
def fnExactPermutationOfUptoRow : OpenClaim := { program := "yteohpelbkmdlmaa", sum := "b6e884904cea24512fe132e14ac922603fd3bc49605f3542fbc5ee0a4061a6a8", func := "loop.example/g00878/laws.FnExactPermutationOf", spec := "fnExactPermutationOf", apart := false, narrowed := true }
def FnExactPermutationOfUptoSaid : Prop := fnExactPermutationOfUptoRow.holds Try.pinned (OpenSpec.upto fnExactPermutationOfSpec)

/-- 'laws.FnExactCountVotes', WHERE WHAT IT READS IS OF BULK AT MOST 1048576: true; the input reads as it did. -/
def fnExactCountVotesUptoRow : OpenClaim := { program := "yteohpelbkmdlmaa", sum := "b6e884904cea24512fe132e14ac922603fd3bc49605f3542fbc5ee0a4061a6a8", func := "loop.example/g00878/laws.FnExactCountVotes", spec := "fnExactCountVotes", apart := false, narrowed := true }
def FnExactCountVotesUptoSaid : Prop := fnExactCountVotesUptoRow.holds Try.pinned (OpenSpec.upto fnExactCountVotesSpec)

/-- 'laws.FnExactSignOf', WHERE WHAT IT READS IS OF BULK AT MOST 1048576: true; the input reads as it did. -/
def fnExactSignOfUptoRow : OpenClaim := { program := "yteohpelbkmdlmaa", sum := "b6e884904cea24512fe132e14ac922603fd3bc49605f3542fbc5ee0a4061a6a8", func := "loop.example/g00878/laws.FnExactSignOf", spec := "fnExactSignOf", unfollowed := true, recurses := true, apart := false, narrowed := true }
def FnExactSignOfUptoSaid : Prop := fnExactSignOfUptoRow.holds Try.pinned (OpenSpec.upto fnExactSignOfSpec)

/-- 'laws.FnExactChainOf', WHERE WHAT IT READS IS OF BULK AT MOST 1048576: true; the input reads as it did. -/
def fnExactChainOfUptoRow : OpenClaim := { program := "yteohpelbkmdlmaa", sum := "b6e884904cea24512fe132e14ac922603fd3bc49605f3542fbc5ee0a4061a6a8", func := "loop.example/g00878/laws.FnExactChainOf", spec := "fnExactChainOf", unfollowed := true, recurses := true, apart := false, narrowed := true }
def FnExactChainOfUptoSaid : Prop := fnExactChainOfUptoRow.holds Try.pinned (OpenSpec.upto fnExactChainOfSpec)

/-- 'laws.FnExactCheckChain', WHERE WHAT IT READS IS OF BULK AT MOST 1048576: true; the input reads as it did. -/
def fnExactCheckChainUptoRow : OpenClaim := { program := "yteohpelbkmdlmaa", sum := "b6e884904cea24512fe132e14ac922603fd3bc49605f3542fbc5ee0a4061a6a8", func := "loop.example/g00878/laws.FnExactCheckChain", spec := "fnExactCheckChain", unfollowed := true, recurses := true, apart := false, narrowed := true }
def FnExactCheckChainUptoSaid : Prop := fnExactCheckChainUptoRow.holds Try.pinned (OpenSpec.upto fnExactCheckChainSpec)

/-- 'laws.FnExactMatrixOf', WHERE WHAT IT READS IS OF BULK AT MOST 1048576: true; the input reads as it did. -/
def fnExactMatrixOfUptoRow : OpenClaim := { program := "yteohpelbkmdlmaa", sum := "b6e884904cea24512fe132e14ac922603fd3bc49605f3542fbc5ee0a4061a6a8", func := "loop.example/g00878/laws.FnExactMatrixOf", spec := "fnExactMatrixOf", unfollowed := true, recurses := true, apart := false, narrowed := true }
def FnExactMatrixOfUptoSaid : Prop := fnExactMatrixOfUptoRow.holds Try.pinned (OpenSpec.upto fnExactMatrixOfSpec)

/-- 'laws.FnExactCyclesOf', WHERE WHAT IT READS IS OF BULK AT MOST 1048576: true; the input reads as it did. -/
def fnExactCyclesOfUptoRow : OpenClaim := { program := "yteohpelbkmdlmaa", sum := "b6e884904cea24512fe132e14ac922603fd3bc49605f3542fbc5ee0a4061a6a8", func := "loop.example/g00878/laws.FnExactCyclesOf", spec := "fnExactCyclesOf", unfollowed := true, recurses := true, apart := false, narrowed := true }
def FnExactCyclesOfUptoSaid : Prop := fnExactCyclesOfUptoRow.holds Try.pinned (OpenSpec.upto fnExactCyclesOfSpec)

/-- 'laws.FnExactPermuteCiphers', WHERE WHAT IT READS IS OF BULK AT MOST 1048576: true; the input reads as it did. -/
def fnExactPermuteCiphersUptoRow : OpenClaim := { program := "yteohpelbkmdlmaa", sum := "b6e884904cea24512fe132e14ac922603fd3bc49605f3542fbc5ee0a4061a6a8", func := "loop.example/g00878/laws.FnExactPermuteCiphers", spec := "fnExactPermuteCiphers", unfollowed := true, recurses := true, apart := false, narrowed := true }
def FnExactPermuteCiphersUptoSaid : Prop := fnExactPermuteCiphersUptoRow.holds Try.pinned (OpenSpec.upto fnExactPermuteCiphersSpec)

/-- 'laws.FnExactIsValidVote', WHERE WHAT IT READS IS OF BULK AT MOST 1048576: true; the input reads as it did. -/
def fnExactIsValidVoteUptoRow : OpenClaim := { program := "yteohpelbkmdlmaa", sum := "b6e884904cea24512fe132e14ac922603fd3bc49605f3542fbc5ee0a4061a6a8", func := "loop.example/g00878/laws.FnExactIsValidVote", spec := "fnExactIsValidVote", unfollowed := true, recurses := true, apart := false, narrowed := true }
def FnExactIsValidVoteUptoSaid : Prop := fnExactIsValidVoteUptoRow.holds Try.pinned (OpenSpec.upto fnExactIsValidVoteSpec)

/-- 'laws.FnPrimes', WHERE WHAT IT READS IS OF BULK AT MOST 1048576: true; the input reads as it did. -/
def fnPrimesUptoRow : OpenClaim := { program := "yteohpelbkmdlmaa", sum := "b6e884904cea24512fe132e14ac922603fd3bc49605f3542fbc5ee0a4061a6a8", func := "loop.example/g00878/laws.FnPrimes", spec := "fnPrimes", unfollowed := true, recurses := true, apart := false, narrowed := true }
def FnPrimesUptoSaid : Prop := fnPrimesUptoRow.holds Try.pinned (OpenSpec.upto fnPrimesSpec)

/-- 'laws.FnExactIsSealable', WHERE WHAT IT READS IS OF BULK AT MOST 1048576: true; the input reads as it did. -/
def fnExactIsSealableUptoRow : OpenClaim := { program := "yteohpelbkmdlmaa", sum := "b6e884904cea24512fe132e14ac922603fd3bc49605f3542fbc5ee0a4061a6a8", func := "loop.example/g00878/laws.FnExactIsSealable", spec := "fnExactIsSealable", apart := false, narrowed := true }
def FnExactIsSealableUptoSaid : Prop := fnExactIsSealableUptoRow.holds Try.pinned (OpenSpec.upto fnExactIsSealableSpec)

/-- 'laws.FnAgreeingPoints', WHERE WHAT IT READS IS OF BULK AT MOST 1048576: true; the input reads as it did. -/
def fnAgreeingPointsUptoRow : OpenClaim := { program := "yteohpelbkmdlmaa", sum := "b6e884904cea24512fe132e14ac922603fd3bc49605f3542fbc5ee0a4061a6a8", func := "loop.example/g00878/laws.FnAgreeingPoints", spec := "fnAgreeingPoints", unfollowed := true, recurses := true, apart := false, narrowed := true }
def FnAgreeingPointsUptoSaid : Prop := fnAgreeingPointsUptoRow.holds Try.pinned (OpenSpec.upto fnAgreeingPointsSpec)

/-- 'laws.FnExactPermutationOfMatrix', WHERE WHAT IT READS IS OF BULK AT MOST 1048576: true; the input reads as it did. -/
def fnExactPermutationOfMatrixUptoRow : OpenClaim := { program := "yteohpelbkmdlmaa", sum := "b6e884904cea24512fe132e14ac922603fd3bc49605f3542fbc5ee0a4061a6a8", func := "loop.example/g00878/laws.FnExactPermutationOfMatrix", spec := "fnExactPermutationOfMatrix", unfollowed := true, recurses := true, apart := false, narrowed := true }
def FnExactPermutationOfMatrixUptoSaid : Prop := fnExactPermutationOfMatrixUptoRow.holds Try.pinned (OpenSpec.upto fnExactPermutationOfMatrixSpec)

/-- 'laws.FnGroups', WHERE WHAT IT READS IS OF BULK AT MOST 1048576: true; the input reads as it did. -/
def fnGroupsUptoRow : OpenClaim := { program := "yteohpelbkmdlmaa", sum := "b6e884904cea24512fe132e14ac922603fd3bc49605f3542fbc5ee0a4061a6a8", func := "loop.example/g00878/laws.FnGroups", spec := "fnGroups", unfollowed := true, recurses := true, apart := false, narrowed := true }
def FnGroupsUptoSaid : Prop := fnGroupsUptoRow.holds Try.pinned (OpenSpec.upto fnGroupsSpec)

/-- 'laws.FnResidues', WHERE WHAT IT READS IS OF BULK AT MOST 1048576: true; the input reads as it did. -/
def fnResiduesUptoRow : OpenClaim := { program := "yteohpelbkmdlmaa", sum := "b6e884904cea24512fe132e14ac922603fd3bc49605f3542fbc5ee0a4061a6a8", func := "loop.example/g00878/laws.FnResidues", spec := "fnResidues", unfollowed := true, recurses := true, apart := false, narrowed := true }
def FnResiduesUptoSaid : Prop := fnResiduesUptoRow.holds Try.pinned (OpenSpec.upto fnResiduesSpec)

/-- 'laws.FnPolynomials', WHERE WHAT IT READS IS OF BULK AT MOST 1048576: true; the input reads as it did. -/
def fnPolynomialsUptoRow : OpenClaim := { program := "yteohpelbkmdlmaa", sum := "b6e884904cea24512fe132e14ac922603fd3bc49605f3542fbc5ee0a4061a6a8", func := "loop.example/g00878/laws.FnPolynomials", spec := "fnPolynomials", unfollowed := true, recurses := true, apart := false, narrowed := true }
def FnPolynomialsUptoSaid : Prop := fnPolynomialsUptoRow.holds Try.pinned (OpenSpec.upto fnPolynomialsSpec)

/-- 'laws.FnPermutations', WHERE WHAT IT READS IS OF BULK AT MOST 1048576: true; the input reads as it did. -/
def fnPermutationsUptoRow : OpenClaim := { program := "yteohpelbkmdlmaa", sum := "b6e884904cea24512fe132e14ac922603fd3bc49605f3542fbc5ee0a4061a6a8", func := "loop.example/g00878/laws.FnPermutations", spec := "fnPermutations", unfollowed := true, recurses := true, apart := false, narrowed := true }
def FnPermutationsUptoSaid : Prop := fnPermutationsUptoRow.holds Try.pinned (OpenSpec.upto fnPermutationsSpec)

/-- 'laws.FnExactCodeOf', WHERE WHAT IT READS IS OF BULK AT MOST 1048576: true; the input reads as it did. -/
def fnExactCodeOfUptoRow : OpenClaim := { program := "yteohpelbkmdlmaa", sum := "b6e884904cea24512fe132e14ac922603fd3bc49605f3542fbc5ee0a4061a6a8", func := "loop.example/g00878/laws.FnExactCodeOf", spec := "fnExactCodeOf", unfollowed := true, recurses := true, apart := false, narrowed := true }
def FnExactCodeOfUptoSaid : Prop := fnExactCodeOfUptoRow.holds Try.pinned (OpenSpec.upto fnExactCodeOfSpec)

end Rows
end Go.Proofs.Yteohpelbkmdlmaa

/-
  No cell of these rows narrows 'for every input' (looked for: loops, veiled, ifaces, maps, wideKeys, modest, calm, conditions, laid).
  DERIVED. THE GIVEN ROWS OF THIS SEAT. 13 by the template 'for every input the law returns true; each argument reads behind the call as it read before'; 0 by the template 'total and deterministic' (their statements: YticimniegecfeaaTotals.lean).
  GIVEN WITH THE SEED: the statements are not yours to turn. If you find one false, say at which input.
  Laid BY PROGRAM, IN A SANDBOX (cutbox-rows.mjs): the forced cells as the released guide's own fill.sh prints them over the translation 73aacf261951172e… (all of the seat's roots in one cut). By AI agents, Wed Nov 11 2026. No macro, syntax, notation, axiom, sorry.
-/
import Derived.Test.YticimniegecfeaaChecked
import GoSem.Claim
import GoSem.ClaimJoined
import GoSem.ClaimMapViews
import Derived.JoinedTies
import Derived.KernelRfl
namespace Go.Proofs.Yticimniegecfeaa
/- THE CELL 'sum', in the pinned program and in every row, IS THE sha256 OF THE DUMP (.gsa) THAT YticimniegecfeaaProg.lean LOADS. Nothing in Lean hashes anything: it is a label: what it is worth is what the hold of that sum in a sandbox is worth. -/
noncomputable def Try.pinned : Pinned := { name := "yticimniegecfeaa", sum := "73aacf261951172ec960a28fec6cd0986936a51c206e1bea86968ed4e1c3fb57", checked := Try.checked }
namespace Rows
def none {H : Type} : Left H := { results := [], args := [] }

/-- 'laws.FnExactPermutationOf': WHATEVER THE INPUT: true; the input reads as it did. -/
def fnExactPermutationOfSpec : ChangeSpec := { name := "fnExactPermutationOf", fn := fun _ => fun
  | [d1, d2] => { results := [.lit (.bool true)], args := [d1, d2] }
  | _ => none }
def fnExactPermutationOfRow : OpenClaim := { program := "yticimniegecfeaa", sum := "73aacf261951172ec960a28fec6cd0986936a51c206e1bea86968ed4e1c3fb57", func := "loop.example/g00878/laws.FnExactPermutationOf", spec := "fnExactPermutationOf", apart := false }
def FnExactPermutationOfSaid : Prop := fnExactPermutationOfRow.holds Try.pinned (OpenSpec.ofChange fnExactPermutationOfSpec)

/-- ITS FALSE NEIGHBOUR: 'it returns false'. Refute it at one input. -/
def fnExactPermutationOfWrong : ChangeSpec := { name := "fnExactPermutationOf", fn := fun _ => fun
  | [d1, d2] => { results := [.lit (.bool false)], args := [d1, d2] }
  | _ => none }
def FnExactPermutationOfWrongFalsely : Prop := fnExactPermutationOfRow.holds Try.pinned (OpenSpec.ofChange fnExactPermutationOfWrong)

/-- 'laws.FnPrimes': WHATEVER THE INPUT: true; the input reads as it did. -/
def fnPrimesSpec : ChangeSpec := { name := "fnPrimes", fn := fun _ => fun
  | [d1, d2] => { results := [.lit (.bool true)], args := [d1, d2] }
  | _ => none }
def fnPrimesRow : OpenClaim := { program := "yticimniegecfeaa", sum := "73aacf261951172ec960a28fec6cd0986936a51c206e1bea86968ed4e1c3fb57", func := "loop.example/g00878/laws.FnPrimes", spec := "fnPrimes", unfollowed := true, recurses := true, apart := false }
def FnPrimesSaid : Prop := fnPrimesRow.holds Try.pinned (OpenSpec.ofChange fnPrimesSpec)

/-- ITS FALSE NEIGHBOUR: 'it returns false'. Refute it at one input. -/
def fnPrimesWrong : ChangeSpec := { name := "fnPrimes", fn := fun _ => fun
  | [d1, d2] => { results := [.lit (.bool false)], args := [d1, d2] }
  | _ => none }
def FnPrimesWrongFalsely : Prop := fnPrimesRow.holds Try.pinned (OpenSpec.ofChange fnPrimesWrong)

/-- 'laws.FnGroups': WHATEVER THE INPUT: true; the input reads as it did. -/
def fnGroupsSpec : ChangeSpec := { name := "fnGroups", fn := fun _ => fun
  | [d1, d2] => { results := [.lit (.bool true)], args := [d1, d2] }
  | _ => none }
def fnGroupsRow : OpenClaim := { program := "yticimniegecfeaa", sum := "73aacf261951172ec960a28fec6cd0986936a51c206e1bea86968ed4e1c3fb57", func := "loop.example/g00878/laws.FnGroups", spec := "fnGroups", unfollowed := true, recurses := true, apart := false }
def FnGroupsSaid : Prop := fnGroupsRow.holds Try.pinned (OpenSpec.ofChange fnGroupsSpec)

/-- ITS FALSE NEIGHBOUR: 'it returns false'. Refute it at one input. -/
def fnGroupsWrong : ChangeSpec := { name := "fnGroups", fn := fun _ => fun
  | [d1, d2] => { results := [.lit (.bool false)], args := [d1, d2] }
  | _ => none }
def FnGroupsWrongFalsely : Prop := fnGroupsRow.holds Try.pinned (OpenSpec.ofChange fnGroupsWrong)

/-- 'laws.FnResidues': WHATEVER THE INPUT: true; the input reads as it did. -/
def fnResiduesSpec : ChangeSpec := { name := "fnResidues", fn := fun _ => fun
  | [d1, d2] => { results := [.lit (.bool true)], args := [d1, d2] }
  | _ => none }
def fnResiduesRow : OpenClaim := { program := "yticimniegecfeaa", sum := "73aacf261951172ec960a28fec6cd0986936a51c206e1bea86968ed4e1c3fb57", func := "loop.example/g00878/laws.FnResidues", spec := "fnResidues", unfollowed := true, recurses := true, apart := false }
def FnResiduesSaid : Prop := fnResiduesRow.holds Try.pinned (OpenSpec.ofChange fnResiduesSpec)

/-- ITS FALSE NEIGHBOUR: 'it returns false'. Refute it at one input. -/
def fnResiduesWrong : ChangeSpec := { name := "fnResidues", fn := fun _ => fun
  | [d1, d2] => { results := [.lit (.bool false)], args := [d1, d2] }
  | _ => none }
def FnResiduesWrongFalsely : Prop := fnResiduesRow.holds Try.pinned (OpenSpec.ofChange fnResiduesWrong)

/-- 'laws.FnPolynomials': WHATEVER THE INPUT: true; the input reads as it did. -/
def fnPolynomialsSpec : ChangeSpec := { name := "fnPolynomials", fn := fun _ => fun
  | [d1, d2] => { results := [.lit (.bool true)], args := [d1, d2] }
  | _ => none }
def fnPolynomialsRow : OpenClaim := { program := "yticimniegecfeaa", sum := "73aacf261951172ec960a28fec6cd0986936a51c206e1bea86968ed4e1c3fb57", func := "loop.example/g00878/laws.FnPolynomials", spec := "fnPolynomials", unfollowed := true, recurses := true, apart := false }
def FnPolynomialsSaid : Prop := fnPolynomialsRow.holds Try.pinned (OpenSpec.ofChange fnPolynomialsSpec)

/-- ITS FALSE NEIGHBOUR: 'it returns false'. Refute it at one input. -/
def fnPolynomialsWrong : ChangeSpec := { name := "fnPolynomials", fn := fun _ => fun
  | [d1, d2] => { results := [.lit (.bool false)], args := [d1, d2] }
  | _ => none }
def FnPolynomialsWrongFalsely : Prop := fnPolynomialsRow.holds Try.pinned (OpenSpec.ofChange fnPolynomialsWrong)

/-- 'laws.FnEncryption': WHATEVER THE INPUT: true; the input reads as it did. -/
def fnEncryptionSpec : ChangeSpec := { name := "fnEncryption", fn := fun _ => fun
  | [d1, d2] => { results := [.lit (.bool true)], args := [d1, d2] }
  | _ => none }
def fnEncryptionRow : OpenClaim := { program := "yticimniegecfeaa", sum := "73aacf261951172ec960a28fec6cd0986936a51c206e1bea86968ed4e1c3fb57", func := "loop.example/g00878/laws.FnEncryption", spec := "fnEncryption", unfollowed := true, recurses := true, apart := false }
def FnEncryptionSaid : Prop := fnEncryptionRow.holds Try.pinned (OpenSpec.ofChange fnEncryptionSpec)

/-- ITS FALSE NEIGHBOUR: 'it returns false'. Refute it at one input. -/
def fnEncryptionWrong : ChangeSpec := { name := "fnEncryption", fn := fun _ => fun
  | [d1, d2] => { results := [.lit (.bool false)], args := [d1, d2] }
  | _ => none }
def FnEncryptionWrongFalsely : Prop := fnEncryptionRow.holds Try.pinned (OpenSpec.ofChange fnEncryptionWrong)

/-- 'laws.FnRanks': WHATEVER THE INPUT: true; the input reads as it did. -/
def fnRanksSpec : ChangeSpec := { name := "fnRanks", fn := fun _ => fun
  | [d1, d2] => { results := [.lit (.bool true)], args := [d1, d2] }
  | _ => none }
def fnRanksRow : OpenClaim := { program := "yticimniegecfeaa", sum := "73aacf261951172ec960a28fec6cd0986936a51c206e1bea86968ed4e1c3fb57", func := "loop.example/g00878/laws.FnRanks", spec := "fnRanks", unfollowed := true, recurses := true, apart := false }
def FnRanksSaid : Prop := fnRanksRow.holds Try.pinned (OpenSpec.ofChange fnRanksSpec)

/-- ITS FALSE NEIGHBOUR: 'it returns false'. Refute it at one input. -/
def fnRanksWrong : ChangeSpec := { name := "fnRanks", fn := fun _ => fun
  | [d1, d2] => { results := [.lit (.bool false)], args := [d1, d2] }
  | _ => none }
def FnRanksWrongFalsely : Prop := fnRanksRow.holds Try.pinned (OpenSpec.ofChange fnRanksWrong)

/-- 'laws.FnExactChainCommits': WHATEVER THE INPUT: true; the input reads as it did. -/
def fnExactChainCommitsSpec : ChangeSpec := { name := "fnExactChainCommits", fn := fun _ => fun
  | [d1, d2, d3] => { results := [.lit (.bool true)], args := [d1, d2, d3] }
  | _ => none }
def fnExactChainCommitsRow : OpenClaim := { program := "yticimniegecfeaa", sum := "73aacf261951172ec960a28fec6cd0986936a51c206e1bea86968ed4e1c3fb57", func := "loop.example/g00878/laws.FnExactChainCommits", spec := "fnExactChainCommits", unfollowed := true, recurses := true, apart := false }
def FnExactChainCommitsSaid : Prop := fnExactChainCommitsRow.holds Try.pinned (OpenSpec.ofChange fnExactChainCommitsSpec)

/-- ITS FALSE NEIGHBOUR: 'it returns false'. Refute it at one input. -/
def fnExactChainCommitsWrong : ChangeSpec := { name := "fnExactChainCommits", fn := fun _ => fun
  | [d1, d2, d3] => { results := [.lit (.bool false)], args := [d1, d2, d3] }
  | _ => none }
def FnExactChainCommitsWrongFalsely : Prop := fnExactChainCommitsRow.holds Try.pinned (OpenSpec.ofChange fnExactChainCommitsWrong)

/-- 'laws.FnExactExponentsOf': WHATEVER THE INPUT: true; the input reads as it did. -/
def fnExactExponentsOfSpec : ChangeSpec := { name := "fnExactExponentsOf", fn := fun _ => fun
  | [d1, d2] => { results := [.lit (.bool true)], args := [d1, d2] }
  | _ => none }
def fnExactExponentsOfRow : OpenClaim := { program := "yticimniegecfeaa", sum := "73aacf261951172ec960a28fec6cd0986936a51c206e1bea86968ed4e1c3fb57", func := "loop.example/g00878/laws.FnExactExponentsOf", spec := "fnExactExponentsOf", unfollowed := true, recurses := true, apart := false }
def FnExactExponentsOfSaid : Prop := fnExactExponentsOfRow.holds Try.pinned (OpenSpec.ofChange fnExactExponentsOfSpec)

/-- ITS FALSE NEIGHBOUR: 'it returns false'. Refute it at one input. -/
def fnExactExponentsOfWrong : ChangeSpec := { name := "fnExactExponentsOf", fn := fun _ => fun
  | [d1, d2] => { results := [.lit (.bool false)], args := [d1, d2] }
  | _ => none }
def FnExactExponentsOfWrongFalsely : Prop := fnExactExponentsOfRow.holds Try.pinned (OpenSpec.ofChange fnExactExponentsOfWrong)

/-- 'laws.FnVoteCounts': WHATEVER THE INPUT: true; the input reads as it did. -/
def fnVoteCountsSpec : ChangeSpec := { name := "fnVoteCounts", fn := fun _ => fun
  | [d1, d2] => { results := [.lit (.bool true)], args := [d1, d2] }
  | _ => none }
def fnVoteCountsRow : OpenClaim := { program := "yticimniegecfeaa", sum := "73aacf261951172ec960a28fec6cd0986936a51c206e1bea86968ed4e1c3fb57", func := "loop.example/g00878/laws.FnVoteCounts", spec := "fnVoteCounts", apart := false }
def FnVoteCountsSaid : Prop := fnVoteCountsRow.holds Try.pinned (OpenSpec.ofChange fnVoteCountsSpec)

/-- ITS FALSE NEIGHBOUR: 'it returns false'. Refute it at one input. -/
def fnVoteCountsWrong : ChangeSpec := { name := "fnVoteCounts", fn := fun _ => fun
  | [d1, d2] => { results := [.lit (.bool false)], args := [d1, d2] }
  | _ => none }
def FnVoteCountsWrongFalsely : Prop := fnVoteCountsRow.holds Try.pinned (OpenSpec.ofChange fnVoteCountsWrong)

/-- 'laws.FnExtraction': WHATEVER THE INPUT: true; the input reads as it did. -/
def fnExtractionSpec : ChangeSpec := { name := "fnExtraction", fn := fun _ => fun
  | [d1, d2] => { results := [.lit (.bool true)], args := [d1, d2] }
  | _ => none }
def fnExtractionRow : OpenClaim := { program := "yticimniegecfeaa", sum := "73aacf261951172ec960a28fec6cd0986936a51c206e1bea86968ed4e1c3fb57", func := "loop.example/g00878/laws.FnExtraction", spec := "fnExtraction", unfollowed := true, recurses := true, apart := false }
def FnExtractionSaid : Prop := fnExtractionRow.holds Try.pinned (OpenSpec.ofChange fnExtractionSpec)

/-- ITS FALSE NEIGHBOUR: 'it returns false'. Refute it at one input. -/
def fnExtractionWrong : ChangeSpec := { name := "fnExtraction", fn := fun _ => fun
  | [d1, d2] => { results := [.lit (.bool false)], args := [d1, d2] }
  | _ => none }
def FnExtractionWrongFalsely : Prop := fnExtractionRow.holds Try.pinned (OpenSpec.ofChange fnExtractionWrong)

/-- 'laws.FnDerived': WHATEVER THE INPUT: true; the input reads as it did. -/
def fnDerivedSpec : ChangeSpec := { name := "fnDerived", fn := fun _ => fun
  | [d1, d2] => { results := [.lit (.bool true)], args := [d1, d2] }
  | _ => none }
def fnDerivedRow : OpenClaim := { program := "yticimniegecfeaa", sum := "73aacf261951172ec960a28fec6cd0986936a51c206e1bea86968ed4e1c3fb57", func := "loop.example/g00878/laws.FnDerived", spec := "fnDerived", unfollowed := true, recurses := true, apart := false }
def FnDerivedSaid : Prop := fnDerivedRow.holds Try.pinned (OpenSpec.ofChange fnDerivedSpec)

/-- ITS FALSE NEIGHBOUR: 'it returns false'. Refute it at one input. -/
def fnDerivedWrong : ChangeSpec := { name := "fnDerived", fn := fun _ => fun
  | [d1, d2] => { results := [.lit (.bool false)], args := [d1, d2] }
  | _ => none }
def FnDerivedWrongFalsely : Prop := fnDerivedRow.holds Try.pinned (OpenSpec.ofChange fnDerivedWrong)

/-- 'laws.FnExactDecodeVote': WHATEVER THE INPUT: true; the input reads as it did. -/
def fnExactDecodeVoteSpec : ChangeSpec := { name := "fnExactDecodeVote", fn := fun _ => fun
  | [d1, d2] => { results := [.lit (.bool true)], args := [d1, d2] }
  | _ => none }
def fnExactDecodeVoteRow : OpenClaim := { program := "yticimniegecfeaa", sum := "73aacf261951172ec960a28fec6cd0986936a51c206e1bea86968ed4e1c3fb57", func := "loop.example/g00878/laws.FnExactDecodeVote", spec := "fnExactDecodeVote", unfollowed := true, recurses := true, apart := false }
def FnExactDecodeVoteSaid : Prop := fnExactDecodeVoteRow.holds Try.pinned (OpenSpec.ofChange fnExactDecodeVoteSpec)

/-- ITS FALSE NEIGHBOUR: 'it returns false'. Refute it at one input. -/
def fnExactDecodeVoteWrong : ChangeSpec := { name := "fnExactDecodeVote", fn := fun _ => fun
  | [d1, d2] => { results := [.lit (.bool false)], args := [d1, d2] }
  | _ => none }
def FnExactDecodeVoteWrongFalsely : Prop := fnExactDecodeVoteRow.holds Try.pinned (OpenSpec.ofChange fnExactDecodeVoteWrong)

/- THE SECOND FORM. 'bulk': how many values and letters a reading holds, each counted each time it is reached (what is shared counts as often as it is met; a slice's spare places count too). A statement '..UptoSaid' is the law's where the arguments, and the package variables that the reading takes, are together of bulk at most 1048576: NARROWER than '..Said'. Prove '..Said' where nothing that the law and all that it calls make is longer than what came in: it says more and counts as full. Else prove '..UptoSaid'. A law counts once. -/
mutual
def uptoBulk {H : Type} : DataW H → Nat
  | .lit (.string bytes) => bytes.length + 1
  | .lit _ => 1
  | .nil => 1
  | .ptr d => uptoBulk d + 1
  | .slice elems spare => uptoBulkAll elems + uptoBulkAll spare + 1
  | .agg parts => uptoBulkAll parts + 1
  | .iface _ d => uptoBulk d + 1
  | .map entries => uptoBulkEntries entries + 1
  | .held _ => 1
def uptoBulkAll {H : Type} : List (DataW H) → Nat
  | [] => 0
  | d :: r => uptoBulk d + uptoBulkAll r
def uptoBulkEntries {H : Type} : List (Lit × DataW H) → Nat
  | [] => 0
  | x :: r => uptoBulkEntry x + uptoBulkEntries r
def uptoBulkEntry {H : Type} : Lit × DataW H → Nat
  | (.string bytes, d) => bytes.length + uptoBulk d + 1
  | (_, d) => uptoBulk d + 1
 end
def uptoSmall : (H : Type) → List (DataW H) → Bool := fun _ ds => decide (uptoBulkAll ds ≤ 1048576)
def OpenSpec.upto (s : _root_.Go.ChangeSpec) : _root_.Go.OpenSpec := { _root_.Go.OpenSpec.ofChange s with cond := some uptoSmall }

/-- 'laws.FnExactPermutationOf', WHERE WHAT IT READS IS OF BULK AT MOST 1048576: true; the input reads as it did. -/
def fnExactPermutationOfUptoRow : OpenClaim := { program := "yticimniegecfeaa", sum := "73aacf261951172ec960a28fec6cd0986936a51c206e1bea86968ed4e1c3fb57", func := "loop.example/g00878/laws.FnExactPermutationOf", spec := "fnExactPermutationOf", apart := false, narrowed := true }
def FnExactPermutationOfUptoSaid : Prop := fnExactPermutationOfUptoRow.holds Try.pinned (OpenSpec.upto fnExactPermutationOfSpec)

/-- 'laws.FnPrimes', WHERE WHAT IT READS IS OF BULK AT MOST 1048576: true; the input reads as it did. -/
def fnPrimesUptoRow : OpenClaim := { program := "yticimniegecfeaa", sum := "73aacf261951172ec960a28fec6cd0986936a51c206e1bea86968ed4e1c3fb57", func := "loop.example/g00878/laws.FnPrimes", spec := "fnPrimes", unfollowed := true, recurses := true, apart := false, narrowed := true }
def FnPrimesUptoSaid : Prop := fnPrimesUptoRow.holds Try.pinned (OpenSpec.upto fnPrimesSpec)

/-- 'laws.FnGroups', WHERE WHAT IT READS IS OF BULK AT MOST 1048576: true; the input reads as it did. -/
def fnGroupsUptoRow : OpenClaim := { program := "yticimniegecfeaa", sum := "73aacf261951172ec960a28fec6cd0986936a51c206e1bea86968ed4e1c3fb57", func := "loop.example/g00878/laws.FnGroups", spec := "fnGroups", unfollowed := true, recurses := true, apart := false, narrowed := true }
def FnGroupsUptoSaid : Prop := fnGroupsUptoRow.holds Try.pinned (OpenSpec.upto fnGroupsSpec)

/-- 'laws.FnResidues', WHERE WHAT IT READS IS OF BULK AT MOST 1048576: true; the input reads as it did. -/
def fnResiduesUptoRow : OpenClaim := { program := "yticimniegecfeaa", sum := "73aacf261951172ec960a28fec6cd0986936a51c206e1bea86968ed4e1c3fb57", func := "loop.example/g00878/laws.FnResidues", spec := "fnResidues", unfollowed := true, recurses := true, apart := false, narrowed := true }
def FnResiduesUptoSaid : Prop := fnResiduesUptoRow.holds Try.pinned (OpenSpec.upto fnResiduesSpec)

/-- 'laws.FnPolynomials', WHERE WHAT IT READS IS OF BULK AT MOST 1048576: true; the input reads as it did. -/
def fnPolynomialsUptoRow : OpenClaim := { program := "yticimniegecfeaa", sum := "73aacf261951172ec960a28fec6cd0986936a51c206e1bea86968ed4e1c3fb57", func := "loop.example/g00878/laws.FnPolynomials", spec := "fnPolynomials", unfollowed := true, recurses := true, apart := false, narrowed := true }
def FnPolynomialsUptoSaid : Prop := fnPolynomialsUptoRow.holds Try.pinned (OpenSpec.upto fnPolynomialsSpec)

/-- 'laws.FnEncryption', WHERE WHAT IT READS IS OF BULK AT MOST 1048576: true; the input reads as it did. -/
def fnEncryptionUptoRow : OpenClaim := { program := "yticimniegecfeaa", sum := "73aacf261951172ec960a28fec6cd0986936a51c206e1bea86968ed4e1c3fb57", func := "loop.example/g00878/laws.FnEncryption", spec := "fnEncryption", unfollowed := true, recurses := true, apart := false, narrowed := true }
def FnEncryptionUptoSaid : Prop := fnEncryptionUptoRow.holds Try.pinned (OpenSpec.upto fnEncryptionSpec)

/-- 'laws.FnRanks', WHERE WHAT IT READS IS OF BULK AT MOST 1048576: true; the input reads as it did. -/
def fnRanksUptoRow : OpenClaim := { program := "yticimniegecfeaa", sum := "73aacf261951172ec960a28fec6cd0986936a51c206e1bea86968ed4e1c3fb57", func := "loop.example/g00878/laws.FnRanks", spec := "fnRanks", unfollowed := true, recurses := true, apart := false, narrowed := true }
def FnRanksUptoSaid : Prop := fnRanksUptoRow.holds Try.pinned (OpenSpec.upto fnRanksSpec)

/-- 'laws.FnExactChainCommits', WHERE WHAT IT READS IS OF BULK AT MOST 1048576: true; the input reads as it did. -/
def fnExactChainCommitsUptoRow : OpenClaim := { program := "yticimniegecfeaa", sum := "73aacf261951172ec960a28fec6cd0986936a51c206e1bea86968ed4e1c3fb57", func := "loop.example/g00878/laws.FnExactChainCommits", spec := "fnExactChainCommits", unfollowed := true, recurses := true, apart := false, narrowed := true }
def FnExactChainCommitsUptoSaid : Prop := fnExactChainCommitsUptoRow.holds Try.pinned (OpenSpec.upto fnExactChainCommitsSpec)

/-- 'laws.FnExactExponentsOf', WHERE WHAT IT READS IS OF BULK AT MOST 1048576: true; the input reads as it did. -/
def fnExactExponentsOfUptoRow : OpenClaim := { program := "yticimniegecfeaa", sum := "73aacf261951172ec960a28fec6cd0986936a51c206e1bea86968ed4e1c3fb57", func := "loop.example/g00878/laws.FnExactExponentsOf", spec := "fnExactExponentsOf", unfollowed := true, recurses := true, apart := false, narrowed := true }
def FnExactExponentsOfUptoSaid : Prop := fnExactExponentsOfUptoRow.holds Try.pinned (OpenSpec.upto fnExactExponentsOfSpec)

/-- 'laws.FnVoteCounts', WHERE WHAT IT READS IS OF BULK AT MOST 1048576: true; the input reads as it did. -/
def fnVoteCountsUptoRow : OpenClaim := { program := "yticimniegecfeaa", sum := "73aacf261951172ec960a28fec6cd0986936a51c206e1bea86968ed4e1c3fb57", func := "loop.example/g00878/laws.FnVoteCounts", spec := "fnVoteCounts", apart := false, narrowed := true }
def FnVoteCountsUptoSaid : Prop := fnVoteCountsUptoRow.holds Try.pinned (OpenSpec.upto fnVoteCountsSpec)

/-- 'laws.FnExtraction', WHERE WHAT IT READS IS OF BULK AT MOST 1048576: true; the input reads as it did. -/
def fnExtractionUptoRow : OpenClaim := { program := "yticimniegecfeaa", sum := "73aacf261951172ec960a28fec6cd0986936a51c206e1bea86968ed4e1c3fb57", func := "loop.example/g00878/laws.FnExtraction", spec := "fnExtraction", unfollowed := true, recurses := true, apart := false, narrowed := true }
def FnExtractionUptoSaid : Prop := fnExtractionUptoRow.holds Try.pinned (OpenSpec.upto fnExtractionSpec)

/-- 'laws.FnDerived', WHERE WHAT IT READS IS OF BULK AT MOST 1048576: true; the input reads as it did. -/
def fnDerivedUptoRow : OpenClaim := { program := "yticimniegecfeaa", sum := "73aacf261951172ec960a28fec6cd0986936a51c206e1bea86968ed4e1c3fb57", func := "loop.example/g00878/laws.FnDerived", spec := "fnDerived", unfollowed := true, recurses := true, apart := false, narrowed := true }
def FnDerivedUptoSaid : Prop := fnDerivedUptoRow.holds Try.pinned (OpenSpec.upto fnDerivedSpec)

/-- 'laws.FnExactDecodeVote', WHERE WHAT IT READS IS OF BULK AT MOST 1048576: true; the input reads as it did. -/
def fnExactDecodeVoteUptoRow : OpenClaim := { program := "yticimniegecfeaa", sum := "73aacf261951172ec960a28fec6cd0986936a51c206e1bea86968ed4e1c3fb57", func := "loop.example/g00878/laws.FnExactDecodeVote", spec := "fnExactDecodeVote", unfollowed := true, recurses := true, apart := false, narrowed := true }
def FnExactDecodeVoteUptoSaid : Prop := fnExactDecodeVoteUptoRow.holds Try.pinned (OpenSpec.upto fnExactDecodeVoteSpec)

end Rows
end Go.Proofs.Yticimniegecfeaa

/-
  No cell of these rows narrows 'for every input' (looked for: loops, veiled, ifaces, maps, wideKeys, modest, calm, conditions, laid).
  DERIVED. THE GIVEN ROWS OF THIS SEAT. 33 by the template 'for every input the law returns true; each argument reads behind the call as it read before'; 0 by the template 'total and deterministic' (their statements: YtlalpblinhhnlaaTotals.lean).
  GIVEN WITH THE SEED: the statements are not yours to turn. If you find one false, say at which input.
  Laid BY PROGRAM, IN A SANDBOX (cutbox-rows.mjs): the forced cells as the released guide's own fill.sh prints them over the translation 84f5c5a4368c0e75… (all of the seat's roots in one cut). By AI agents, Wed Nov 11 2026. No macro, syntax, notation, axiom, sorry.
-/
import Derived.Test.YtlalpblinhhnlaaChecked
import GoSem.Claim
import GoSem.ClaimJoined
import GoSem.ClaimMapViews
import Derived.JoinedTies
import Derived.KernelRfl
namespace Go.Proofs.Ytlalpblinhhnlaa
/- THE CELL 'sum', in the pinned program and in every row, IS THE sha256 OF THE DUMP (.gsa) THAT YtlalpblinhhnlaaProg.lean LOADS. Nothing in Lean hashes anything: it is a label: what it is worth is what the hold of that sum in a sandbox is worth. -/
noncomputable def Try.pinned : Pinned := { name := "ytlalpblinhhnlaa", sum := "84f5c5a4368c0e75951f4c64cc47a3e8613672209b790f42568d56ff6160ed06", checked := Try.checked }
namespace Rows
def none {H : Type} : Left H := { results := [], args := [] }

/-- 'laws.FnExactIsValidContest': WHATEVER THE INPUT: true; the input reads as it did. -/
def fnExactIsValidContestSpec : ChangeSpec := { name := "fnExactIsValidContest", fn := fun _ => fun
  | [d] => { results := [.lit (.bool true)], args := [d] }
  | _ => none }
def fnExactIsValidContestRow : OpenClaim := { program := "ytlalpblinhhnlaa", sum := "84f5c5a4368c0e75951f4c64cc47a3e8613672209b790f42568d56ff6160ed06", func := "loop.example/g00878/laws.FnExactIsValidContest", spec := "fnExactIsValidContest", apart := false }
def FnExactIsValidContestSaid : Prop := fnExactIsValidContestRow.holds Try.pinned (OpenSpec.ofChange fnExactIsValidContestSpec)

/-- ITS FALSE NEIGHBOUR: 'it returns false'. Refute it at one input. -/
def fnExactIsValidContestWrong : ChangeSpec := { name := "fnExactIsValidContest", fn := fun _ => fun
  | [d] => { results := [.lit (.bool false)], args := [d] }
  | _ => none }
def FnExactIsValidContestWrongFalsely : Prop := fnExactIsValidContestRow.holds Try.pinned (OpenSpec.ofChange fnExactIsValidContestWrong)

/-- 'laws.FnExactUndetectedWays': WHATEVER THE INPUT: true; the input reads as it did. -/
def fnExactUndetectedWaysSpec : ChangeSpec := { name := "fnExactUndetectedWays", fn := fun _ => fun
  | [d1, d2, d3] => { results := [.lit (.bool true)], args := [d1, d2, d3] }
  | _ => none }
def fnExactUndetectedWaysRow : OpenClaim := { program := "ytlalpblinhhnlaa", sum := "84f5c5a4368c0e75951f4c64cc47a3e8613672209b790f42568d56ff6160ed06", func := "loop.example/g00878/laws.FnExactUndetectedWays", spec := "fnExactUndetectedWays", apart := false }
def FnExactUndetectedWaysSaid : Prop := fnExactUndetectedWaysRow.holds Try.pinned (OpenSpec.ofChange fnExactUndetectedWaysSpec)

/-- ITS FALSE NEIGHBOUR: 'it returns false'. Refute it at one input. -/
def fnExactUndetectedWaysWrong : ChangeSpec := { name := "fnExactUndetectedWays", fn := fun _ => fun
  | [d1, d2, d3] => { results := [.lit (.bool false)], args := [d1, d2, d3] }
  | _ => none }
def FnExactUndetectedWaysWrongFalsely : Prop := fnExactUndetectedWaysRow.holds Try.pinned (OpenSpec.ofChange fnExactUndetectedWaysWrong)

/-- 'laws.FnExactDetectionChance': WHATEVER THE INPUT: true; the input reads as it did. -/
def fnExactDetectionChanceSpec : ChangeSpec := { name := "fnExactDetectionChance", fn := fun _ => fun
  | [d1, d2, d3] => { results := [.lit (.bool true)], args := [d1, d2, d3] }
  | _ => none }
def fnExactDetectionChanceRow : OpenClaim := { program := "ytlalpblinhhnlaa", sum := "84f5c5a4368c0e75951f4c64cc47a3e8613672209b790f42568d56ff6160ed06", func := "loop.example/g00878/laws.FnExactDetectionChance", spec := "fnExactDetectionChance", apart := false }
def FnExactDetectionChanceSaid : Prop := fnExactDetectionChanceRow.holds Try.pinned (OpenSpec.ofChange fnExactDetectionChanceSpec)

/-- ITS FALSE NEIGHBOUR: 'it returns false'. Refute it at one input. -/
def fnExactDetectionChanceWrong : ChangeSpec := { name := "fnExactDetectionChance", fn := fun _ => fun
  | [d1, d2, d3] => { results := [.lit (.bool false)], args := [d1, d2, d3] }
  | _ => none }
def FnExactDetectionChanceWrongFalsely : Prop := fnExactDetectionChanceRow.holds Try.pinned (OpenSpec.ofChange fnExactDetectionChanceWrong)

/-- 'laws.FnExactLeastAudits': WHATEVER THE INPUT: true; the input reads as it did. -/
def fnExactLeastAuditsSpec : ChangeSpec := { name := "fnExactLeastAudits", fn := fun _ => fun
  | [d1, d2, d3, d4] => { results := [.lit (.bool true)], args := [d1, d2, d3, d4] }
  | _ => none }
def fnExactLeastAuditsRow : OpenClaim := { program := "ytlalpblinhhnlaa", sum := "84f5c5a4368c0e75951f4c64cc47a3e8613672209b790f42568d56ff6160ed06", func := "loop.example/g00878/laws.FnExactLeastAudits", spec := "fnExactLeastAudits", apart := false }
def FnExactLeastAuditsSaid : Prop := fnExactLeastAuditsRow.holds Try.pinned (OpenSpec.ofChange fnExactLeastAuditsSpec)

/-- ITS FALSE NEIGHBOUR: 'it returns false'. Refute it at one input. -/
def fnExactLeastAuditsWrong : ChangeSpec := { name := "fnExactLeastAudits", fn := fun _ => fun
  | [d1, d2, d3, d4] => { results := [.lit (.bool false)], args := [d1, d2, d3, d4] }
  | _ => none }
def FnExactLeastAuditsWrongFalsely : Prop := fnExactLeastAuditsRow.holds Try.pinned (OpenSpec.ofChange fnExactLeastAuditsWrong)

/-- 'laws.FnExactEncodeContest': WHATEVER THE INPUT: true; the input reads as it did. -/
def fnExactEncodeContestSpec : ChangeSpec := { name := "fnExactEncodeContest", fn := fun _ => fun
  | [d] => { results := [.lit (.bool true)], args := [d] }
  | _ => none }
def fnExactEncodeContestRow : OpenClaim := { program := "ytlalpblinhhnlaa", sum := "84f5c5a4368c0e75951f4c64cc47a3e8613672209b790f42568d56ff6160ed06", func := "loop.example/g00878/laws.FnExactEncodeContest", spec := "fnExactEncodeContest", apart := false }
def FnExactEncodeContestSaid : Prop := fnExactEncodeContestRow.holds Try.pinned (OpenSpec.ofChange fnExactEncodeContestSpec)

/-- ITS FALSE NEIGHBOUR: 'it returns false'. Refute it at one input. -/
def fnExactEncodeContestWrong : ChangeSpec := { name := "fnExactEncodeContest", fn := fun _ => fun
  | [d] => { results := [.lit (.bool false)], args := [d] }
  | _ => none }
def FnExactEncodeContestWrongFalsely : Prop := fnExactEncodeContestRow.holds Try.pinned (OpenSpec.ofChange fnExactEncodeContestWrong)

/-- 'laws.FnExactTargetProduct': WHATEVER THE INPUT: true; the input reads as it did. -/
def fnExactTargetProductSpec : ChangeSpec := { name := "fnExactTargetProduct", fn := fun _ => fun
  | [d1, d2, d3, d4, d5] => { results := [.lit (.bool true)], args := [d1, d2, d3, d4, d5] }
  | _ => none }
def fnExactTargetProductRow : OpenClaim := { program := "ytlalpblinhhnlaa", sum := "84f5c5a4368c0e75951f4c64cc47a3e8613672209b790f42568d56ff6160ed06", func := "loop.example/g00878/laws.FnExactTargetProduct", spec := "fnExactTargetProduct", unfollowed := true, recurses := true, apart := false }
def FnExactTargetProductSaid : Prop := fnExactTargetProductRow.holds Try.pinned (OpenSpec.ofChange fnExactTargetProductSpec)

/-- ITS FALSE NEIGHBOUR: 'it returns false'. Refute it at one input. -/
def fnExactTargetProductWrong : ChangeSpec := { name := "fnExactTargetProduct", fn := fun _ => fun
  | [d1, d2, d3, d4, d5] => { results := [.lit (.bool false)], args := [d1, d2, d3, d4, d5] }
  | _ => none }
def FnExactTargetProductWrongFalsely : Prop := fnExactTargetProductRow.holds Try.pinned (OpenSpec.ofChange fnExactTargetProductWrong)

/-- 'laws.FnExactIsPermutation': WHATEVER THE INPUT: true; the input reads as it did. -/
def fnExactIsPermutationSpec : ChangeSpec := { name := "fnExactIsPermutation", fn := fun _ => fun
  | [d] => { results := [.lit (.bool true)], args := [d] }
  | _ => none }
def fnExactIsPermutationRow : OpenClaim := { program := "ytlalpblinhhnlaa", sum := "84f5c5a4368c0e75951f4c64cc47a3e8613672209b790f42568d56ff6160ed06", func := "loop.example/g00878/laws.FnExactIsPermutation", spec := "fnExactIsPermutation", unfollowed := true, recurses := true, apart := false }
def FnExactIsPermutationSaid : Prop := fnExactIsPermutationRow.holds Try.pinned (OpenSpec.ofChange fnExactIsPermutationSpec)

/-- ITS FALSE NEIGHBOUR: 'it returns false'. Refute it at one input. -/
def fnExactIsPermutationWrong : ChangeSpec := { name := "fnExactIsPermutation", fn := fun _ => fun
  | [d] => { results := [.lit (.bool false)], args := [d] }
  | _ => none }
def FnExactIsPermutationWrongFalsely : Prop := fnExactIsPermutationRow.holds Try.pinned (OpenSpec.ofChange fnExactIsPermutationWrong)

/-- 'laws.FnExactDecodeContest': WHATEVER THE INPUT: true; the input reads as it did. -/
def fnExactDecodeContestSpec : ChangeSpec := { name := "fnExactDecodeContest", fn := fun _ => fun
  | [d] => { results := [.lit (.bool true)], args := [d] }
  | _ => none }
def fnExactDecodeContestRow : OpenClaim := { program := "ytlalpblinhhnlaa", sum := "84f5c5a4368c0e75951f4c64cc47a3e8613672209b790f42568d56ff6160ed06", func := "loop.example/g00878/laws.FnExactDecodeContest", spec := "fnExactDecodeContest", apart := false }
def FnExactDecodeContestSaid : Prop := fnExactDecodeContestRow.holds Try.pinned (OpenSpec.ofChange fnExactDecodeContestSpec)

/-- ITS FALSE NEIGHBOUR: 'it returns false'. Refute it at one input. -/
def fnExactDecodeContestWrong : ChangeSpec := { name := "fnExactDecodeContest", fn := fun _ => fun
  | [d] => { results := [.lit (.bool false)], args := [d] }
  | _ => none }
def FnExactDecodeContestWrongFalsely : Prop := fnExactDecodeContestRow.holds Try.pinned (OpenSpec.ofChange fnExactDecodeContestWrong)

/-- 'laws.FnExactShuffleCoins': WHATEVER THE INPUT: true; the input reads as it did. -/
def fnExactShuffleCoinsSpec : ChangeSpec := { name := "fnExactShuffleCoins", fn := fun _ => fun
  | [d1, d2] => { results := [.lit (.bool true)], args := [d1, d2] }
  | _ => none }
def fnExactShuffleCoinsRow : OpenClaim := { program := "ytlalpblinhhnlaa", sum := "84f5c5a4368c0e75951f4c64cc47a3e8613672209b790f42568d56ff6160ed06", func := "loop.example/g00878/laws.FnExactShuffleCoins", spec := "fnExactShuffleCoins", unfollowed := true, recurses := true, apart := false }
def FnExactShuffleCoinsSaid : Prop := fnExactShuffleCoinsRow.holds Try.pinned (OpenSpec.ofChange fnExactShuffleCoinsSpec)

/-- ITS FALSE NEIGHBOUR: 'it returns false'. Refute it at one input. -/
def fnExactShuffleCoinsWrong : ChangeSpec := { name := "fnExactShuffleCoins", fn := fun _ => fun
  | [d1, d2] => { results := [.lit (.bool false)], args := [d1, d2] }
  | _ => none }
def FnExactShuffleCoinsWrongFalsely : Prop := fnExactShuffleCoinsRow.holds Try.pinned (OpenSpec.ofChange fnExactShuffleCoinsWrong)

/-- 'laws.FnExactPermutationOf': WHATEVER THE INPUT: true; the input reads as it did. -/
def fnExactPermutationOfSpec : ChangeSpec := { name := "fnExactPermutationOf", fn := fun _ => fun
  | [d1, d2] => { results := [.lit (.bool true)], args := [d1, d2] }
  | _ => none }
def fnExactPermutationOfRow : OpenClaim := { program := "ytlalpblinhhnlaa", sum := "84f5c5a4368c0e75951f4c64cc47a3e8613672209b790f42568d56ff6160ed06", func := "loop.example/g00878/laws.FnExactPermutationOf", spec := "fnExactPermutationOf", apart := false }
def FnExactPermutationOfSaid : Prop := fnExactPermutationOfRow.holds Try.pinned (OpenSpec.ofChange fnExactPermutationOfSpec)

/-- ITS FALSE NEIGHBOUR: 'it returns false'. Refute it at one input. -/
def fnExactPermutationOfWrong : ChangeSpec := { name := "fnExactPermutationOf", fn := fun _ => fun
  | [d1, d2] => { results := [.lit (.bool false)], args := [d1, d2] }
  | _ => none }
def FnExactPermutationOfWrongFalsely : Prop := fnExactPermutationOfRow.holds Try.pinned (OpenSpec.ofChange fnExactPermutationOfWrong)

/-- 'laws.FnExactAgreeingPoints': WHATEVER THE INPUT: true; the input reads as it did. -/
def fnExactAgreeingPointsSpec : ChangeSpec := { name := "fnExactAgreeingPoints", fn := fun _ => fun
  | [d1, d2, d3] => { results := [.lit (.bool true)], args := [d1, d2, d3] }
  | _ => none }
def fnExactAgreeingPointsRow : OpenClaim := { program := "ytlalpblinhhnlaa", sum := "84f5c5a4368c0e75951f4c64cc47a3e8613672209b790f42568d56ff6160ed06", func := "loop.example/g00878/laws.FnExactAgreeingPoints", spec := "fnExactAgreeingPoints", unfollowed := true, recurses := true, apart := false }
def FnExactAgreeingPointsSaid : Prop := fnExactAgreeingPointsRow.holds Try.pinned (OpenSpec.ofChange fnExactAgreeingPointsSpec)

/-- ITS FALSE NEIGHBOUR: 'it returns false'. Refute it at one input. -/
def fnExactAgreeingPointsWrong : ChangeSpec := { name := "fnExactAgreeingPoints", fn := fun _ => fun
  | [d1, d2, d3] => { results := [.lit (.bool false)], args := [d1, d2, d3] }
  | _ => none }
def FnExactAgreeingPointsWrongFalsely : Prop := fnExactAgreeingPointsRow.holds Try.pinned (OpenSpec.ofChange fnExactAgreeingPointsWrong)

/-- 'laws.FnExactRankOf': WHATEVER THE INPUT: true; the input reads as it did. -/
def fnExactRankOfSpec : ChangeSpec := { name := "fnExactRankOf", fn := fun _ => fun
  | [d] => { results := [.lit (.bool true)], args := [d] }
  | _ => none }
def fnExactRankOfRow : OpenClaim := { program := "ytlalpblinhhnlaa", sum := "84f5c5a4368c0e75951f4c64cc47a3e8613672209b790f42568d56ff6160ed06", func := "loop.example/g00878/laws.FnExactRankOf", spec := "fnExactRankOf", unfollowed := true, recurses := true, apart := false }
def FnExactRankOfSaid : Prop := fnExactRankOfRow.holds Try.pinned (OpenSpec.ofChange fnExactRankOfSpec)

/-- ITS FALSE NEIGHBOUR: 'it returns false'. Refute it at one input. -/
def fnExactRankOfWrong : ChangeSpec := { name := "fnExactRankOf", fn := fun _ => fun
  | [d] => { results := [.lit (.bool false)], args := [d] }
  | _ => none }
def FnExactRankOfWrongFalsely : Prop := fnExactRankOfRow.holds Try.pinned (OpenSpec.ofChange fnExactRankOfWrong)

/-- 'laws.FnExactInversePermutation': WHATEVER THE INPUT: true; the input reads as it did. -/
def fnExactInversePermutationSpec : ChangeSpec := { name := "fnExactInversePermutation", fn := fun _ => fun
  | [d] => { results := [.lit (.bool true)], args := [d] }
  | _ => none }
def fnExactInversePermutationRow : OpenClaim := { program := "ytlalpblinhhnlaa", sum := "84f5c5a4368c0e75951f4c64cc47a3e8613672209b790f42568d56ff6160ed06", func := "loop.example/g00878/laws.FnExactInversePermutation", spec := "fnExactInversePermutation", unfollowed := true, recurses := true, apart := false }
def FnExactInversePermutationSaid : Prop := fnExactInversePermutationRow.holds Try.pinned (OpenSpec.ofChange fnExactInversePermutationSpec)

/-- ITS FALSE NEIGHBOUR: 'it returns false'. Refute it at one input. -/
def fnExactInversePermutationWrong : ChangeSpec := { name := "fnExactInversePermutation", fn := fun _ => fun
  | [d] => { results := [.lit (.bool false)], args := [d] }
  | _ => none }
def FnExactInversePermutationWrongFalsely : Prop := fnExactInversePermutationRow.holds Try.pinned (OpenSpec.ofChange fnExactInversePermutationWrong)

/-- 'laws.FnExactCountVotes': WHATEVER THE INPUT: true; the input reads as it did. -/
def fnExactCountVotesSpec : ChangeSpec := { name := "fnExactCountVotes", fn := fun _ => fun
  | [d] => { results := [.lit (.bool true)], args := [d] }
  | _ => none }
def fnExactCountVotesRow : OpenClaim := { program := "ytlalpblinhhnlaa", sum := "84f5c5a4368c0e75951f4c64cc47a3e8613672209b790f42568d56ff6160ed06", func := "loop.example/g00878/laws.FnExactCountVotes", spec := "fnExactCountVotes", apart := false }
def FnExactCountVotesSaid : Prop := fnExactCountVotesRow.holds Try.pinned (OpenSpec.ofChange fnExactCountVotesSpec)

/-- ITS FALSE NEIGHBOUR: 'it returns false'. Refute it at one input. -/
def fnExactCountVotesWrong : ChangeSpec := { name := "fnExactCountVotes", fn := fun _ => fun
  | [d] => { results := [.lit (.bool false)], args := [d] }
  | _ => none }
def FnExactCountVotesWrongFalsely : Prop := fnExactCountVotesRow.holds Try.pinned (OpenSpec.ofChange fnExactCountVotesWrong)

/-- 'laws.FnExactApplyPermutation': WHATEVER THE INPUT: true; the input reads as it did. -/
def fnExactApplyPermutationSpec : ChangeSpec := { name := "fnExactApplyPermutation", fn := fun _ => fun
  | [d1, d2] => { results := [.lit (.bool true)], args := [d1, d2] }
  | _ => none }
def fnExactApplyPermutationRow : OpenClaim := { program := "ytlalpblinhhnlaa", sum := "84f5c5a4368c0e75951f4c64cc47a3e8613672209b790f42568d56ff6160ed06", func := "loop.example/g00878/laws.FnExactApplyPermutation", spec := "fnExactApplyPermutation", unfollowed := true, recurses := true, apart := false }
def FnExactApplyPermutationSaid : Prop := fnExactApplyPermutationRow.holds Try.pinned (OpenSpec.ofChange fnExactApplyPermutationSpec)

/-- ITS FALSE NEIGHBOUR: 'it returns false'. Refute it at one input. -/
def fnExactApplyPermutationWrong : ChangeSpec := { name := "fnExactApplyPermutation", fn := fun _ => fun
  | [d1, d2] => { results := [.lit (.bool false)], args := [d1, d2] }
  | _ => none }
def FnExactApplyPermutationWrongFalsely : Prop := fnExactApplyPermutationRow.holds Try.pinned (OpenSpec.ofChange fnExactApplyPermutationWrong)

/-- 'laws.FnExactComposePermutations': WHATEVER THE INPUT: true; the input reads as it did. -/
def fnExactComposePermutationsSpec : ChangeSpec := { name := "fnExactComposePermutations", fn := fun _ => fun
  | [d1, d2] => { results := [.lit (.bool true)], args := [d1, d2] }
  | _ => none }
def fnExactComposePermutationsRow : OpenClaim := { program := "ytlalpblinhhnlaa", sum := "84f5c5a4368c0e75951f4c64cc47a3e8613672209b790f42568d56ff6160ed06", func := "loop.example/g00878/laws.FnExactComposePermutations", spec := "fnExactComposePermutations", unfollowed := true, recurses := true, apart := false }
def FnExactComposePermutationsSaid : Prop := fnExactComposePermutationsRow.holds Try.pinned (OpenSpec.ofChange fnExactComposePermutationsSpec)

/-- ITS FALSE NEIGHBOUR: 'it returns false'. Refute it at one input. -/
def fnExactComposePermutationsWrong : ChangeSpec := { name := "fnExactComposePermutations", fn := fun _ => fun
  | [d1, d2] => { results := [.lit (.bool false)], args := [d1, d2] }
  | _ => none }
def FnExactComposePermutationsWrongFalsely : Prop := fnExactComposePermutationsRow.holds Try.pinned (OpenSpec.ofChange fnExactComposePermutationsWrong)

/-- 'laws.FnExactSimplestVote': WHATEVER THE INPUT: true; the input reads as it did. -/
def fnExactSimplestVoteSpec : ChangeSpec := { name := "fnExactSimplestVote", fn := fun _ => fun
  | [d] => { results := [.lit (.bool true)], args := [d] }
  | _ => none }
def fnExactSimplestVoteRow : OpenClaim := { program := "ytlalpblinhhnlaa", sum := "84f5c5a4368c0e75951f4c64cc47a3e8613672209b790f42568d56ff6160ed06", func := "loop.example/g00878/laws.FnExactSimplestVote", spec := "fnExactSimplestVote", apart := false }
def FnExactSimplestVoteSaid : Prop := fnExactSimplestVoteRow.holds Try.pinned (OpenSpec.ofChange fnExactSimplestVoteSpec)

/-- ITS FALSE NEIGHBOUR: 'it returns false'. Refute it at one input. -/
def fnExactSimplestVoteWrong : ChangeSpec := { name := "fnExactSimplestVote", fn := fun _ => fun
  | [d] => { results := [.lit (.bool false)], args := [d] }
  | _ => none }
def FnExactSimplestVoteWrongFalsely : Prop := fnExactSimplestVoteRow.holds Try.pinned (OpenSpec.ofChange fnExactSimplestVoteWrong)

/-- 'laws.FnExactSignOf': WHATEVER THE INPUT: true; the input reads as it did. -/
def fnExactSignOfSpec : ChangeSpec := { name := "fnExactSignOf", fn := fun _ => fun
  | [d] => { results := [.lit (.bool true)], args := [d] }
  | _ => none }
def fnExactSignOfRow : OpenClaim := { program := "ytlalpblinhhnlaa", sum := "84f5c5a4368c0e75951f4c64cc47a3e8613672209b790f42568d56ff6160ed06", func := "loop.example/g00878/laws.FnExactSignOf", spec := "fnExactSignOf", unfollowed := true, recurses := true, apart := false }
def FnExactSignOfSaid : Prop := fnExactSignOfRow.holds Try.pinned (OpenSpec.ofChange fnExactSignOfSpec)

/-- ITS FALSE NEIGHBOUR: 'it returns false'. Refute it at one input. -/
def fnExactSignOfWrong : ChangeSpec := { name := "fnExactSignOf", fn := fun _ => fun
  | [d] => { results := [.lit (.bool false)], args := [d] }
  | _ => none }
def FnExactSignOfWrongFalsely : Prop := fnExactSignOfRow.holds Try.pinned (OpenSpec.ofChange fnExactSignOfWrong)

/-- 'laws.FnExactChainOf': WHATEVER THE INPUT: true; the input reads as it did. -/
def fnExactChainOfSpec : ChangeSpec := { name := "fnExactChainOf", fn := fun _ => fun
  | [d] => { results := [.lit (.bool true)], args := [d] }
  | _ => none }
def fnExactChainOfRow : OpenClaim := { program := "ytlalpblinhhnlaa", sum := "84f5c5a4368c0e75951f4c64cc47a3e8613672209b790f42568d56ff6160ed06", func := "loop.example/g00878/laws.FnExactChainOf", spec := "fnExactChainOf", unfollowed := true, recurses := true, apart := false }
def FnExactChainOfSaid : Prop := fnExactChainOfRow.holds Try.pinned (OpenSpec.ofChange fnExactChainOfSpec)

/-- ITS FALSE NEIGHBOUR: 'it returns false'. Refute it at one input. -/
def fnExactChainOfWrong : ChangeSpec := { name := "fnExactChainOf", fn := fun _ => fun
  | [d] => { results := [.lit (.bool false)], args := [d] }
  | _ => none }
def FnExactChainOfWrongFalsely : Prop := fnExactChainOfRow.holds Try.pinned (OpenSpec.ofChange fnExactChainOfWrong)

/-- 'laws.FnExactCheckChain': WHATEVER THE INPUT: true; the input reads as it did. -/
def fnExactCheckChainSpec : ChangeSpec := { name := "fnExactCheckChain", fn := fun _ => fun
  | [d1, d2] => { results := [.lit (.bool true)], args := [d1, d2] }
  | _ => none }
def fnExactCheckChainRow : OpenClaim := { program := "ytlalpblinhhnlaa", sum := "84f5c5a4368c0e75951f4c64cc47a3e8613672209b790f42568d56ff6160ed06", func := "loop.example/g00878/laws.FnExactCheckChain", spec := "fnExactCheckChain", unfollowed := true, recurses := true, apart := false }
def FnExactCheckChainSaid : Prop := fnExactCheckChainRow.holds Try.pinned (OpenSpec.ofChange fnExactCheckChainSpec)

/-- ITS FALSE NEIGHBOUR: 'it returns false'. Refute it at one input. -/
def fnExactCheckChainWrong : ChangeSpec := { name := "fnExactCheckChain", fn := fun _ => fun
  | [d1, d2] => { results := [.lit (.bool false)], args := [d1, d2] }
  | _ => none }
def FnExactCheckChainWrongFalsely : Prop := fnExactCheckChainRow.holds Try.pinned (OpenSpec.ofChange fnExactCheckChainWrong)

/-- 'laws.FnExactMatrixOf': WHATEVER THE INPUT: true; the input reads as it did. -/
def fnExactMatrixOfSpec : ChangeSpec := { name := "fnExactMatrixOf", fn := fun _ => fun
  | [d] => { results := [.lit (.bool true)], args := [d] }
  | _ => none }
def fnExactMatrixOfRow : OpenClaim := { program := "ytlalpblinhhnlaa", sum := "84f5c5a4368c0e75951f4c64cc47a3e8613672209b790f42568d56ff6160ed06", func := "loop.example/g00878/laws.FnExactMatrixOf", spec := "fnExactMatrixOf", unfollowed := true, recurses := true, apart := false }
def FnExactMatrixOfSaid : Prop := fnExactMatrixOfRow.holds Try.pinned (OpenSpec.ofChange fnExactMatrixOfSpec)

/-- ITS FALSE NEIGHBOUR: 'it returns false'. Refute it at one input. -/
def fnExactMatrixOfWrong : ChangeSpec := { name := "fnExactMatrixOf", fn := fun _ => fun
  | [d] => { results := [.lit (.bool false)], args := [d] }
  | _ => none }
def FnExactMatrixOfWrongFalsely : Prop := fnExactMatrixOfRow.holds Try.pinned (OpenSpec.ofChange fnExactMatrixOfWrong)

/-- 'laws.FnExactCyclesOf': WHATEVER THE INPUT: true; the input reads as it did. -/
def fnExactCyclesOfSpec : ChangeSpec := { name := "fnExactCyclesOf", fn := fun _ => fun
  | [d] => { results := [.lit (.bool true)], args := [d] }
  | _ => none }
def fnExactCyclesOfRow : OpenClaim := { program := "ytlalpblinhhnlaa", sum := "84f5c5a4368c0e75951f4c64cc47a3e8613672209b790f42568d56ff6160ed06", func := "loop.example/g00878/laws.FnExactCyclesOf", spec := "fnExactCyclesOf", unfollowed := true, recurses := true, apart := false }
def FnExactCyclesOfSaid : Prop := fnExactCyclesOfRow.holds Try.pinned (OpenSpec.ofChange fnExactCyclesOfSpec)

/-- ITS FALSE NEIGHBOUR: 'it returns false'. Refute it at one input. -/
def fnExactCyclesOfWrong : ChangeSpec := { name := "fnExactCyclesOf", fn := fun _ => fun
  | [d] => { results := [.lit (.bool false)], args := [d] }
  | _ => none }
def FnExactCyclesOfWrongFalsely : Prop := fnExactCyclesOfRow.holds Try.pinned (OpenSpec.ofChange fnExactCyclesOfWrong)

/-- 'laws.FnExactPermuteCiphers': WHATEVER THE INPUT: true; the input reads as it did. -/
def fnExactPermuteCiphersSpec : ChangeSpec := { name := "fnExactPermuteCiphers", fn := fun _ => fun
  | [d1, d2] => { results := [.lit (.bool true)], args := [d1, d2] }
  | _ => none }
def fnExactPermuteCiphersRow : OpenClaim := { program := "ytlalpblinhhnlaa", sum := "84f5c5a4368c0e75951f4c64cc47a3e8613672209b790f42568d56ff6160ed06", func := "loop.example/g00878/laws.FnExactPermuteCiphers", spec := "fnExactPermuteCiphers", unfollowed := true, recurses := true, apart := false }
def FnExactPermuteCiphersSaid : Prop := fnExactPermuteCiphersRow.holds Try.pinned (OpenSpec.ofChange fnExactPermuteCiphersSpec)

/-- ITS FALSE NEIGHBOUR: 'it returns false'. Refute it at one input. -/
def fnExactPermuteCiphersWrong : ChangeSpec := { name := "fnExactPermuteCiphers", fn := fun _ => fun
  | [d1, d2] => { results := [.lit (.bool false)], args := [d1, d2] }
  | _ => none }
def FnExactPermuteCiphersWrongFalsely : Prop := fnExactPermuteCiphersRow.holds Try.pinned (OpenSpec.ofChange fnExactPermuteCiphersWrong)

/-- 'laws.FnExactIsValidVote': WHATEVER THE INPUT: true; the input reads as it did. -/
def fnExactIsValidVoteSpec : ChangeSpec := { name := "fnExactIsValidVote", fn := fun _ => fun
  | [d1, d2] => { results := [.lit (.bool true)], args := [d1, d2] }
  | _ => none }
def fnExactIsValidVoteRow : OpenClaim := { program := "ytlalpblinhhnlaa", sum := "84f5c5a4368c0e75951f4c64cc47a3e8613672209b790f42568d56ff6160ed06", func := "loop.example/g00878/laws.FnExactIsValidVote", spec := "fnExactIsValidVote", unfollowed := true, recurses := true, apart := false }
def FnExactIsValidVoteSaid : Prop := fnExactIsValidVoteRow.holds Try.pinned (OpenSpec.ofChange fnExactIsValidVoteSpec)

/-- ITS FALSE NEIGHBOUR: 'it returns false'. Refute it at one input. -/
def fnExactIsValidVoteWrong : ChangeSpec := { name := "fnExactIsValidVote", fn := fun _ => fun
  | [d1, d2] => { results := [.lit (.bool false)], args := [d1, d2] }
  | _ => none }
def FnExactIsValidVoteWrongFalsely : Prop := fnExactIsValidVoteRow.holds Try.pinned (OpenSpec.ofChange fnExactIsValidVoteWrong)

/-- 'laws.FnPrimes': WHATEVER THE INPUT: true; the input reads as it did. -/
def fnPrimesSpec : ChangeSpec := { name := "fnPrimes", fn := fun _ => fun
  | [d1, d2] => { results := [.lit (.bool true)], args := [d1, d2] }
  | _ => none }
def fnPrimesRow : OpenClaim := { program := "ytlalpblinhhnlaa", sum := "84f5c5a4368c0e75951f4c64cc47a3e8613672209b790f42568d56ff6160ed06", func := "loop.example/g00878/laws.FnPrimes", spec := "fnPrimes", unfollowed := true, recurses := true, apart := false }
def FnPrimesSaid : Prop := fnPrimesRow.holds Try.pinned (OpenSpec.ofChange fnPrimesSpec)

/-- ITS FALSE NEIGHBOUR: 'it returns false'. Refute it at one input. -/
def fnPrimesWrong : ChangeSpec := { name := "fnPrimes", fn := fun _ => fun
  | [d1, d2] => { results := [.lit (.bool false)], args := [d1, d2] }
  | _ => none }
def FnPrimesWrongFalsely : Prop := fnPrimesRow.holds Try.pinned (OpenSpec.ofChange fnPrimesWrong)

/-- 'laws.FnExactIsSealable': WHATEVER THE INPUT: true; the input reads as it did. -/
def fnExactIsSealableSpec : ChangeSpec := { name := "fnExactIsSealable", fn := fun _ => fun
  | [d1, d2] => { results := [.lit (.bool true)], args := [d1, d2] }
  | _ => none }
def fnExactIsSealableRow : OpenClaim := { program := "ytlalpblinhhnlaa", sum := "84f5c5a4368c0e75951f4c64cc47a3e8613672209b790f42568d56ff6160ed06", func := "loop.example/g00878/laws.FnExactIsSealable", spec := "fnExactIsSealable", apart := false }
def FnExactIsSealableSaid : Prop := fnExactIsSealableRow.holds Try.pinned (OpenSpec.ofChange fnExactIsSealableSpec)

/-- ITS FALSE NEIGHBOUR: 'it returns false'. Refute it at one input. -/
def fnExactIsSealableWrong : ChangeSpec := { name := "fnExactIsSealable", fn := fun _ => fun
  | [d1, d2] => { results := [.lit (.bool false)], args := [d1, d2] }
  | _ => none }
def FnExactIsSealableWrongFalsely : Prop := fnExactIsSealableRow.holds Try.pinned (OpenSpec.ofChange fnExactIsSealableWrong)

/-- 'laws.FnAgreeingPoints': WHATEVER THE INPUT: true; the input reads as it did. -/
def fnAgreeingPointsSpec : ChangeSpec := { name := "fnAgreeingPoints", fn := fun _ => fun
  | [d1, d2] => { results := [.lit (.bool true)], args := [d1, d2] }
  | _ => none }
def fnAgreeingPointsRow : OpenClaim := { program := "ytlalpblinhhnlaa", sum := "84f5c5a4368c0e75951f4c64cc47a3e8613672209b790f42568d56ff6160ed06", func := "loop.example/g00878/laws.FnAgreeingPoints", spec := "fnAgreeingPoints", unfollowed := true, recurses := true, apart := false }
def FnAgreeingPointsSaid : Prop := fnAgreeingPointsRow.holds Try.pinned (OpenSpec.ofChange fnAgreeingPointsSpec)

/-- ITS FALSE NEIGHBOUR: 'it returns false'. Refute it at one input. -/
def fnAgreeingPointsWrong : ChangeSpec := { name := "fnAgreeingPoints", fn := fun _ => fun
  | [d1, d2] => { results := [.lit (.bool false)], args := [d1, d2] }
  | _ => none }
def FnAgreeingPointsWrongFalsely : Prop := fnAgreeingPointsRow.holds Try.pinned (OpenSpec.ofChange fnAgreeingPointsWrong)

/-- 'laws.FnExactPermutationOfMatrix': WHATEVER THE INPUT: true; the input reads as it did. -/
def fnExactPermutationOfMatrixSpec : ChangeSpec := { name := "fnExactPermutationOfMatrix", fn := fun _ => fun
  | [d] => { results := [.lit (.bool true)], args := [d] }
  | _ => none }
def fnExactPermutationOfMatrixRow : OpenClaim := { program := "ytlalpblinhhnlaa", sum := "84f5c5a4368c0e75951f4c64cc47a3e8613672209b790f42568d56ff6160ed06", func := "loop.example/g00878/laws.FnExactPermutationOfMatrix", spec := "fnExactPermutationOfMatrix", unfollowed := true, recurses := true, apart := false }
def FnExactPermutationOfMatrixSaid : Prop := fnExactPermutationOfMatrixRow.holds Try.pinned (OpenSpec.ofChange fnExactPermutationOfMatrixSpec)

/-- ITS FALSE NEIGHBOUR: 'it returns false'. Refute it at one input. -/
def fnExactPermutationOfMatrixWrong : ChangeSpec := { name := "fnExactPermutationOfMatrix", fn := fun _ => fun
  | [d] => { results := [.lit (.bool false)], args := [d] }
  | _ => none }
def FnExactPermutationOfMatrixWrongFalsely : Prop := fnExactPermutationOfMatrixRow.holds Try.pinned (OpenSpec.ofChange fnExactPermutationOfMatrixWrong)

/-- 'laws.FnGroups': WHATEVER THE INPUT: true; the input reads as it did. -/
def fnGroupsSpec : ChangeSpec := { name := "fnGroups", fn := fun _ => fun
  | [d1, d2] => { results := [.lit (.bool true)], args := [d1, d2] }
  | _ => none }
def fnGroupsRow : OpenClaim := { program := "ytlalpblinhhnlaa", sum := "84f5c5a4368c0e75951f4c64cc47a3e8613672209b790f42568d56ff6160ed06", func := "loop.example/g00878/laws.FnGroups", spec := "fnGroups", unfollowed := true, recurses := true, apart := false }
def FnGroupsSaid : Prop := fnGroupsRow.holds Try.pinned (OpenSpec.ofChange fnGroupsSpec)

/-- ITS FALSE NEIGHBOUR: 'it returns false'. Refute it at one input. -/
def fnGroupsWrong : ChangeSpec := { name := "fnGroups", fn := fun _ => fun
  | [d1, d2] => { results := [.lit (.bool false)], args := [d1, d2] }
  | _ => none }
def FnGroupsWrongFalsely : Prop := fnGroupsRow.holds Try.pinned (OpenSpec.ofChange fnGroupsWrong)

/-- 'laws.FnResidues': WHATEVER THE INPUT: true; the input reads as it did. -/
def fnResiduesSpec : ChangeSpec := { name := "fnResidues", fn := fun _ => fun
  | [d1, d2] => { results := [.lit (.bool true)], args := [d1, d2] }
  | _ => none }
def fnResiduesRow : OpenClaim := { program := "ytlalpblinhhnlaa", sum := "84f5c5a4368c0e75951f4c64cc47a3e8613672209b790f42568d56ff6160ed06", func := "loop.example/g00878/laws.FnResidues", spec := "fnResidues", unfollowed := true, recurses := true, apart := false }
def FnResiduesSaid : Prop := fnResiduesRow.holds Try.pinned (OpenSpec.ofChange fnResiduesSpec)

/-- ITS FALSE NEIGHBOUR: 'it returns false'. Refute it at one input. -/
def fnResiduesWrong : ChangeSpec := { name := "fnResidues", fn := fun _ => fun
  | [d1, d2] => { results := [.lit (.bool false)], args := [d1, d2] }
  | _ => none }
def FnResiduesWrongFalsely : Prop := fnResiduesRow.holds Try.pinned (OpenSpec.ofChange fnResiduesWrong)

/-- 'laws.FnPolynomials': WHATEVER THE INPUT: true; the input reads as it did. -/
def fnPolynomialsSpec : ChangeSpec := { name := "fnPolynomials", fn := fun _ => fun
  | [d1, d2] => { results := [.lit (.bool true)], args := [d1, d2] }
  | _ => none }
def fnPolynomialsRow : OpenClaim := { program := "ytlalpblinhhnlaa", sum := "84f5c5a4368c0e75951f4c64cc47a3e8613672209b790f42568d56ff6160ed06", func := "loop.example/g00878/laws.FnPolynomials", spec := "fnPolynomials", unfollowed := true, recurses := true, apart := false }
def FnPolynomialsSaid : Prop := fnPolynomialsRow.holds Try.pinned (OpenSpec.ofChange fnPolynomialsSpec)

/-- ITS FALSE NEIGHBOUR: 'it returns false'. Refute it at one input. -/
def fnPolynomialsWrong : ChangeSpec := { name := "fnPolynomials", fn := fun _ => fun
  | [d1, d2] => { results := [.lit (.bool false)], args := [d1, d2] }
  | _ => none }
def FnPolynomialsWrongFalsely : Prop := fnPolynomialsRow.holds Try.pinned (OpenSpec.ofChange fnPolynomialsWrong)

/-- 'laws.FnPermutations': WHATEVER THE INPUT: true; the input reads as it did. -/
def fnPermutationsSpec : ChangeSpec := { name := "fnPermutations", fn := fun _ => fun
  | [d1, d2] => { results := [.lit (.bool true)], args := [d1, d2] }
  | _ => none }
def fnPermutationsRow : OpenClaim := { program := "ytlalpblinhhnlaa", sum := "84f5c5a4368c0e75951f4c64cc47a3e8613672209b790f42568d56ff6160ed06", func := "loop.example/g00878/laws.FnPermutations", spec := "fnPermutations", unfollowed := true, recurses := true, apart := false }
def FnPermutationsSaid : Prop := fnPermutationsRow.holds Try.pinned (OpenSpec.ofChange fnPermutationsSpec)

/-- ITS FALSE NEIGHBOUR: 'it returns false'. Refute it at one input. -/
def fnPermutationsWrong : ChangeSpec := { name := "fnPermutations", fn := fun _ => fun
  | [d1, d2] => { results := [.lit (.bool false)], args := [d1, d2] }
  | _ => none }
def FnPermutationsWrongFalsely : Prop := fnPermutationsRow.holds Try.pinned (OpenSpec.ofChange fnPermutationsWrong)

/-- 'laws.FnExactCodeOf': WHATEVER THE INPUT: true; the input reads as it did. -/
def fnExactCodeOfSpec : ChangeSpec := { name := "fnExactCodeOf", fn := fun _ => fun
  | [d1, d2] => { results := [.lit (.bool true)], args := [d1, d2] }
  | _ => none }
def fnExactCodeOfRow : OpenClaim := { program := "ytlalpblinhhnlaa", sum := "84f5c5a4368c0e75951f4c64cc47a3e8613672209b790f42568d56ff6160ed06", func := "loop.example/g00878/laws.FnExactCodeOf", spec := "fnExactCodeOf", unfollowed := true, recurses := true, apart := false }
def FnExactCodeOfSaid : Prop := fnExactCodeOfRow.holds Try.pinned (OpenSpec.ofChange fnExactCodeOfSpec)

/-- ITS FALSE NEIGHBOUR: 'it returns false'. Refute it at one input. -/
def fnExactCodeOfWrong : ChangeSpec := { name := "fnExactCodeOf", fn := fun _ => fun
  | [d1, d2] => { results := [.lit (.bool false)], args := [d1, d2] }
  | _ => none }
def FnExactCodeOfWrongFalsely : Prop := fnExactCodeOfRow.holds Try.pinned (OpenSpec.ofChange fnExactCodeOfWrong)

/- THE SECOND FORM. 'bulk': how many values and letters a reading holds, each counted each time it is reached (what is shared counts as often as it is met; a slice's spare places count too). A statement '..UptoSaid' is the law's where the arguments, and the package variables that the reading takes, are together of bulk at most 1048576: NARROWER than '..Said'. Prove '..Said' where nothing that the law and all that it calls make is longer than what came in: it says more and counts as full. Else prove '..UptoSaid'. A law counts once. -/
mutual
def uptoBulk {H : Type} : DataW H → Nat
  | .lit (.string bytes) => bytes.length + 1
  | .lit _ => 1
  | .nil => 1
  | .ptr d => uptoBulk d + 1
  | .slice elems spare => uptoBulkAll elems + uptoBulkAll spare + 1
  | .agg parts => uptoBulkAll parts + 1
  | .iface _ d => uptoBulk d + 1
  | .map entries => uptoBulkEntries entries + 1
  | .held _ => 1
def uptoBulkAll {H : Type} : List (DataW H) → Nat
  | [] => 0
  | d :: r => uptoBulk d + uptoBulkAll r
def uptoBulkEntries {H : Type} : List (Lit × DataW H) → Nat
  | [] => 0
  | x :: r => uptoBulkEntry x + uptoBulkEntries r
def uptoBulkEntry {H : Type} : Lit × DataW H → Nat
  | (.string bytes, d) => bytes.length + uptoBulk d + 1
  | (_, d) => uptoBulk d + 1
 end
def uptoSmall : (H : Type) → List (DataW H) → Bool := fun _ ds => decide (uptoBulkAll ds ≤ 1048576)
def OpenSpec.upto (s : _root_.Go.ChangeSpec) : _root_.Go.OpenSpec := { _root_.Go.OpenSpec.ofChange s with cond := some uptoSmall }

/-- 'laws.FnExactIsValidContest', WHERE WHAT IT READS IS OF BULK AT MOST 1048576: true; the input reads as it did. -/
def fnExactIsValidContestUptoRow : OpenClaim := { program := "ytlalpblinhhnlaa", sum := "84f5c5a4368c0e75951f4c64cc47a3e8613672209b790f42568d56ff6160ed06", func := "loop.example/g00878/laws.FnExactIsValidContest", spec := "fnExactIsValidContest", apart := false, narrowed := true }
def FnExactIsValidContestUptoSaid : Prop := fnExactIsValidContestUptoRow.holds Try.pinned (OpenSpec.upto fnExactIsValidContestSpec)

/-- 'laws.FnExactUndetectedWays', WHERE WHAT IT READS IS OF BULK AT MOST 1048576: true; the input reads as it did. -/
def fnExactUndetectedWaysUptoRow : OpenClaim := { program := "ytlalpblinhhnlaa", sum := "84f5c5a4368c0e75951f4c64cc47a3e8613672209b790f42568d56ff6160ed06", func := "loop.example/g00878/laws.FnExactUndetectedWays", spec := "fnExactUndetectedWays", apart := false, narrowed := true }
def FnExactUndetectedWaysUptoSaid : Prop := fnExactUndetectedWaysUptoRow.holds Try.pinned (OpenSpec.upto fnExactUndetectedWaysSpec)

/-- 'laws.FnExactDetectionChance', WHERE WHAT IT READS IS OF BULK AT MOST 1048576: true; the input reads as it did. -/
def fnExactDetectionChanceUptoRow : OpenClaim := { program := "ytlalpblinhhnlaa", sum := "84f5c5a4368c0e75951f4c64cc47a3e8613672209b790f42568d56ff6160ed06", func := "loop.example/g00878/laws.FnExactDetectionChance", spec := "fnExactDetectionChance", apart := false, narrowed := true }
def FnExactDetectionChanceUptoSaid : Prop := fnExactDetectionChanceUptoRow.holds Try.pinned (OpenSpec.upto fnExactDetectionChanceSpec)

/-- 'laws.FnExactLeastAudits', WHERE WHAT IT READS IS OF BULK AT MOST 1048576: true; the input reads as it did. -/
def fnExactLeastAuditsUptoRow : OpenClaim := { program := "ytlalpblinhhnlaa", sum := "84f5c5a4368c0e75951f4c64cc47a3e8613672209b790f42568d56ff6160ed06", func := "loop.example/g00878/laws.FnExactLeastAudits", spec := "fnExactLeastAudits", apart := false, narrowed := true }
def FnExactLeastAuditsUptoSaid : Prop := fnExactLeastAuditsUptoRow.holds Try.pinned (OpenSpec.upto fnExactLeastAuditsSpec)

/-- 'laws.FnExactEncodeContest', WHERE WHAT IT READS IS OF BULK AT MOST 1048576: true; the input reads as it did. -/
def fnExactEncodeContestUptoRow : OpenClaim := { program := "ytlalpblinhhnlaa", sum := "84f5c5a4368c0e75951f4c64cc47a3e8613672209b790f42568d56ff6160ed06", func := "loop.example/g00878/laws.FnExactEncodeContest", spec := "fnExactEncodeContest", apart := false, narrowed := true }
def FnExactEncodeContestUptoSaid : Prop := fnExactEncodeContestUptoRow.holds Try.pinned (OpenSpec.upto fnExactEncodeContestSpec)

/-- 'laws.FnExactTargetProduct', WHERE WHAT IT READS IS OF BULK AT MOST 1048576: true; the input reads as it did. -/
def fnExactTargetProductUptoRow : OpenClaim := { program := "ytlalpblinhhnlaa", sum := "84f5c5a4368c0e75951f4c64cc47a3e8613672209b790f42568d56ff6160ed06", func := "loop.example/g00878/laws.FnExactTargetProduct", spec := "fnExactTargetProduct", unfollowed := true, recurses := true, apart := false, narrowed := true }
def FnExactTargetProductUptoSaid : Prop := fnExactTargetProductUptoRow.holds Try.pinned (OpenSpec.upto fnExactTargetProductSpec)

/-- 'laws.FnExactIsPermutation', WHERE WHAT IT READS IS OF BULK AT MOST 1048576: true; the input reads as it did. -/
def fnExactIsPermutationUptoRow : OpenClaim := { program := "ytlalpblinhhnlaa", sum := "84f5c5a4368c0e75951f4c64cc47a3e8613672209b790f42568d56ff6160ed06", func := "loop.example/g00878/laws.FnExactIsPermutation", spec := "fnExactIsPermutation", unfollowed := true, recurses := true, apart := false, narrowed := true }
def FnExactIsPermutationUptoSaid : Prop := fnExactIsPermutationUptoRow.holds Try.pinned (OpenSpec.upto fnExactIsPermutationSpec)

/-- 'laws.FnExactDecodeContest', WHERE WHAT IT READS IS OF BULK AT MOST 1048576: true; the input reads as it did. -/
def fnExactDecodeContestUptoRow : OpenClaim := { program := "ytlalpblinhhnlaa", sum := "84f5c5a4368c0e75951f4c64cc47a3e8613672209b790f42568d56ff6160ed06", func := "loop.example/g00878/laws.FnExactDecodeContest", spec := "fnExactDecodeContest", apart := false, narrowed := true }
def FnExactDecodeContestUptoSaid : Prop := fnExactDecodeContestUptoRow.holds Try.pinned (OpenSpec.upto fnExactDecodeContestSpec)

/-- 'laws.FnExactShuffleCoins', WHERE WHAT IT READS IS OF BULK AT MOST 1048576: true; the input reads as it did. -/
def fnExactShuffleCoinsUptoRow : OpenClaim := { program := "ytlalpblinhhnlaa", sum := "84f5c5a4368c0e75951f4c64cc47a3e8613672209b790f42568d56ff6160ed06", func := "loop.example/g00878/laws.FnExactShuffleCoins", spec := "fnExactShuffleCoins", unfollowed := true, recurses := true, apart := false, narrowed := true }
def FnExactShuffleCoinsUptoSaid : Prop := fnExactShuffleCoinsUptoRow.holds Try.pinned (OpenSpec.upto fnExactShuffleCoinsSpec)

/-- 'laws.FnExactPermutationOf', WHERE WHAT IT READS IS OF BULK AT MOST 1048576: true; the input reads as it did. -/
def fnExactPermutationOfUptoRow : OpenClaim := { program := "ytlalpblinhhnlaa", sum := "84f5c5a4368c0e75951f4c64cc47a3e8613672209b790f42568d56ff6160ed06", func := "loop.example/g00878/laws.FnExactPermutationOf", spec := "fnExactPermutationOf", apart := false, narrowed := true }
def FnExactPermutationOfUptoSaid : Prop := fnExactPermutationOfUptoRow.holds Try.pinned (OpenSpec.upto fnExactPermutationOfSpec)

/-- 'laws.FnExactAgreeingPoints', WHERE WHAT IT READS IS OF BULK AT MOST 1048576: true; the input reads as it did. -/
def fnExactAgreeingPointsUptoRow : OpenClaim := { program := "ytlalpblinhhnlaa", sum := "84f5c5a4368c0e75951f4c64cc47a3e8613672209b790f42568d56ff6160ed06", func := "loop.example/g00878/laws.FnExactAgreeingPoints", spec := "fnExactAgreeingPoints", unfollowed := true, recurses := true, apart := false, narrowed := true }
def FnExactAgreeingPointsUptoSaid : Prop := fnExactAgreeingPointsUptoRow.holds Try.pinned (OpenSpec.upto fnExactAgreeingPointsSpec)

/-- 'laws.FnExactRankOf', WHERE WHAT IT READS IS OF BULK AT MOST 1048576: true; the input reads as it did. -/
def fnExactRankOfUptoRow : OpenClaim := { program := "ytlalpblinhhnlaa", sum := "84f5c5a4368c0e75951f4c64cc47a3e8613672209b790f42568d56ff6160ed06", func := "loop.example/g00878/laws.FnExactRankOf", spec := "fnExactRankOf", unfollowed := true, recurses := true, apart := false, narrowed := true }
def FnExactRankOfUptoSaid : Prop := fnExactRankOfUptoRow.holds Try.pinned (OpenSpec.upto fnExactRankOfSpec)

/-- 'laws.FnExactInversePermutation', WHERE WHAT IT READS IS OF BULK AT MOST 1048576: true; the input reads as it did. -/
def fnExactInversePermutationUptoRow : OpenClaim := { program := "ytlalpblinhhnlaa", sum := "84f5c5a4368c0e75951f4c64cc47a3e8613672209b790f42568d56ff6160ed06", func := "loop.example/g00878/laws.FnExactInversePermutation", spec := "fnExactInversePermutation", unfollowed := true, recurses := true, apart := false, narrowed := true }
def FnExactInversePermutationUptoSaid : Prop := fnExactInversePermutationUptoRow.holds Try.pinned (OpenSpec.upto fnExactInversePermutationSpec)

/-- 'laws.FnExactCountVotes', WHERE WHAT IT READS IS OF BULK AT MOST 1048576: true; the input reads as it did. -/
def fnExactCountVotesUptoRow : OpenClaim := { program := "ytlalpblinhhnlaa", sum := "84f5c5a4368c0e75951f4c64cc47a3e8613672209b790f42568d56ff6160ed06", func := "loop.example/g00878/laws.FnExactCountVotes", spec := "fnExactCountVotes", apart := false, narrowed := true }
def FnExactCountVotesUptoSaid : Prop := fnExactCountVotesUptoRow.holds Try.pinned (OpenSpec.upto fnExactCountVotesSpec)

/-- 'laws.FnExactApplyPermutation', WHERE WHAT IT READS IS OF BULK AT MOST 1048576: true; the input reads as it did. -/
def fnExactApplyPermutationUptoRow : OpenClaim := { program := "ytlalpblinhhnlaa", sum := "84f5c5a4368c0e75951f4c64cc47a3e8613672209b790f42568d56ff6160ed06", func := "loop.example/g00878/laws.FnExactApplyPermutation", spec := "fnExactApplyPermutation", unfollowed := true, recurses := true, apart := false, narrowed := true }
def FnExactApplyPermutationUptoSaid : Prop := fnExactApplyPermutationUptoRow.holds Try.pinned (OpenSpec.upto fnExactApplyPermutationSpec)

/-- 'laws.FnExactComposePermutations', WHERE WHAT IT READS IS OF BULK AT MOST 1048576: true; the input reads as it did. -/
def fnExactComposePermutationsUptoRow : OpenClaim := { program := "ytlalpblinhhnlaa", sum := "84f5c5a4368c0e75951f4c64cc47a3e8613672209b790f42568d56ff6160ed06", func := "loop.example/g00878/laws.FnExactComposePermutations", spec := "fnExactComposePermutations", unfollowed := true, recurses := true, apart := false, narrowed := true }
def FnExactComposePermutationsUptoSaid : Prop := fnExactComposePermutationsUptoRow.holds Try.pinned (OpenSpec.upto fnExactComposePermutationsSpec)

/-- 'laws.FnExactSimplestVote', WHERE WHAT IT READS IS OF BULK AT MOST 1048576: true; the input reads as it did. -/
def fnExactSimplestVoteUptoRow : OpenClaim := { program := "ytlalpblinhhnlaa", sum := "84f5c5a4368c0e75951f4c64cc47a3e8613672209b790f42568d56ff6160ed06", func := "loop.example/g00878/laws.FnExactSimplestVote", spec := "fnExactSimplestVote", apart := false, narrowed := true }
def FnExactSimplestVoteUptoSaid : Prop := fnExactSimplestVoteUptoRow.holds Try.pinned (OpenSpec.upto fnExactSimplestVoteSpec)

/-- 'laws.FnExactSignOf', WHERE WHAT IT READS IS OF BULK AT MOST 1048576: true; the input reads as it did. -/
def fnExactSignOfUptoRow : OpenClaim := { program := "ytlalpblinhhnlaa", sum := "84f5c5a4368c0e75951f4c64cc47a3e8613672209b790f42568d56ff6160ed06", func := "loop.example/g00878/laws.FnExactSignOf", spec := "fnExactSignOf", unfollowed := true, recurses := true, apart := false, narrowed := true }
def FnExactSignOfUptoSaid : Prop := fnExactSignOfUptoRow.holds Try.pinned (OpenSpec.upto fnExactSignOfSpec)

/-- 'laws.FnExactChainOf', WHERE WHAT IT READS IS OF BULK AT MOST 1048576: true; the input reads as it did. -/
def fnExactChainOfUptoRow : OpenClaim := { program := "ytlalpblinhhnlaa", sum := "84f5c5a4368c0e75951f4c64cc47a3e8613672209b790f42568d56ff6160ed06", func := "loop.example/g00878/laws.FnExactChainOf", spec := "fnExactChainOf", unfollowed := true, recurses := true, apart := false, narrowed := true }
def FnExactChainOfUptoSaid : Prop := fnExactChainOfUptoRow.holds Try.pinned (OpenSpec.upto fnExactChainOfSpec)

/-- 'laws.FnExactCheckChain', WHERE WHAT IT READS IS OF BULK AT MOST 1048576: true; the input reads as it did. -/
def fnExactCheckChainUptoRow : OpenClaim := { program := "ytlalpblinhhnlaa", sum := "84f5c5a4368c0e75951f4c64cc47a3e8613672209b790f42568d56ff6160ed06", func := "loop.example/g00878/laws.FnExactCheckChain", spec := "fnExactCheckChain", unfollowed := true, recurses := true, apart := false, narrowed := true }
def FnExactCheckChainUptoSaid : Prop := fnExactCheckChainUptoRow.holds Try.pinned (OpenSpec.upto fnExactCheckChainSpec)

/-- 'laws.FnExactMatrixOf', WHERE WHAT IT READS IS OF BULK AT MOST 1048576: true; the input reads as it did. -/
def fnExactMatrixOfUptoRow : OpenClaim := { program := "ytlalpblinhhnlaa", sum := "84f5c5a4368c0e75951f4c64cc47a3e8613672209b790f42568d56ff6160ed06", func := "loop.example/g00878/laws.FnExactMatrixOf", spec := "fnExactMatrixOf", unfollowed := true, recurses := true, apart := false, narrowed := true }
def FnExactMatrixOfUptoSaid : Prop := fnExactMatrixOfUptoRow.holds Try.pinned (OpenSpec.upto fnExactMatrixOfSpec)

/-- 'laws.FnExactCyclesOf', WHERE WHAT IT READS IS OF BULK AT MOST 1048576: true; the input reads as it did. -/
def fnExactCyclesOfUptoRow : OpenClaim := { program := "ytlalpblinhhnlaa", sum := "84f5c5a4368c0e75951f4c64cc47a3e8613672209b790f42568d56ff6160ed06", func := "loop.example/g00878/laws.FnExactCyclesOf", spec := "fnExactCyclesOf", unfollowed := true, recurses := true, apart := false, narrowed := true }
def FnExactCyclesOfUptoSaid : Prop := fnExactCyclesOfUptoRow.holds Try.pinned (OpenSpec.upto fnExactCyclesOfSpec)

/-- 'laws.FnExactPermuteCiphers', WHERE WHAT IT READS IS OF BULK AT MOST 1048576: true; the input reads as it did. -/
def fnExactPermuteCiphersUptoRow : OpenClaim := { program := "ytlalpblinhhnlaa", sum := "84f5c5a4368c0e75951f4c64cc47a3e8613672209b790f42568d56ff6160ed06", func := "loop.example/g00878/laws.FnExactPermuteCiphers", spec := "fnExactPermuteCiphers", unfollowed := true, recurses := true, apart := false, narrowed := true }
def FnExactPermuteCiphersUptoSaid : Prop := fnExactPermuteCiphersUptoRow.holds Try.pinned (OpenSpec.upto fnExactPermuteCiphersSpec)

/-- 'laws.FnExactIsValidVote', WHERE WHAT IT READS IS OF BULK AT MOST 1048576: true; the input reads as it did. -/
def fnExactIsValidVoteUptoRow : OpenClaim := { program := "ytlalpblinhhnlaa", sum := "84f5c5a4368c0e75951f4c64cc47a3e8613672209b790f42568d56ff6160ed06", func := "loop.example/g00878/laws.FnExactIsValidVote", spec := "fnExactIsValidVote", unfollowed := true, recurses := true, apart := false, narrowed := true }
def FnExactIsValidVoteUptoSaid : Prop := fnExactIsValidVoteUptoRow.holds Try.pinned (OpenSpec.upto fnExactIsValidVoteSpec)

/-- 'laws.FnPrimes', WHERE WHAT IT READS IS OF BULK AT MOST 1048576: true; the input reads as it did. -/
def fnPrimesUptoRow : OpenClaim := { program := "ytlalpblinhhnlaa", sum := "84f5c5a4368c0e75951f4c64cc47a3e8613672209b790f42568d56ff6160ed06", func := "loop.example/g00878/laws.FnPrimes", spec := "fnPrimes", unfollowed := true, recurses := true, apart := false, narrowed := true }
def FnPrimesUptoSaid : Prop := fnPrimesUptoRow.holds Try.pinned (OpenSpec.upto fnPrimesSpec)

/-- 'laws.FnExactIsSealable', WHERE WHAT IT READS IS OF BULK AT MOST 1048576: true; the input reads as it did. -/
def fnExactIsSealableUptoRow : OpenClaim := { program := "ytlalpblinhhnlaa", sum := "84f5c5a4368c0e75951f4c64cc47a3e8613672209b790f42568d56ff6160ed06", func := "loop.example/g00878/laws.FnExactIsSealable", spec := "fnExactIsSealable", apart := false, narrowed := true }
def FnExactIsSealableUptoSaid : Prop := fnExactIsSealableUptoRow.holds Try.pinned (OpenSpec.upto fnExactIsSealableSpec)

/-- 'laws.FnAgreeingPoints', WHERE WHAT IT READS IS OF BULK AT MOST 1048576: true; the input reads as it did. -/
def fnAgreeingPointsUptoRow : OpenClaim := { program := "ytlalpblinhhnlaa", sum := "84f5c5a4368c0e75951f4c64cc47a3e8613672209b790f42568d56ff6160ed06", func := "loop.example/g00878/laws.FnAgreeingPoints", spec := "fnAgreeingPoints", unfollowed := true, recurses := true, apart := false, narrowed := true }
def FnAgreeingPointsUptoSaid : Prop := fnAgreeingPointsUptoRow.holds Try.pinned (OpenSpec.upto fnAgreeingPointsSpec)

/-- 'laws.FnExactPermutationOfMatrix', WHERE WHAT IT READS IS OF BULK AT MOST 1048576: true; the input reads as it did. -/
def fnExactPermutationOfMatrixUptoRow : OpenClaim := { program := "ytlalpblinhhnlaa", sum := "84f5c5a4368c0e75951f4c64cc47a3e8613672209b790f42568d56ff6160ed06", func := "loop.example/g00878/laws.FnExactPermutationOfMatrix", spec := "fnExactPermutationOfMatrix", unfollowed := true, recurses := true, apart := false, narrowed := true }
def FnExactPermutationOfMatrixUptoSaid : Prop := fnExactPermutationOfMatrixUptoRow.holds Try.pinned (OpenSpec.upto fnExactPermutationOfMatrixSpec)

/-- 'laws.FnGroups', WHERE WHAT IT READS IS OF BULK AT MOST 1048576: true; the input reads as it did. -/
def fnGroupsUptoRow : OpenClaim := { program := "ytlalpblinhhnlaa", sum := "84f5c5a4368c0e75951f4c64cc47a3e8613672209b790f42568d56ff6160ed06", func := "loop.example/g00878/laws.FnGroups", spec := "fnGroups", unfollowed := true, recurses := true, apart := false, narrowed := true }
def FnGroupsUptoSaid : Prop := fnGroupsUptoRow.holds Try.pinned (OpenSpec.upto fnGroupsSpec)

/-- 'laws.FnResidues', WHERE WHAT IT READS IS OF BULK AT MOST 1048576: true; the input reads as it did. -/
def fnResiduesUptoRow : OpenClaim := { program := "ytlalpblinhhnlaa", sum := "84f5c5a4368c0e75951f4c64cc47a3e8613672209b790f42568d56ff6160ed06", func := "loop.example/g00878/laws.FnResidues", spec := "fnResidues", unfollowed := true, recurses := true, apart := false, narrowed := true }
def FnResiduesUptoSaid : Prop := fnResiduesUptoRow.holds Try.pinned (OpenSpec.upto fnResiduesSpec)

/-- 'laws.FnPolynomials', WHERE WHAT IT READS IS OF BULK AT MOST 1048576: true; the input reads as it did. -/
def fnPolynomialsUptoRow : OpenClaim := { program := "ytlalpblinhhnlaa", sum := "84f5c5a4368c0e75951f4c64cc47a3e8613672209b790f42568d56ff6160ed06", func := "loop.example/g00878/laws.FnPolynomials", spec := "fnPolynomials", unfollowed := true, recurses := true, apart := false, narrowed := true }
def FnPolynomialsUptoSaid : Prop := fnPolynomialsUptoRow.holds Try.pinned (OpenSpec.upto fnPolynomialsSpec)

/-- 'laws.FnPermutations', WHERE WHAT IT READS IS OF BULK AT MOST 1048576: true; the input reads as it did. -/
def fnPermutationsUptoRow : OpenClaim := { program := "ytlalpblinhhnlaa", sum := "84f5c5a4368c0e75951f4c64cc47a3e8613672209b790f42568d56ff6160ed06", func := "loop.example/g00878/laws.FnPermutations", spec := "fnPermutations", unfollowed := true, recurses := true, apart := false, narrowed := true }
def FnPermutationsUptoSaid : Prop := fnPermutationsUptoRow.holds Try.pinned (OpenSpec.upto fnPermutationsSpec)

/-- 'laws.FnExactCodeOf', WHERE WHAT IT READS IS OF BULK AT MOST 1048576: true; the input reads as it did. -/
def fnExactCodeOfUptoRow : OpenClaim := { program := "ytlalpblinhhnlaa", sum := "84f5c5a4368c0e75951f4c64cc47a3e8613672209b790f42568d56ff6160ed06", func := "loop.example/g00878/laws.FnExactCodeOf", spec := "fnExactCodeOf", unfollowed := true, recurses := true, apart := false, narrowed := true }
def FnExactCodeOfUptoSaid : Prop := fnExactCodeOfUptoRow.holds Try.pinned (OpenSpec.upto fnExactCodeOfSpec)

end Rows
end Go.Proofs.Ytlalpblinhhnlaa

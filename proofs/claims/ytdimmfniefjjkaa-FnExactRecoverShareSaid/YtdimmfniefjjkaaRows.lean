/-
  No cell of these rows narrows 'for every input' (looked for: loops, veiled, ifaces, maps, wideKeys, modest, calm, conditions, laid).
  DERIVED. THE GIVEN ROWS OF THIS SEAT. 12 by the template 'for every input the law returns true; each argument reads behind the call as it read before'; 0 by the template 'total and deterministic' (their statements: YtdimmfniefjjkaaTotals.lean).
  GIVEN WITH THE SEED: the statements are not yours to turn. If you find one false, say at which input.
  Laid BY PROGRAM, IN A SANDBOX (cutbox-rows.mjs): the forced cells as the released guide's own fill.sh prints them over the translation 56f6d09174a830eb… (all of the seat's roots in one cut). By AI agents, Wed Nov 11 2026. No macro, syntax, notation, axiom, sorry.
-/
import Derived.Test.YtdimmfniefjjkaaChecked
import GoSem.Claim
import GoSem.ClaimJoined
import GoSem.ClaimMapViews
import Derived.JoinedTies
import Derived.KernelRfl
namespace Go.Proofs.Ytdimmfniefjjkaa
/- THE CELL 'sum', in the pinned program and in every row, IS THE sha256 OF THE DUMP (.gsa) THAT YtdimmfniefjjkaaProg.lean LOADS. Nothing in Lean hashes anything: it is a label: what it is worth is what the hold of that sum in a sandbox is worth. -/
noncomputable def Try.pinned : Pinned := { name := "ytdimmfniefjjkaa", sum := "56f6d09174a830eb97991990e02ffc1f4e80c0b30f5030b6e66a09bf0c881dca", checked := Try.checked }
namespace Rows
def none {H : Type} : Left H := { results := [], args := [] }

/-- 'laws.FnPrimes': WHATEVER THE INPUT: true; the input reads as it did. -/
def fnPrimesSpec : ChangeSpec := { name := "fnPrimes", fn := fun _ => fun
  | [d1, d2] => { results := [.lit (.bool true)], args := [d1, d2] }
  | _ => none }
def fnPrimesRow : OpenClaim := { program := "ytdimmfniefjjkaa", sum := "56f6d09174a830eb97991990e02ffc1f4e80c0b30f5030b6e66a09bf0c881dca", func := "loop.example/g00878/laws.FnPrimes", spec := "fnPrimes", unfollowed := true, recurses := true, apart := false }
def FnPrimesSaid : Prop := fnPrimesRow.holds Try.pinned (OpenSpec.ofChange fnPrimesSpec)

/-- ITS FALSE NEIGHBOUR: 'it returns false'. Refute it at one input. -/
def fnPrimesWrong : ChangeSpec := { name := "fnPrimes", fn := fun _ => fun
  | [d1, d2] => { results := [.lit (.bool false)], args := [d1, d2] }
  | _ => none }
def FnPrimesWrongFalsely : Prop := fnPrimesRow.holds Try.pinned (OpenSpec.ofChange fnPrimesWrong)

/-- 'laws.FnEncryption': WHATEVER THE INPUT: true; the input reads as it did. -/
def fnEncryptionSpec : ChangeSpec := { name := "fnEncryption", fn := fun _ => fun
  | [d1, d2] => { results := [.lit (.bool true)], args := [d1, d2] }
  | _ => none }
def fnEncryptionRow : OpenClaim := { program := "ytdimmfniefjjkaa", sum := "56f6d09174a830eb97991990e02ffc1f4e80c0b30f5030b6e66a09bf0c881dca", func := "loop.example/g00878/laws.FnEncryption", spec := "fnEncryption", unfollowed := true, recurses := true, apart := false }
def FnEncryptionSaid : Prop := fnEncryptionRow.holds Try.pinned (OpenSpec.ofChange fnEncryptionSpec)

/-- ITS FALSE NEIGHBOUR: 'it returns false'. Refute it at one input. -/
def fnEncryptionWrong : ChangeSpec := { name := "fnEncryption", fn := fun _ => fun
  | [d1, d2] => { results := [.lit (.bool false)], args := [d1, d2] }
  | _ => none }
def FnEncryptionWrongFalsely : Prop := fnEncryptionRow.holds Try.pinned (OpenSpec.ofChange fnEncryptionWrong)

/-- 'laws.FnExactChainCommits': WHATEVER THE INPUT: true; the input reads as it did. -/
def fnExactChainCommitsSpec : ChangeSpec := { name := "fnExactChainCommits", fn := fun _ => fun
  | [d1, d2, d3] => { results := [.lit (.bool true)], args := [d1, d2, d3] }
  | _ => none }
def fnExactChainCommitsRow : OpenClaim := { program := "ytdimmfniefjjkaa", sum := "56f6d09174a830eb97991990e02ffc1f4e80c0b30f5030b6e66a09bf0c881dca", func := "loop.example/g00878/laws.FnExactChainCommits", spec := "fnExactChainCommits", unfollowed := true, recurses := true, apart := false }
def FnExactChainCommitsSaid : Prop := fnExactChainCommitsRow.holds Try.pinned (OpenSpec.ofChange fnExactChainCommitsSpec)

/-- ITS FALSE NEIGHBOUR: 'it returns false'. Refute it at one input. -/
def fnExactChainCommitsWrong : ChangeSpec := { name := "fnExactChainCommits", fn := fun _ => fun
  | [d1, d2, d3] => { results := [.lit (.bool false)], args := [d1, d2, d3] }
  | _ => none }
def FnExactChainCommitsWrongFalsely : Prop := fnExactChainCommitsRow.holds Try.pinned (OpenSpec.ofChange fnExactChainCommitsWrong)

/-- 'laws.FnExtraction': WHATEVER THE INPUT: true; the input reads as it did. -/
def fnExtractionSpec : ChangeSpec := { name := "fnExtraction", fn := fun _ => fun
  | [d1, d2] => { results := [.lit (.bool true)], args := [d1, d2] }
  | _ => none }
def fnExtractionRow : OpenClaim := { program := "ytdimmfniefjjkaa", sum := "56f6d09174a830eb97991990e02ffc1f4e80c0b30f5030b6e66a09bf0c881dca", func := "loop.example/g00878/laws.FnExtraction", spec := "fnExtraction", unfollowed := true, recurses := true, apart := false }
def FnExtractionSaid : Prop := fnExtractionRow.holds Try.pinned (OpenSpec.ofChange fnExtractionSpec)

/-- ITS FALSE NEIGHBOUR: 'it returns false'. Refute it at one input. -/
def fnExtractionWrong : ChangeSpec := { name := "fnExtraction", fn := fun _ => fun
  | [d1, d2] => { results := [.lit (.bool false)], args := [d1, d2] }
  | _ => none }
def FnExtractionWrongFalsely : Prop := fnExtractionRow.holds Try.pinned (OpenSpec.ofChange fnExtractionWrong)

/-- 'laws.FnDerived': WHATEVER THE INPUT: true; the input reads as it did. -/
def fnDerivedSpec : ChangeSpec := { name := "fnDerived", fn := fun _ => fun
  | [d1, d2] => { results := [.lit (.bool true)], args := [d1, d2] }
  | _ => none }
def fnDerivedRow : OpenClaim := { program := "ytdimmfniefjjkaa", sum := "56f6d09174a830eb97991990e02ffc1f4e80c0b30f5030b6e66a09bf0c881dca", func := "loop.example/g00878/laws.FnDerived", spec := "fnDerived", unfollowed := true, recurses := true, apart := false }
def FnDerivedSaid : Prop := fnDerivedRow.holds Try.pinned (OpenSpec.ofChange fnDerivedSpec)

/-- ITS FALSE NEIGHBOUR: 'it returns false'. Refute it at one input. -/
def fnDerivedWrong : ChangeSpec := { name := "fnDerived", fn := fun _ => fun
  | [d1, d2] => { results := [.lit (.bool false)], args := [d1, d2] }
  | _ => none }
def FnDerivedWrongFalsely : Prop := fnDerivedRow.holds Try.pinned (OpenSpec.ofChange fnDerivedWrong)

/-- 'laws.FnExactColumnCommits': WHATEVER THE INPUT: true; the input reads as it did. -/
def fnExactColumnCommitsSpec : ChangeSpec := { name := "fnExactColumnCommits", fn := fun _ => fun
  | [d1, d2, d3] => { results := [.lit (.bool true)], args := [d1, d2, d3] }
  | _ => none }
def fnExactColumnCommitsRow : OpenClaim := { program := "ytdimmfniefjjkaa", sum := "56f6d09174a830eb97991990e02ffc1f4e80c0b30f5030b6e66a09bf0c881dca", func := "loop.example/g00878/laws.FnExactColumnCommits", spec := "fnExactColumnCommits", unfollowed := true, recurses := true, apart := false }
def FnExactColumnCommitsSaid : Prop := fnExactColumnCommitsRow.holds Try.pinned (OpenSpec.ofChange fnExactColumnCommitsSpec)

/-- ITS FALSE NEIGHBOUR: 'it returns false'. Refute it at one input. -/
def fnExactColumnCommitsWrong : ChangeSpec := { name := "fnExactColumnCommits", fn := fun _ => fun
  | [d1, d2, d3] => { results := [.lit (.bool false)], args := [d1, d2, d3] }
  | _ => none }
def FnExactColumnCommitsWrongFalsely : Prop := fnExactColumnCommitsRow.holds Try.pinned (OpenSpec.ofChange fnExactColumnCommitsWrong)

/-- 'laws.FnExactColumnChallenges': WHATEVER THE INPUT: true; the input reads as it did. -/
def fnExactColumnChallengesSpec : ChangeSpec := { name := "fnExactColumnChallenges", fn := fun _ => fun
  | [d1, d2, d3, d4, d5] => { results := [.lit (.bool true)], args := [d1, d2, d3, d4, d5] }
  | _ => none }
def fnExactColumnChallengesRow : OpenClaim := { program := "ytdimmfniefjjkaa", sum := "56f6d09174a830eb97991990e02ffc1f4e80c0b30f5030b6e66a09bf0c881dca", func := "loop.example/g00878/laws.FnExactColumnChallenges", spec := "fnExactColumnChallenges", unfollowed := true, recurses := true, apart := false }
def FnExactColumnChallengesSaid : Prop := fnExactColumnChallengesRow.holds Try.pinned (OpenSpec.ofChange fnExactColumnChallengesSpec)

/-- ITS FALSE NEIGHBOUR: 'it returns false'. Refute it at one input. -/
def fnExactColumnChallengesWrong : ChangeSpec := { name := "fnExactColumnChallenges", fn := fun _ => fun
  | [d1, d2, d3, d4, d5] => { results := [.lit (.bool false)], args := [d1, d2, d3, d4, d5] }
  | _ => none }
def FnExactColumnChallengesWrongFalsely : Prop := fnExactColumnChallengesRow.holds Try.pinned (OpenSpec.ofChange fnExactColumnChallengesWrong)

/-- 'laws.FnHashes': WHATEVER THE INPUT: true; the input reads as it did. -/
def fnHashesSpec : ChangeSpec := { name := "fnHashes", fn := fun _ => fun
  | [d1, d2] => { results := [.lit (.bool true)], args := [d1, d2] }
  | _ => none }
def fnHashesRow : OpenClaim := { program := "ytdimmfniefjjkaa", sum := "56f6d09174a830eb97991990e02ffc1f4e80c0b30f5030b6e66a09bf0c881dca", func := "loop.example/g00878/laws.FnHashes", spec := "fnHashes", inPlace := ["internal/bytealg.IndexByteString"], unfollowed := true, recurses := true, apart := false }
def FnHashesSaid : Prop := fnHashesRow.holds Try.pinned (OpenSpec.ofChange fnHashesSpec)

/-- ITS FALSE NEIGHBOUR: 'it returns false'. Refute it at one input. -/
def fnHashesWrong : ChangeSpec := { name := "fnHashes", fn := fun _ => fun
  | [d1, d2] => { results := [.lit (.bool false)], args := [d1, d2] }
  | _ => none }
def FnHashesWrongFalsely : Prop := fnHashesRow.holds Try.pinned (OpenSpec.ofChange fnHashesWrong)

/-- 'laws.FnExactRecoverShare': WHATEVER THE INPUT: true; the input reads as it did. -/
def fnExactRecoverShareSpec : ChangeSpec := { name := "fnExactRecoverShare", fn := fun _ => fun
  | [d1, d2, d3, d4, d5] => { results := [.lit (.bool true)], args := [d1, d2, d3, d4, d5] }
  | _ => none }
def fnExactRecoverShareRow : OpenClaim := { program := "ytdimmfniefjjkaa", sum := "56f6d09174a830eb97991990e02ffc1f4e80c0b30f5030b6e66a09bf0c881dca", func := "loop.example/g00878/laws.FnExactRecoverShare", spec := "fnExactRecoverShare", unfollowed := true, recurses := true, apart := false }
def FnExactRecoverShareSaid : Prop := fnExactRecoverShareRow.holds Try.pinned (OpenSpec.ofChange fnExactRecoverShareSpec)

/-- ITS FALSE NEIGHBOUR: 'it returns false'. Refute it at one input. -/
def fnExactRecoverShareWrong : ChangeSpec := { name := "fnExactRecoverShare", fn := fun _ => fun
  | [d1, d2, d3, d4, d5] => { results := [.lit (.bool false)], args := [d1, d2, d3, d4, d5] }
  | _ => none }
def FnExactRecoverShareWrongFalsely : Prop := fnExactRecoverShareRow.holds Try.pinned (OpenSpec.ofChange fnExactRecoverShareWrong)

/-- 'laws.FnExactSumShares': WHATEVER THE INPUT: true; the input reads as it did. -/
def fnExactSumSharesSpec : ChangeSpec := { name := "fnExactSumShares", fn := fun _ => fun
  | [d1, d2, d3] => { results := [.lit (.bool true)], args := [d1, d2, d3] }
  | _ => none }
def fnExactSumSharesRow : OpenClaim := { program := "ytdimmfniefjjkaa", sum := "56f6d09174a830eb97991990e02ffc1f4e80c0b30f5030b6e66a09bf0c881dca", func := "loop.example/g00878/laws.FnExactSumShares", spec := "fnExactSumShares", unfollowed := true, recurses := true, apart := false }
def FnExactSumSharesSaid : Prop := fnExactSumSharesRow.holds Try.pinned (OpenSpec.ofChange fnExactSumSharesSpec)

/-- ITS FALSE NEIGHBOUR: 'it returns false'. Refute it at one input. -/
def fnExactSumSharesWrong : ChangeSpec := { name := "fnExactSumShares", fn := fun _ => fun
  | [d1, d2, d3] => { results := [.lit (.bool false)], args := [d1, d2, d3] }
  | _ => none }
def FnExactSumSharesWrongFalsely : Prop := fnExactSumSharesRow.holds Try.pinned (OpenSpec.ofChange fnExactSumSharesWrong)

/-- 'laws.FnExactMixCiphers': WHATEVER THE INPUT: true; the input reads as it did. -/
def fnExactMixCiphersSpec : ChangeSpec := { name := "fnExactMixCiphers", fn := fun _ => fun
  | [d1, d2, d3, d4, d5] => { results := [.lit (.bool true)], args := [d1, d2, d3, d4, d5] }
  | _ => none }
def fnExactMixCiphersRow : OpenClaim := { program := "ytdimmfniefjjkaa", sum := "56f6d09174a830eb97991990e02ffc1f4e80c0b30f5030b6e66a09bf0c881dca", func := "loop.example/g00878/laws.FnExactMixCiphers", spec := "fnExactMixCiphers", unfollowed := true, recurses := true, apart := false }
def FnExactMixCiphersSaid : Prop := fnExactMixCiphersRow.holds Try.pinned (OpenSpec.ofChange fnExactMixCiphersSpec)

/-- ITS FALSE NEIGHBOUR: 'it returns false'. Refute it at one input. -/
def fnExactMixCiphersWrong : ChangeSpec := { name := "fnExactMixCiphers", fn := fun _ => fun
  | [d1, d2, d3, d4, d5] => { results := [.lit (.bool false)], args := [d1, d2, d3, d4, d5] }
  | _ => none }
def FnExactMixCiphersWrongFalsely : Prop := fnExactMixCiphersRow.holds Try.pinned (OpenSpec.ofChange fnExactMixCiphersWrong)

/-- 'laws.FnExactIsMixBy': WHATEVER THE INPUT: true; the input reads as it did. -/
def fnExactIsMixBySpec : ChangeSpec := { name := "fnExactIsMixBy", fn := fun _ => fun
  | [d1, d2, d3, d4, d5, d6] => { results := [.lit (.bool true)], args := [d1, d2, d3, d4, d5, d6] }
  | _ => none }
def fnExactIsMixByRow : OpenClaim := { program := "ytdimmfniefjjkaa", sum := "56f6d09174a830eb97991990e02ffc1f4e80c0b30f5030b6e66a09bf0c881dca", func := "loop.example/g00878/laws.FnExactIsMixBy", spec := "fnExactIsMixBy", unfollowed := true, recurses := true, apart := false }
def FnExactIsMixBySaid : Prop := fnExactIsMixByRow.holds Try.pinned (OpenSpec.ofChange fnExactIsMixBySpec)

/-- ITS FALSE NEIGHBOUR: 'it returns false'. Refute it at one input. -/
def fnExactIsMixByWrong : ChangeSpec := { name := "fnExactIsMixBy", fn := fun _ => fun
  | [d1, d2, d3, d4, d5, d6] => { results := [.lit (.bool false)], args := [d1, d2, d3, d4, d5, d6] }
  | _ => none }
def FnExactIsMixByWrongFalsely : Prop := fnExactIsMixByRow.holds Try.pinned (OpenSpec.ofChange fnExactIsMixByWrong)

/- THE SECOND FORM. 'bulk': how many values and letters a reading holds, each counted each time it is reached (what is shared counts as often as it is met; a slice's spare places count too). A statement '..UptoSaid' is the law's where the arguments, and the package variables that the reading takes, are together of bulk at most 1048576: NARROWER than '..Said'. Prove '..Said' where nothing that the law and all that it calls make is longer than what came in: it says more and counts as full. Else prove '..UptoSaid'. A law counts once. -/
mutual
def uptoBulk {H : Type} : DataW H → Nat
  | .lit (.string bytes) => bytes.length + 1
  | .lit _ => 1
  | .nil => 1
  | .ptr d => uptoBulk d + 1
  | .slice elems spare => uptoBulkAll elems + uptoBulkAll spare + 1
  | .agg parts => uptoBulkAll parts + 1
  | .iface _ d => uptoBulk d + 1
  | .map entries => uptoBulkEntries entries + 1
  | .held _ => 1
def uptoBulkAll {H : Type} : List (DataW H) → Nat
  | [] => 0
  | d :: r => uptoBulk d + uptoBulkAll r
def uptoBulkEntries {H : Type} : List (Lit × DataW H) → Nat
  | [] => 0
  | x :: r => uptoBulkEntry x + uptoBulkEntries r
def uptoBulkEntry {H : Type} : Lit × DataW H → Nat
  | (.string bytes, d) => bytes.length + uptoBulk d + 1
  | (_, d) => uptoBulk d + 1
 end
def uptoSmall : (H : Type) → List (DataW H) → Bool := fun _ ds => decide (uptoBulkAll ds ≤ 1048576)
def OpenSpec.upto (s : _root_.Go.ChangeSpec) : _root_.Go.OpenSpec := { _root_.Go.OpenSpec.ofChange s with cond := some uptoSmall }

/-- 'laws.FnPrimes', WHERE WHAT IT READS IS OF BULK AT MOST 1048576: true; the input reads as it did. -/
def fnPrimesUptoRow : OpenClaim := { program := "ytdimmfniefjjkaa", sum := "56f6d09174a830eb97991990e02ffc1f4e80c0b30f5030b6e66a09bf0c881dca", func := "loop.example/g00878/laws.FnPrimes", spec := "fnPrimes", unfollowed := true, recurses := true, apart := false, narrowed := true }
def FnPrimesUptoSaid : Prop := fnPrimesUptoRow.holds Try.pinned (OpenSpec.upto fnPrimesSpec)

/-- 'laws.FnEncryption', WHERE WHAT IT READS IS OF BULK AT MOST 1048576: true; the input reads as it did. -/
def fnEncryptionUptoRow : OpenClaim := { program := "ytdimmfniefjjkaa", sum := "56f6d09174a830eb97991990e02ffc1f4e80c0b30f5030b6e66a09bf0c881dca", func := "loop.example/g00878/laws.FnEncryption", spec := "fnEncryption", unfollowed := true, recurses := true, apart := false, narrowed := true }
def FnEncryptionUptoSaid : Prop := fnEncryptionUptoRow.holds Try.pinned (OpenSpec.upto fnEncryptionSpec)

/-- 'laws.FnExactChainCommits', WHERE WHAT IT READS IS OF BULK AT MOST 1048576: true; the input reads as it did. -/
def fnExactChainCommitsUptoRow : OpenClaim := { program := "ytdimmfniefjjkaa", sum := "56f6d09174a830eb97991990e02ffc1f4e80c0b30f5030b6e66a09bf0c881dca", func := "loop.example/g00878/laws.FnExactChainCommits", spec := "fnExactChainCommits", unfollowed := true, recurses := true, apart := false, narrowed := true }
def FnExactChainCommitsUptoSaid : Prop := fnExactChainCommitsUptoRow.holds Try.pinned (OpenSpec.upto fnExactChainCommitsSpec)

/-- 'laws.FnExtraction', WHERE WHAT IT READS IS OF BULK AT MOST 1048576: true; the input reads as it did. -/
def fnExtractionUptoRow : OpenClaim := { program := "ytdimmfniefjjkaa", sum := "56f6d09174a830eb97991990e02ffc1f4e80c0b30f5030b6e66a09bf0c881dca", func := "loop.example/g00878/laws.FnExtraction", spec := "fnExtraction", unfollowed := true, recurses := true, apart := false, narrowed := true }
def FnExtractionUptoSaid : Prop := fnExtractionUptoRow.holds Try.pinned (OpenSpec.upto fnExtractionSpec)

/-- 'laws.FnDerived', WHERE WHAT IT READS IS OF BULK AT MOST 1048576: true; the input reads as it did. -/
def fnDerivedUptoRow : OpenClaim := { program := "ytdimmfniefjjkaa", sum := "56f6d09174a830eb97991990e02ffc1f4e80c0b30f5030b6e66a09bf0c881dca", func := "loop.example/g00878/laws.FnDerived", spec := "fnDerived", unfollowed := true, recurses := true, apart := false, narrowed := true }
def FnDerivedUptoSaid : Prop := fnDerivedUptoRow.holds Try.pinned (OpenSpec.upto fnDerivedSpec)

/-- 'laws.FnExactColumnCommits', WHERE WHAT IT READS IS OF BULK AT MOST 1048576: true; the input reads as it did. -/
def fnExactColumnCommitsUptoRow : OpenClaim := { program := "ytdimmfniefjjkaa", sum := "56f6d09174a830eb97991990e02ffc1f4e80c0b30f5030b6e66a09bf0c881dca", func := "loop.example/g00878/laws.FnExactColumnCommits", spec := "fnExactColumnCommits", unfollowed := true, recurses := true, apart := false, narrowed := true }
def FnExactColumnCommitsUptoSaid : Prop := fnExactColumnCommitsUptoRow.holds Try.pinned (OpenSpec.upto fnExactColumnCommitsSpec)

/-- 'laws.FnExactColumnChallenges', WHERE WHAT IT READS IS OF BULK AT MOST 1048576: true; the input reads as it did. -/
def fnExactColumnChallengesUptoRow : OpenClaim := { program := "ytdimmfniefjjkaa", sum := "56f6d09174a830eb97991990e02ffc1f4e80c0b30f5030b6e66a09bf0c881dca", func := "loop.example/g00878/laws.FnExactColumnChallenges", spec := "fnExactColumnChallenges", unfollowed := true, recurses := true, apart := false, narrowed := true }
def FnExactColumnChallengesUptoSaid : Prop := fnExactColumnChallengesUptoRow.holds Try.pinned (OpenSpec.upto fnExactColumnChallengesSpec)

/-- 'laws.FnHashes', WHERE WHAT IT READS IS OF BULK AT MOST 1048576: true; the input reads as it did. -/
def fnHashesUptoRow : OpenClaim := { program := "ytdimmfniefjjkaa", sum := "56f6d09174a830eb97991990e02ffc1f4e80c0b30f5030b6e66a09bf0c881dca", func := "loop.example/g00878/laws.FnHashes", spec := "fnHashes", inPlace := ["internal/bytealg.IndexByteString"], unfollowed := true, recurses := true, apart := false, narrowed := true }
def FnHashesUptoSaid : Prop := fnHashesUptoRow.holds Try.pinned (OpenSpec.upto fnHashesSpec)

/-- 'laws.FnExactRecoverShare', WHERE WHAT IT READS IS OF BULK AT MOST 1048576: true; the input reads as it did. -/
def fnExactRecoverShareUptoRow : OpenClaim := { program := "ytdimmfniefjjkaa", sum := "56f6d09174a830eb97991990e02ffc1f4e80c0b30f5030b6e66a09bf0c881dca", func := "loop.example/g00878/laws.FnExactRecoverShare", spec := "fnExactRecoverShare", unfollowed := true, recurses := true, apart := false, narrowed := true }
def FnExactRecoverShareUptoSaid : Prop := fnExactRecoverShareUptoRow.holds Try.pinned (OpenSpec.upto fnExactRecoverShareSpec)

/-- 'laws.FnExactSumShares', WHERE WHAT IT READS IS OF BULK AT MOST 1048576: true; the input reads as it did. -/
def fnExactSumSharesUptoRow : OpenClaim := { program := "ytdimmfniefjjkaa", sum := "56f6d09174a830eb97991990e02ffc1f4e80c0b30f5030b6e66a09bf0c881dca", func := "loop.example/g00878/laws.FnExactSumShares", spec := "fnExactSumShares", unfollowed := true, recurses := true, apart := false, narrowed := true }
def FnExactSumSharesUptoSaid : Prop := fnExactSumSharesUptoRow.holds Try.pinned (OpenSpec.upto fnExactSumSharesSpec)

/-- 'laws.FnExactMixCiphers', WHERE WHAT IT READS IS OF BULK AT MOST 1048576: true; the input reads as it did. -/
def fnExactMixCiphersUptoRow : OpenClaim := { program := "ytdimmfniefjjkaa", sum := "56f6d09174a830eb97991990e02ffc1f4e80c0b30f5030b6e66a09bf0c881dca", func := "loop.example/g00878/laws.FnExactMixCiphers", spec := "fnExactMixCiphers", unfollowed := true, recurses := true, apart := false, narrowed := true }
def FnExactMixCiphersUptoSaid : Prop := fnExactMixCiphersUptoRow.holds Try.pinned (OpenSpec.upto fnExactMixCiphersSpec)

/-- 'laws.FnExactIsMixBy', WHERE WHAT IT READS IS OF BULK AT MOST 1048576: true; the input reads as it did. -/
def fnExactIsMixByUptoRow : OpenClaim := { program := "ytdimmfniefjjkaa", sum := "56f6d09174a830eb97991990e02ffc1f4e80c0b30f5030b6e66a09bf0c881dca", func := "loop.example/g00878/laws.FnExactIsMixBy", spec := "fnExactIsMixBy", unfollowed := true, recurses := true, apart := false, narrowed := true }
def FnExactIsMixByUptoSaid : Prop := fnExactIsMixByUptoRow.holds Try.pinned (OpenSpec.upto fnExactIsMixBySpec)

end Rows
end Go.Proofs.Ytdimmfniefjjkaa

/-
  No cell of these rows narrows 'for every input' (looked for: loops, veiled, ifaces, maps, wideKeys, modest, calm, conditions, laid).
  DERIVED. THE GIVEN ROWS OF THIS SEAT. 8 by the template 'for every input the law returns true; each argument reads behind the call as it read before'; 0 by the template 'total and deterministic' (their statements: YthamimjejlicpaaTotals.lean).
  GIVEN WITH THE SEED: the statements are not yours to turn. If you find one false, say at which input.
  Laid BY PROGRAM, IN A SANDBOX (cutbox-rows.mjs): the forced cells as the released guide's own fill.sh prints them over the translation 808e82b43d8d8160… (all of the seat's roots in one cut). By AI agents, Wed Nov 11 2026. No macro, syntax, notation, axiom, sorry.
-/
import Derived.Test.YthamimjejlicpaaChecked
import GoSem.Claim
import GoSem.ClaimJoined
import GoSem.ClaimMapViews
import Derived.JoinedTies
import Derived.KernelRfl
namespace Go.Proofs.Ythamimjejlicpaa
/- THE CELL 'sum', in the pinned program and in every row, IS THE sha256 OF THE DUMP (.gsa) THAT YthamimjejlicpaaProg.lean LOADS. Nothing in Lean hashes anything: it is a label: what it is worth is what the hold of that sum in a sandbox is worth. -/
noncomputable def Try.pinned : Pinned := { name := "ythamimjejlicpaa", sum := "808e82b43d8d81608f70b1127aff6ba74ec3328b3c51d69ef46af461fbc2e0b8", checked := Try.checked }
namespace Rows
def none {H : Type} : Left H := { results := [], args := [] }

/-- 'laws.FnDerived': WHATEVER THE INPUT: true; the input reads as it did. -/
def fnDerivedSpec : ChangeSpec := { name := "fnDerived", fn := fun _ => fun
  | [d1, d2] => { results := [.lit (.bool true)], args := [d1, d2] }
  | _ => none }
def fnDerivedRow : OpenClaim := { program := "ythamimjejlicpaa", sum := "808e82b43d8d81608f70b1127aff6ba74ec3328b3c51d69ef46af461fbc2e0b8", func := "loop.example/g00878/laws.FnDerived", spec := "fnDerived", unfollowed := true, recurses := true, apart := false }
def FnDerivedSaid : Prop := fnDerivedRow.holds Try.pinned (OpenSpec.ofChange fnDerivedSpec)

/-- ITS FALSE NEIGHBOUR: 'it returns false'. Refute it at one input. -/
def fnDerivedWrong : ChangeSpec := { name := "fnDerived", fn := fun _ => fun
  | [d1, d2] => { results := [.lit (.bool false)], args := [d1, d2] }
  | _ => none }
def FnDerivedWrongFalsely : Prop := fnDerivedRow.holds Try.pinned (OpenSpec.ofChange fnDerivedWrong)

/-- 'laws.FnHashes': WHATEVER THE INPUT: true; the input reads as it did. -/
def fnHashesSpec : ChangeSpec := { name := "fnHashes", fn := fun _ => fun
  | [d1, d2] => { results := [.lit (.bool true)], args := [d1, d2] }
  | _ => none }
def fnHashesRow : OpenClaim := { program := "ythamimjejlicpaa", sum := "808e82b43d8d81608f70b1127aff6ba74ec3328b3c51d69ef46af461fbc2e0b8", func := "loop.example/g00878/laws.FnHashes", spec := "fnHashes", inPlace := ["internal/bytealg.IndexByteString"], unfollowed := true, recurses := true, apart := false }
def FnHashesSaid : Prop := fnHashesRow.holds Try.pinned (OpenSpec.ofChange fnHashesSpec)

/-- ITS FALSE NEIGHBOUR: 'it returns false'. Refute it at one input. -/
def fnHashesWrong : ChangeSpec := { name := "fnHashes", fn := fun _ => fun
  | [d1, d2] => { results := [.lit (.bool false)], args := [d1, d2] }
  | _ => none }
def FnHashesWrongFalsely : Prop := fnHashesRow.holds Try.pinned (OpenSpec.ofChange fnHashesWrong)

/-- 'laws.FnExactRecoverShare': WHATEVER THE INPUT: true; the input reads as it did. -/
def fnExactRecoverShareSpec : ChangeSpec := { name := "fnExactRecoverShare", fn := fun _ => fun
  | [d1, d2, d3, d4, d5] => { results := [.lit (.bool true)], args := [d1, d2, d3, d4, d5] }
  | _ => none }
def fnExactRecoverShareRow : OpenClaim := { program := "ythamimjejlicpaa", sum := "808e82b43d8d81608f70b1127aff6ba74ec3328b3c51d69ef46af461fbc2e0b8", func := "loop.example/g00878/laws.FnExactRecoverShare", spec := "fnExactRecoverShare", unfollowed := true, recurses := true, apart := false }
def FnExactRecoverShareSaid : Prop := fnExactRecoverShareRow.holds Try.pinned (OpenSpec.ofChange fnExactRecoverShareSpec)

/-- ITS FALSE NEIGHBOUR: 'it returns false'. Refute it at one input. -/
def fnExactRecoverShareWrong : ChangeSpec := { name := "fnExactRecoverShare", fn := fun _ => fun
  | [d1, d2, d3, d4, d5] => { results := [.lit (.bool false)], args := [d1, d2, d3, d4, d5] }
  | _ => none }
def FnExactRecoverShareWrongFalsely : Prop := fnExactRecoverShareRow.holds Try.pinned (OpenSpec.ofChange fnExactRecoverShareWrong)

/-- 'laws.FnExactSumShares': WHATEVER THE INPUT: true; the input reads as it did. -/
def fnExactSumSharesSpec : ChangeSpec := { name := "fnExactSumShares", fn := fun _ => fun
  | [d1, d2, d3] => { results := [.lit (.bool true)], args := [d1, d2, d3] }
  | _ => none }
def fnExactSumSharesRow : OpenClaim := { program := "ythamimjejlicpaa", sum := "808e82b43d8d81608f70b1127aff6ba74ec3328b3c51d69ef46af461fbc2e0b8", func := "loop.example/g00878/laws.FnExactSumShares", spec := "fnExactSumShares", unfollowed := true, recurses := true, apart := false }
def FnExactSumSharesSaid : Prop := fnExactSumSharesRow.holds Try.pinned (OpenSpec.ofChange fnExactSumSharesSpec)

/-- ITS FALSE NEIGHBOUR: 'it returns false'. Refute it at one input. -/
def fnExactSumSharesWrong : ChangeSpec := { name := "fnExactSumShares", fn := fun _ => fun
  | [d1, d2, d3] => { results := [.lit (.bool false)], args := [d1, d2, d3] }
  | _ => none }
def FnExactSumSharesWrongFalsely : Prop := fnExactSumSharesRow.holds Try.pinned (OpenSpec.ofChange fnExactSumSharesWrong)

/-- 'laws.FnExactRecoverMasked': WHATEVER THE INPUT: true; the input reads as it did. -/
def fnExactRecoverMaskedSpec : ChangeSpec := { name := "fnExactRecoverMasked", fn := fun _ => fun
  | [d1, d2, d3, d4] => { results := [.lit (.bool true)], args := [d1, d2, d3, d4] }
  | _ => none }
def fnExactRecoverMaskedRow : OpenClaim := { program := "ythamimjejlicpaa", sum := "808e82b43d8d81608f70b1127aff6ba74ec3328b3c51d69ef46af461fbc2e0b8", func := "loop.example/g00878/laws.FnExactRecoverMasked", spec := "fnExactRecoverMasked", unfollowed := true, recurses := true, apart := false }
def FnExactRecoverMaskedSaid : Prop := fnExactRecoverMaskedRow.holds Try.pinned (OpenSpec.ofChange fnExactRecoverMaskedSpec)

/-- ITS FALSE NEIGHBOUR: 'it returns false'. Refute it at one input. -/
def fnExactRecoverMaskedWrong : ChangeSpec := { name := "fnExactRecoverMasked", fn := fun _ => fun
  | [d1, d2, d3, d4] => { results := [.lit (.bool false)], args := [d1, d2, d3, d4] }
  | _ => none }
def FnExactRecoverMaskedWrongFalsely : Prop := fnExactRecoverMaskedRow.holds Try.pinned (OpenSpec.ofChange fnExactRecoverMaskedWrong)

/-- 'laws.FnExactMaskedShares': WHATEVER THE INPUT: true; the input reads as it did. -/
def fnExactMaskedSharesSpec : ChangeSpec := { name := "fnExactMaskedShares", fn := fun _ => fun
  | [d1, d2, d3, d4] => { results := [.lit (.bool true)], args := [d1, d2, d3, d4] }
  | _ => none }
def fnExactMaskedSharesRow : OpenClaim := { program := "ythamimjejlicpaa", sum := "808e82b43d8d81608f70b1127aff6ba74ec3328b3c51d69ef46af461fbc2e0b8", func := "loop.example/g00878/laws.FnExactMaskedShares", spec := "fnExactMaskedShares", unfollowed := true, recurses := true, apart := false }
def FnExactMaskedSharesSaid : Prop := fnExactMaskedSharesRow.holds Try.pinned (OpenSpec.ofChange fnExactMaskedSharesSpec)

/-- ITS FALSE NEIGHBOUR: 'it returns false'. Refute it at one input. -/
def fnExactMaskedSharesWrong : ChangeSpec := { name := "fnExactMaskedShares", fn := fun _ => fun
  | [d1, d2, d3, d4] => { results := [.lit (.bool false)], args := [d1, d2, d3, d4] }
  | _ => none }
def FnExactMaskedSharesWrongFalsely : Prop := fnExactMaskedSharesRow.holds Try.pinned (OpenSpec.ofChange fnExactMaskedSharesWrong)

/-- 'laws.FnExactRefreshKey': WHATEVER THE INPUT: true; the input reads as it did. -/
def fnExactRefreshKeySpec : ChangeSpec := { name := "fnExactRefreshKey", fn := fun _ => fun
  | [d1, d2, d3] => { results := [.lit (.bool true)], args := [d1, d2, d3] }
  | _ => none }
def fnExactRefreshKeyRow : OpenClaim := { program := "ythamimjejlicpaa", sum := "808e82b43d8d81608f70b1127aff6ba74ec3328b3c51d69ef46af461fbc2e0b8", func := "loop.example/g00878/laws.FnExactRefreshKey", spec := "fnExactRefreshKey", unfollowed := true, recurses := true, apart := false }
def FnExactRefreshKeySaid : Prop := fnExactRefreshKeyRow.holds Try.pinned (OpenSpec.ofChange fnExactRefreshKeySpec)

/-- ITS FALSE NEIGHBOUR: 'it returns false'. Refute it at one input. -/
def fnExactRefreshKeyWrong : ChangeSpec := { name := "fnExactRefreshKey", fn := fun _ => fun
  | [d1, d2, d3] => { results := [.lit (.bool false)], args := [d1, d2, d3] }
  | _ => none }
def FnExactRefreshKeyWrongFalsely : Prop := fnExactRefreshKeyRow.holds Try.pinned (OpenSpec.ofChange fnExactRefreshKeyWrong)

/-- 'laws.FnExactReshareKey': WHATEVER THE INPUT: true; the input reads as it did. -/
def fnExactReshareKeySpec : ChangeSpec := { name := "fnExactReshareKey", fn := fun _ => fun
  | [d1, d2, d3, d4] => { results := [.lit (.bool true)], args := [d1, d2, d3, d4] }
  | _ => none }
def fnExactReshareKeyRow : OpenClaim := { program := "ythamimjejlicpaa", sum := "808e82b43d8d81608f70b1127aff6ba74ec3328b3c51d69ef46af461fbc2e0b8", func := "loop.example/g00878/laws.FnExactReshareKey", spec := "fnExactReshareKey", unfollowed := true, recurses := true, apart := false }
def FnExactReshareKeySaid : Prop := fnExactReshareKeyRow.holds Try.pinned (OpenSpec.ofChange fnExactReshareKeySpec)

/-- ITS FALSE NEIGHBOUR: 'it returns false'. Refute it at one input. -/
def fnExactReshareKeyWrong : ChangeSpec := { name := "fnExactReshareKey", fn := fun _ => fun
  | [d1, d2, d3, d4] => { results := [.lit (.bool false)], args := [d1, d2, d3, d4] }
  | _ => none }
def FnExactReshareKeyWrongFalsely : Prop := fnExactReshareKeyRow.holds Try.pinned (OpenSpec.ofChange fnExactReshareKeyWrong)

/- THE SECOND FORM. 'bulk': how many values and letters a reading holds, each counted each time it is reached (what is shared counts as often as it is met; a slice's spare places count too). A statement '..UptoSaid' is the law's where the arguments, and the package variables that the reading takes, are together of bulk at most 1048576: NARROWER than '..Said'. Prove '..Said' where nothing that the law and all that it calls make is longer than what came in: it says more and counts as full. Else prove '..UptoSaid'. A law counts once. -/
mutual
def uptoBulk {H : Type} : DataW H → Nat
  | .lit (.string bytes) => bytes.length + 1
  | .lit _ => 1
  | .nil => 1
  | .ptr d => uptoBulk d + 1
  | .slice elems spare => uptoBulkAll elems + uptoBulkAll spare + 1
  | .agg parts => uptoBulkAll parts + 1
  | .iface _ d => uptoBulk d + 1
  | .map entries => uptoBulkEntries entries + 1
  | .held _ => 1
def uptoBulkAll {H : Type} : List (DataW H) → Nat
  | [] => 0
  | d :: r => uptoBulk d + uptoBulkAll r
def uptoBulkEntries {H : Type} : List (Lit × DataW H) → Nat
  | [] => 0
  | x :: r => uptoBulkEntry x + uptoBulkEntries r
def uptoBulkEntry {H : Type} : Lit × DataW H → Nat
  | (.string bytes, d) => bytes.length + uptoBulk d + 1
  | (_, d) => uptoBulk d + 1
 end
def uptoSmall : (H : Type) → List (DataW H) → Bool := fun _ ds => decide (uptoBulkAll ds ≤ 1048576)
def OpenSpec.upto (s : _root_.Go.ChangeSpec) : _root_.Go.OpenSpec := { _root_.Go.OpenSpec.ofChange s with cond := some uptoSmall }

/-- 'laws.FnDerived', WHERE WHAT IT READS IS OF BULK AT MOST 1048576: true; the input reads as it did. -/
def fnDerivedUptoRow : OpenClaim := { program := "ythamimjejlicpaa", sum := "808e82b43d8d81608f70b1127aff6ba74ec3328b3c51d69ef46af461fbc2e0b8", func := "loop.example/g00878/laws.FnDerived", spec := "fnDerived", unfollowed := true, recurses := true, apart := false, narrowed := true }
def FnDerivedUptoSaid : Prop := fnDerivedUptoRow.holds Try.pinned (OpenSpec.upto fnDerivedSpec)

/-- 'laws.FnHashes', WHERE WHAT IT READS IS OF BULK AT MOST 1048576: true; the input reads as it did. -/
def fnHashesUptoRow : OpenClaim := { program := "ythamimjejlicpaa", sum := "808e82b43d8d81608f70b1127aff6ba74ec3328b3c51d69ef46af461fbc2e0b8", func := "loop.example/g00878/laws.FnHashes", spec := "fnHashes", inPlace := ["internal/bytealg.IndexByteString"], unfollowed := true, recurses := true, apart := false, narrowed := true }
def FnHashesUptoSaid : Prop := fnHashesUptoRow.holds Try.pinned (OpenSpec.upto fnHashesSpec)

/-- 'laws.FnExactRecoverShare', WHERE WHAT IT READS IS OF BULK AT MOST 1048576: true; the input reads as it did. -/
def fnExactRecoverShareUptoRow : OpenClaim := { program := "ythamimjejlicpaa", sum := "808e82b43d8d81608f70b1127aff6ba74ec3328b3c51d69ef46af461fbc2e0b8", func := "loop.example/g00878/laws.FnExactRecoverShare", spec := "fnExactRecoverShare", unfollowed := true, recurses := true, apart := false, narrowed := true }
def FnExactRecoverShareUptoSaid : Prop := fnExactRecoverShareUptoRow.holds Try.pinned (OpenSpec.upto fnExactRecoverShareSpec)

/-- 'laws.FnExactSumShares', WHERE WHAT IT READS IS OF BULK AT MOST 1048576: true; the input reads as it did. -/
def fnExactSumSharesUptoRow : OpenClaim := { program := "ythamimjejlicpaa", sum := "808e82b43d8d81608f70b1127aff6ba74ec3328b3c51d69ef46af461fbc2e0b8", func := "loop.example/g00878/laws.FnExactSumShares", spec := "fnExactSumShares", unfollowed := true, recurses := true, apart := false, narrowed := true }
def FnExactSumSharesUptoSaid : Prop := fnExactSumSharesUptoRow.holds Try.pinned (OpenSpec.upto fnExactSumSharesSpec)

/-- 'laws.FnExactRecoverMasked', WHERE WHAT IT READS IS OF BULK AT MOST 1048576: true; the input reads as it did. -/
def fnExactRecoverMaskedUptoRow : OpenClaim := { program := "ythamimjejlicpaa", sum := "808e82b43d8d81608f70b1127aff6ba74ec3328b3c51d69ef46af461fbc2e0b8", func := "loop.example/g00878/laws.FnExactRecoverMasked", spec := "fnExactRecoverMasked", unfollowed := true, recurses := true, apart := false, narrowed := true }
def FnExactRecoverMaskedUptoSaid : Prop := fnExactRecoverMaskedUptoRow.holds Try.pinned (OpenSpec.upto fnExactRecoverMaskedSpec)

/-- 'laws.FnExactMaskedShares', WHERE WHAT IT READS IS OF BULK AT MOST 1048576: true; the input reads as it did. -/
def fnExactMaskedSharesUptoRow : OpenClaim := { program := "ythamimjejlicpaa", sum := "808e82b43d8d81608f70b1127aff6ba74ec3328b3c51d69ef46af461fbc2e0b8", func := "loop.example/g00878/laws.FnExactMaskedShares", spec := "fnExactMaskedShares", unfollowed := true, recurses := true, apart := false, narrowed := true }
def FnExactMaskedSharesUptoSaid : Prop := fnExactMaskedSharesUptoRow.holds Try.pinned (OpenSpec.upto fnExactMaskedSharesSpec)

/-- 'laws.FnExactRefreshKey', WHERE WHAT IT READS IS OF BULK AT MOST 1048576: true; the input reads as it did. -/
def fnExactRefreshKeyUptoRow : OpenClaim := { program := "ythamimjejlicpaa", sum := "808e82b43d8d81608f70b1127aff6ba74ec3328b3c51d69ef46af461fbc2e0b8", func := "loop.example/g00878/laws.FnExactRefreshKey", spec := "fnExactRefreshKey", unfollowed := true, recurses := true, apart := false, narrowed := true }
def FnExactRefreshKeyUptoSaid : Prop := fnExactRefreshKeyUptoRow.holds Try.pinned (OpenSpec.upto fnExactRefreshKeySpec)

/-- 'laws.FnExactReshareKey', WHERE WHAT IT READS IS OF BULK AT MOST 1048576: true; the input reads as it did. -/
def fnExactReshareKeyUptoRow : OpenClaim := { program := "ythamimjejlicpaa", sum := "808e82b43d8d81608f70b1127aff6ba74ec3328b3c51d69ef46af461fbc2e0b8", func := "loop.example/g00878/laws.FnExactReshareKey", spec := "fnExactReshareKey", unfollowed := true, recurses := true, apart := false, narrowed := true }
def FnExactReshareKeyUptoSaid : Prop := fnExactReshareKeyUptoRow.holds Try.pinned (OpenSpec.upto fnExactReshareKeySpec)

end Rows
end Go.Proofs.Ythamimjejlicpaa

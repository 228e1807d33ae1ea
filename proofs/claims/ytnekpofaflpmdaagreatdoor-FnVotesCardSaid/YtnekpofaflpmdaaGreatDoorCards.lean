/-
  DERIVED. GIVEN WITH THE SEED: THE CARDS: each row of YtnekpofaflpmdaaGreatDoorRows.lean that lists a variable, with what it lists TIED to the program's text (the seventh form; the later family's looks); each row that meets fmt, with fmt's text TOLD by the authors' own Lean function (tested against real Go, not proved from fmt's source: count such statements apart). THE CARD IS WHAT COUNTS. Prove the row's statement (the work); the ties are given (YtnekpofaflpmdaaGreatDoorTie.lean); close each card by the builder's one call (the guide's Derived/Test/ToyasCard.lean, 'card_holds'). Laid BY PROGRAM, IN A SANDBOX (cutbox-door.mjs). By AI agents, Wed Nov 11 2026. No macro, syntax, notation, axiom, sorry.
-/
import Derived.Test.YtnekpofaflpmdaaGreatDoorRows
import GoSem.ClaimSeven
namespace Go.Proofs.YtnekpofaflpmdaaGreatDoor
namespace Rows

/-- THE TIED CARD OF 'laws.FnVotes'. -/
def fnVotesCard : Claim7 := { stood := { row := fnVotesRow, standIns := [], harness := (true, "e4833d77ef0f57ee8408a7ab8830073884e5d4054d888cc6acca7973aeb4e6ec"), looks := true }, kinds := [], alts := [], laidByText := true, laidKinds := [.data, .data, .data, .data, .sentinel, .sentinel, .pinned], laidTests := true, laidLooks := .later }
def FnVotesCardSaid : Prop := Claim7.holds Tryz.pinned (.plain (OpenSpec.ofChange fnVotesSpec)) fnVotesCard

/-- THE SECOND FORM's CARD OF 'laws.FnVotes'. -/
def fnVotesUptoCard : Claim7 := { stood := { row := fnVotesUptoRow, standIns := [], harness := (true, "e4833d77ef0f57ee8408a7ab8830073884e5d4054d888cc6acca7973aeb4e6ec"), looks := true }, kinds := [], alts := [], laidByText := true, laidKinds := [.data, .data, .data, .data, .sentinel, .sentinel, .pinned], laidTests := true, laidLooks := .later }
def FnVotesUptoCardSaid : Prop := Claim7.holds Tryz.pinned (.plain (OpenSpec.upto fnVotesSpec)) fnVotesUptoCard
end Rows
end Go.Proofs.YtnekpofaflpmdaaGreatDoor

/-
  DERIVED. GIVEN WITH THE SEED: THE CARDS: each row of YtnekpofaflpmdaaDoorRows.lean that lists a variable, with what it lists TIED to the program's text (the seventh form; the later family's looks); each row that meets fmt, with fmt's text TOLD by the authors' own Lean function (tested against real Go, not proved from fmt's source: count such statements apart). THE CARD IS WHAT COUNTS. Prove the row's statement (the work); the ties are given (YtnekpofaflpmdaaDoorTie.lean); close each card by the builder's one call (the guide's Derived/Test/ToyasCard.lean, 'card_holds'). Laid BY PROGRAM, IN A SANDBOX (cutbox-door.mjs). By AI agents, Wed Nov 11 2026. No macro, syntax, notation, axiom, sorry.
-/
import Derived.Test.YtnekpofaflpmdaaDoorRows
import GoSem.ClaimSeven
namespace Go.Proofs.YtnekpofaflpmdaaDoor
namespace Rows

/-- THE TIED CARD OF 'laws.FnExactParseVote'. -/
def fnExactParseVoteCard : Claim7 := { stood := { row := fnExactParseVoteRow, standIns := [], harness := (true, "da006d2338af7422832dd12c35189fd84343ebbf85098efa27d32d31d3436edf"), looks := true }, kinds := [], alts := [], laidByText := true, laidKinds := [.data, .data, .data, .data, .sentinel, .sentinel, .pinned], laidTests := true, laidLooks := .later }
def FnExactParseVoteCardSaid : Prop := Claim7.holds Tryd.pinned (.plain (OpenSpec.ofChange fnExactParseVoteSpec)) fnExactParseVoteCard

/-- THE TIED CARD OF 'laws.FnExactVoteText'. -/
def fnExactVoteTextCard : Claim7 := { stood := { row := fnExactVoteTextRow, standIns := [], harness := (true, "da006d2338af7422832dd12c35189fd84343ebbf85098efa27d32d31d3436edf"), looks := true }, kinds := [], alts := [], laidByText := true, laidKinds := [.data, .data, .data], laidTests := true, laidLooks := .later }
def FnExactVoteTextCardSaid : Prop := Claim7.holds Tryd.pinned (.plain (OpenSpec.ofChange fnExactVoteTextSpec)) fnExactVoteTextCard

/-- THE SECOND FORM's CARD OF 'laws.FnExactParseVote'. -/
def fnExactParseVoteUptoCard : Claim7 := { stood := { row := fnExactParseVoteUptoRow, standIns := [], harness := (true, "da006d2338af7422832dd12c35189fd84343ebbf85098efa27d32d31d3436edf"), looks := true }, kinds := [], alts := [], laidByText := true, laidKinds := [.data, .data, .data, .data, .sentinel, .sentinel, .pinned], laidTests := true, laidLooks := .later }
def FnExactParseVoteUptoCardSaid : Prop := Claim7.holds Tryd.pinned (.plain (OpenSpec.upto fnExactParseVoteSpec)) fnExactParseVoteUptoCard

/-- THE SECOND FORM's CARD OF 'laws.FnExactVoteText'. -/
def fnExactVoteTextUptoCard : Claim7 := { stood := { row := fnExactVoteTextUptoRow, standIns := [], harness := (true, "da006d2338af7422832dd12c35189fd84343ebbf85098efa27d32d31d3436edf"), looks := true }, kinds := [], alts := [], laidByText := true, laidKinds := [.data, .data, .data], laidTests := true, laidLooks := .later }
def FnExactVoteTextUptoCardSaid : Prop := Claim7.holds Tryd.pinned (.plain (OpenSpec.upto fnExactVoteTextSpec)) fnExactVoteTextUptoCard
end Rows
end Go.Proofs.YtnekpofaflpmdaaDoor

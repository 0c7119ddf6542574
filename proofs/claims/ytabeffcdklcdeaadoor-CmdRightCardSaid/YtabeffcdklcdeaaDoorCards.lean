/-
  DERIVED. GIVEN WITH THE SEED: THE CARDS: each row of YtabeffcdklcdeaaDoorRows.lean that lists a variable, with what it lists TIED to the program's text (the seventh form; the later family's looks); each row that meets fmt, with fmt's text TOLD by the authors' own Lean function (tested against real Go, not proved from fmt's source: count such statements apart). THE CARD IS WHAT COUNTS. Prove the row's statement (the work); the ties are given (YtabeffcdklcdeaaDoorTie.lean); close each card by the builder's one call (the guide's Derived/Test/ToyasCard.lean, 'card_holds'). Laid BY PROGRAM, IN A SANDBOX (cutbox-door.mjs). By AI agents, Wed Nov 11 2026. No macro, syntax, notation, axiom, sorry.
-/
import Derived.Test.YtabeffcdklcdeaaDoorRows
import GoSem.ClaimSeven
namespace Go.Proofs.YtabeffcdklcdeaaDoor
namespace Rows

/-- THE TIED CARD OF 'moothilllaw04.PathOverlaps'. -/
def pathOverlapsCard : Claim7 := { stood := { row := pathOverlapsRow, standIns := [], harness := (true, "e1a82656b6cce5855354a6a1d29481cc79794d38f0d49c54f670f7b8e944f5c8"), looks := false }, kinds := [], alts := [], laidByText := true, laidKinds := [.data, .pinned], laidTests := true, laidLooks := .later }
def PathOverlapsCardSaid : Prop := Claim7.holds Tryd.pinned (.plain (OpenSpec.ofChange pathOverlapsSpec)) pathOverlapsCard

/-- THE TIED CARD OF 'moothilllaw04.PathAbove'. -/
def pathAboveCard : Claim7 := { stood := { row := pathAboveRow, standIns := [], harness := (true, "e1a82656b6cce5855354a6a1d29481cc79794d38f0d49c54f670f7b8e944f5c8"), looks := false }, kinds := [], alts := [], laidByText := true, laidKinds := [.data, .pinned], laidTests := true, laidLooks := .later }
def PathAboveCardSaid : Prop := Claim7.holds Tryd.pinned (.plain (OpenSpec.ofChange pathAboveSpec)) pathAboveCard

/-- THE TIED CARD OF 'moothilllaw04.PathNormal'. -/
def pathNormalCard : Claim7 := { stood := { row := pathNormalRow, standIns := [], harness := (true, "e1a82656b6cce5855354a6a1d29481cc79794d38f0d49c54f670f7b8e944f5c8"), looks := false }, kinds := [], alts := [], laidByText := true, laidKinds := [.data, .pinned], laidTests := true, laidLooks := .later }
def PathNormalCardSaid : Prop := Claim7.holds Tryd.pinned (.plain (OpenSpec.ofChange pathNormalSpec)) pathNormalCard

/-- THE TIED CARD OF 'moothilllaw04.PathOrder'. -/
def pathOrderCard : Claim7 := { stood := { row := pathOrderRow, standIns := [], harness := (true, "e1a82656b6cce5855354a6a1d29481cc79794d38f0d49c54f670f7b8e944f5c8"), looks := false }, kinds := [], alts := [], laidByText := true, laidKinds := [.data, .pinned], laidTests := true, laidLooks := .later }
def PathOrderCardSaid : Prop := Claim7.holds Tryd.pinned (.plain (OpenSpec.ofChange pathOrderSpec)) pathOrderCard

/-- THE TIED CARD OF 'moothilllaw04.PathJoins'. -/
def pathJoinsCard : Claim7 := { stood := { row := pathJoinsRow, standIns := [], harness := (true, "e1a82656b6cce5855354a6a1d29481cc79794d38f0d49c54f670f7b8e944f5c8"), looks := false }, kinds := [], alts := [], laidByText := true, laidKinds := [.data, .pinned], laidTests := true, laidLooks := .later }
def PathJoinsCardSaid : Prop := Claim7.holds Tryd.pinned (.plain (OpenSpec.ofChange pathJoinsSpec)) pathJoinsCard

/-- THE TIED CARD OF 'moothilllaw04.PathParents'. -/
def pathParentsCard : Claim7 := { stood := { row := pathParentsRow, standIns := [], harness := (true, "e1a82656b6cce5855354a6a1d29481cc79794d38f0d49c54f670f7b8e944f5c8"), looks := false }, kinds := [], alts := [], laidByText := true, laidKinds := [.data, .pinned], laidTests := true, laidLooks := .later }
def PathParentsCardSaid : Prop := Claim7.holds Tryd.pinned (.plain (OpenSpec.ofChange pathParentsSpec)) pathParentsCard

/-- THE TIED CARD OF 'moothilllaw04.PathMatches'. -/
def pathMatchesCard : Claim7 := { stood := { row := pathMatchesRow, standIns := [], harness := (true, "e1a82656b6cce5855354a6a1d29481cc79794d38f0d49c54f670f7b8e944f5c8"), looks := false }, kinds := [], alts := [], laidByText := true, laidKinds := [.data, .pinned], laidTests := true, laidLooks := .later }
def PathMatchesCardSaid : Prop := Claim7.holds Tryd.pinned (.plain (OpenSpec.ofChange pathMatchesSpec)) pathMatchesCard

/-- THE TIED CARD OF 'moothilllaw08.ClashPairs'. -/
def clashPairsCard : Claim7 := { stood := { row := clashPairsRow, standIns := [], harness := (true, "e1a82656b6cce5855354a6a1d29481cc79794d38f0d49c54f670f7b8e944f5c8"), looks := false }, kinds := [], alts := [], laidByText := true, laidKinds := [.data, .pinned], laidTests := true, laidLooks := .later }
def ClashPairsCardSaid : Prop := Claim7.holds Tryd.pinned (.plain (OpenSpec.ofChange clashPairsSpec)) clashPairsCard

/-- THE TIED CARD OF 'moothilllaw08.ClashKeys'. -/
def clashKeysCard : Claim7 := { stood := { row := clashKeysRow, standIns := [], harness := (true, "e1a82656b6cce5855354a6a1d29481cc79794d38f0d49c54f670f7b8e944f5c8"), looks := false }, kinds := [], alts := [], laidByText := true, laidKinds := [.data, .pinned], laidTests := true, laidLooks := .later }
def ClashKeysCardSaid : Prop := Claim7.holds Tryd.pinned (.plain (OpenSpec.ofChange clashKeysSpec)) clashKeysCard

/-- THE TIED CARD OF 'moothilllaw08.ClashSessions'. -/
def clashSessionsCard : Claim7 := { stood := { row := clashSessionsRow, standIns := [], harness := (true, "e1a82656b6cce5855354a6a1d29481cc79794d38f0d49c54f670f7b8e944f5c8"), looks := false }, kinds := [], alts := [], laidByText := true, laidKinds := [.data, .pinned], laidTests := true, laidLooks := .later }
def ClashSessionsCardSaid : Prop := Claim7.holds Tryd.pinned (.plain (OpenSpec.ofChange clashSessionsSpec)) clashSessionsCard

/-- THE TIED CARD OF 'moothilllaw08.ClashLists'. -/
def clashListsCard : Claim7 := { stood := { row := clashListsRow, standIns := [], harness := (true, "e1a82656b6cce5855354a6a1d29481cc79794d38f0d49c54f670f7b8e944f5c8"), looks := false }, kinds := [], alts := [], laidByText := true, laidKinds := [.data, .pinned], laidTests := true, laidLooks := .later }
def ClashListsCardSaid : Prop := Claim7.holds Tryd.pinned (.plain (OpenSpec.ofChange clashListsSpec)) clashListsCard

/-- THE TIED CARD OF 'moothilllaw07.CmdRight'. -/
def cmdRightCard : Claim7 := { stood := { row := cmdRightRow, standIns := [], harness := (true, "e1a82656b6cce5855354a6a1d29481cc79794d38f0d49c54f670f7b8e944f5c8"), looks := false }, kinds := [], alts := [], laidByText := true, laidKinds := [.data, .pinned], laidTests := true, laidLooks := .later }
def CmdRightCardSaid : Prop := Claim7.holds Tryd.pinned (.plain (OpenSpec.ofChange cmdRightSpec)) cmdRightCard

/-- THE SECOND FORM's CARD OF 'moothilllaw04.PathOverlaps'. -/
def pathOverlapsUptoCard : Claim7 := { stood := { row := pathOverlapsUptoRow, standIns := [], harness := (true, "e1a82656b6cce5855354a6a1d29481cc79794d38f0d49c54f670f7b8e944f5c8"), looks := false }, kinds := [], alts := [], laidByText := true, laidKinds := [.data, .pinned], laidTests := true, laidLooks := .later }
def PathOverlapsUptoCardSaid : Prop := Claim7.holds Tryd.pinned (.plain (OpenSpec.upto pathOverlapsSpec)) pathOverlapsUptoCard

/-- THE SECOND FORM's CARD OF 'moothilllaw04.PathAbove'. -/
def pathAboveUptoCard : Claim7 := { stood := { row := pathAboveUptoRow, standIns := [], harness := (true, "e1a82656b6cce5855354a6a1d29481cc79794d38f0d49c54f670f7b8e944f5c8"), looks := false }, kinds := [], alts := [], laidByText := true, laidKinds := [.data, .pinned], laidTests := true, laidLooks := .later }
def PathAboveUptoCardSaid : Prop := Claim7.holds Tryd.pinned (.plain (OpenSpec.upto pathAboveSpec)) pathAboveUptoCard

/-- THE SECOND FORM's CARD OF 'moothilllaw04.PathNormal'. -/
def pathNormalUptoCard : Claim7 := { stood := { row := pathNormalUptoRow, standIns := [], harness := (true, "e1a82656b6cce5855354a6a1d29481cc79794d38f0d49c54f670f7b8e944f5c8"), looks := false }, kinds := [], alts := [], laidByText := true, laidKinds := [.data, .pinned], laidTests := true, laidLooks := .later }
def PathNormalUptoCardSaid : Prop := Claim7.holds Tryd.pinned (.plain (OpenSpec.upto pathNormalSpec)) pathNormalUptoCard

/-- THE SECOND FORM's CARD OF 'moothilllaw04.PathOrder'. -/
def pathOrderUptoCard : Claim7 := { stood := { row := pathOrderUptoRow, standIns := [], harness := (true, "e1a82656b6cce5855354a6a1d29481cc79794d38f0d49c54f670f7b8e944f5c8"), looks := false }, kinds := [], alts := [], laidByText := true, laidKinds := [.data, .pinned], laidTests := true, laidLooks := .later }
def PathOrderUptoCardSaid : Prop := Claim7.holds Tryd.pinned (.plain (OpenSpec.upto pathOrderSpec)) pathOrderUptoCard

/-- THE SECOND FORM's CARD OF 'moothilllaw04.PathJoins'. -/
def pathJoinsUptoCard : Claim7 := { stood := { row := pathJoinsUptoRow, standIns := [], harness := (true, "e1a82656b6cce5855354a6a1d29481cc79794d38f0d49c54f670f7b8e944f5c8"), looks := false }, kinds := [], alts := [], laidByText := true, laidKinds := [.data, .pinned], laidTests := true, laidLooks := .later }
def PathJoinsUptoCardSaid : Prop := Claim7.holds Tryd.pinned (.plain (OpenSpec.upto pathJoinsSpec)) pathJoinsUptoCard

/-- THE SECOND FORM's CARD OF 'moothilllaw04.PathParents'. -/
def pathParentsUptoCard : Claim7 := { stood := { row := pathParentsUptoRow, standIns := [], harness := (true, "e1a82656b6cce5855354a6a1d29481cc79794d38f0d49c54f670f7b8e944f5c8"), looks := false }, kinds := [], alts := [], laidByText := true, laidKinds := [.data, .pinned], laidTests := true, laidLooks := .later }
def PathParentsUptoCardSaid : Prop := Claim7.holds Tryd.pinned (.plain (OpenSpec.upto pathParentsSpec)) pathParentsUptoCard

/-- THE SECOND FORM's CARD OF 'moothilllaw04.PathMatches'. -/
def pathMatchesUptoCard : Claim7 := { stood := { row := pathMatchesUptoRow, standIns := [], harness := (true, "e1a82656b6cce5855354a6a1d29481cc79794d38f0d49c54f670f7b8e944f5c8"), looks := false }, kinds := [], alts := [], laidByText := true, laidKinds := [.data, .pinned], laidTests := true, laidLooks := .later }
def PathMatchesUptoCardSaid : Prop := Claim7.holds Tryd.pinned (.plain (OpenSpec.upto pathMatchesSpec)) pathMatchesUptoCard

/-- THE SECOND FORM's CARD OF 'moothilllaw08.ClashPairs'. -/
def clashPairsUptoCard : Claim7 := { stood := { row := clashPairsUptoRow, standIns := [], harness := (true, "e1a82656b6cce5855354a6a1d29481cc79794d38f0d49c54f670f7b8e944f5c8"), looks := false }, kinds := [], alts := [], laidByText := true, laidKinds := [.data, .pinned], laidTests := true, laidLooks := .later }
def ClashPairsUptoCardSaid : Prop := Claim7.holds Tryd.pinned (.plain (OpenSpec.upto clashPairsSpec)) clashPairsUptoCard

/-- THE SECOND FORM's CARD OF 'moothilllaw08.ClashKeys'. -/
def clashKeysUptoCard : Claim7 := { stood := { row := clashKeysUptoRow, standIns := [], harness := (true, "e1a82656b6cce5855354a6a1d29481cc79794d38f0d49c54f670f7b8e944f5c8"), looks := false }, kinds := [], alts := [], laidByText := true, laidKinds := [.data, .pinned], laidTests := true, laidLooks := .later }
def ClashKeysUptoCardSaid : Prop := Claim7.holds Tryd.pinned (.plain (OpenSpec.upto clashKeysSpec)) clashKeysUptoCard

/-- THE SECOND FORM's CARD OF 'moothilllaw08.ClashSessions'. -/
def clashSessionsUptoCard : Claim7 := { stood := { row := clashSessionsUptoRow, standIns := [], harness := (true, "e1a82656b6cce5855354a6a1d29481cc79794d38f0d49c54f670f7b8e944f5c8"), looks := false }, kinds := [], alts := [], laidByText := true, laidKinds := [.data, .pinned], laidTests := true, laidLooks := .later }
def ClashSessionsUptoCardSaid : Prop := Claim7.holds Tryd.pinned (.plain (OpenSpec.upto clashSessionsSpec)) clashSessionsUptoCard

/-- THE SECOND FORM's CARD OF 'moothilllaw08.ClashLists'. -/
def clashListsUptoCard : Claim7 := { stood := { row := clashListsUptoRow, standIns := [], harness := (true, "e1a82656b6cce5855354a6a1d29481cc79794d38f0d49c54f670f7b8e944f5c8"), looks := false }, kinds := [], alts := [], laidByText := true, laidKinds := [.data, .pinned], laidTests := true, laidLooks := .later }
def ClashListsUptoCardSaid : Prop := Claim7.holds Tryd.pinned (.plain (OpenSpec.upto clashListsSpec)) clashListsUptoCard

/-- THE SECOND FORM's CARD OF 'moothilllaw07.CmdRight'. -/
def cmdRightUptoCard : Claim7 := { stood := { row := cmdRightUptoRow, standIns := [], harness := (true, "e1a82656b6cce5855354a6a1d29481cc79794d38f0d49c54f670f7b8e944f5c8"), looks := false }, kinds := [], alts := [], laidByText := true, laidKinds := [.data, .pinned], laidTests := true, laidLooks := .later }
def CmdRightUptoCardSaid : Prop := Claim7.holds Tryd.pinned (.plain (OpenSpec.upto cmdRightSpec)) cmdRightUptoCard
end Rows
end Go.Proofs.YtabeffcdklcdeaaDoor

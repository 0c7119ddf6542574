/-
  DERIVED. GIVEN WITH THE SEED: THE CARDS: each row of YtddilmocngedjaaDoorRows.lean that lists a variable, with what it lists TIED to the program's text (the seventh form; the later family's looks); each row that meets fmt, with fmt's text TOLD by the authors' own Lean function (tested against real Go, not proved from fmt's source: count such statements apart). THE CARD IS WHAT COUNTS. Prove the row's statement (the work); the ties are given (YtddilmocngedjaaDoorTie.lean); close each card by the builder's one call (the guide's Derived/Test/ToyasCard.lean, 'card_holds'). Laid BY PROGRAM, IN A SANDBOX (cutbox-door.mjs). By AI agents, Wed Nov 11 2026. No macro, syntax, notation, axiom, sorry.
-/
import Derived.Test.YtddilmocngedjaaDoorRows
import GoSem.ClaimSeven
namespace Go.Proofs.YtddilmocngedjaaDoor
namespace Rows

/-- THE TIED CARD OF 'moothilllaw08.ClashLists'. -/
def clashListsCard : Claim7 := { stood := { row := clashListsRow, standIns := [], harness := (true, "3d476f1da6a3a3da8d7485f981c318f3850d534b83cff7a54aaa1b11c3521bcf"), looks := false }, kinds := [], alts := [], laidByText := true, laidKinds := [.data, .pinned], laidTests := true, laidLooks := .later }
def ClashListsCardSaid : Prop := Claim7.holds Tryd.pinned (.plain (OpenSpec.ofChange clashListsSpec)) clashListsCard

/-- THE TIED CARD OF 'moothilllaw04.PathMatches'. -/
def pathMatchesCard : Claim7 := { stood := { row := pathMatchesRow, standIns := [], harness := (true, "3d476f1da6a3a3da8d7485f981c318f3850d534b83cff7a54aaa1b11c3521bcf"), looks := false }, kinds := [], alts := [], laidByText := true, laidKinds := [.data, .pinned], laidTests := true, laidLooks := .later }
def PathMatchesCardSaid : Prop := Claim7.holds Tryd.pinned (.plain (OpenSpec.ofChange pathMatchesSpec)) pathMatchesCard

/-- THE TIED CARD OF 'moothilllaw22.VoteOnce'. -/
def voteOnceCard : Claim7 := { stood := { row := voteOnceRow, standIns := [], harness := (true, "3d476f1da6a3a3da8d7485f981c318f3850d534b83cff7a54aaa1b11c3521bcf"), looks := false }, kinds := [], alts := [], laidByText := true, laidKinds := [.data, .pinned], laidTests := true, laidLooks := .later }
def VoteOnceCardSaid : Prop := Claim7.holds Tryd.pinned (.plain (OpenSpec.ofChange voteOnceSpec)) voteOnceCard

/-- THE SECOND FORM's CARD OF 'moothilllaw08.ClashLists'. -/
def clashListsUptoCard : Claim7 := { stood := { row := clashListsUptoRow, standIns := [], harness := (true, "3d476f1da6a3a3da8d7485f981c318f3850d534b83cff7a54aaa1b11c3521bcf"), looks := false }, kinds := [], alts := [], laidByText := true, laidKinds := [.data, .pinned], laidTests := true, laidLooks := .later }
def ClashListsUptoCardSaid : Prop := Claim7.holds Tryd.pinned (.plain (OpenSpec.upto clashListsSpec)) clashListsUptoCard

/-- THE SECOND FORM's CARD OF 'moothilllaw04.PathMatches'. -/
def pathMatchesUptoCard : Claim7 := { stood := { row := pathMatchesUptoRow, standIns := [], harness := (true, "3d476f1da6a3a3da8d7485f981c318f3850d534b83cff7a54aaa1b11c3521bcf"), looks := false }, kinds := [], alts := [], laidByText := true, laidKinds := [.data, .pinned], laidTests := true, laidLooks := .later }
def PathMatchesUptoCardSaid : Prop := Claim7.holds Tryd.pinned (.plain (OpenSpec.upto pathMatchesSpec)) pathMatchesUptoCard

/-- THE SECOND FORM's CARD OF 'moothilllaw22.VoteOnce'. -/
def voteOnceUptoCard : Claim7 := { stood := { row := voteOnceUptoRow, standIns := [], harness := (true, "3d476f1da6a3a3da8d7485f981c318f3850d534b83cff7a54aaa1b11c3521bcf"), looks := false }, kinds := [], alts := [], laidByText := true, laidKinds := [.data, .pinned], laidTests := true, laidLooks := .later }
def VoteOnceUptoCardSaid : Prop := Claim7.holds Tryd.pinned (.plain (OpenSpec.upto voteOnceSpec)) voteOnceUptoCard
end Rows
end Go.Proofs.YtddilmocngedjaaDoor

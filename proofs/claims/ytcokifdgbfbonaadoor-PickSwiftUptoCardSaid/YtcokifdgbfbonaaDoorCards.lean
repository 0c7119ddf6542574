/-
  DERIVED. GIVEN WITH THE SEED: THE CARDS: each row of YtcokifdgbfbonaaDoorRows.lean that lists a variable, with what it lists TIED to the program's text (the seventh form; the later family's looks); each row that meets fmt, with fmt's text TOLD by the authors' own Lean function (tested against real Go, not proved from fmt's source: count such statements apart). THE CARD IS WHAT COUNTS. Prove the row's statement (the work); the ties are given (YtcokifdgbfbonaaDoorTie.lean); close each card by the builder's one call (the guide's Derived/Test/ToyasCard.lean, 'card_holds'). Laid BY PROGRAM, IN A SANDBOX (cutbox-door.mjs). By AI agents, Wed Nov 11 2026. No macro, syntax, notation, axiom, sorry.
-/
import Derived.Test.YtcokifdgbfbonaaDoorRows
import GoSem.ClaimSeven
namespace Go.Proofs.YtcokifdgbfbonaaDoor
namespace Rows

/-- THE TIED CARD OF 'moothilllaw04.PathOverlaps'. -/
def pathOverlapsCard : Claim7 := { stood := { row := pathOverlapsRow, standIns := [], harness := (true, "066d9d54bf7d2b9ace2b560bd54625dac8774d04708ce318f78d0103eb25417e"), looks := false }, kinds := [], alts := [], laidByText := true, laidKinds := [.data, .pinned], laidTests := true, laidLooks := .later }
def PathOverlapsCardSaid : Prop := Claim7.holds Tryd.pinned (.plain (OpenSpec.ofChange pathOverlapsSpec)) pathOverlapsCard

/-- THE TIED CARD OF 'moothilllaw07.CmdUnlike'. -/
def cmdUnlikeCard : Claim7 := { stood := { row := cmdUnlikeRow, standIns := [], harness := (true, "066d9d54bf7d2b9ace2b560bd54625dac8774d04708ce318f78d0103eb25417e"), looks := false }, kinds := [], alts := [], laidByText := true, laidKinds := [.data, .pinned], laidTests := true, laidLooks := .later }
def CmdUnlikeCardSaid : Prop := Claim7.holds Tryd.pinned (.plain (OpenSpec.ofChange cmdUnlikeSpec)) cmdUnlikeCard

/-- THE TIED CARD OF 'moothilllaw22.VoteAgain'. -/
def voteAgainCard : Claim7 := { stood := { row := voteAgainRow, standIns := [], harness := (true, "066d9d54bf7d2b9ace2b560bd54625dac8774d04708ce318f78d0103eb25417e"), looks := false }, kinds := [], alts := [], laidByText := true, laidKinds := [.data, .pinned], laidTests := true, laidLooks := .later }
def VoteAgainCardSaid : Prop := Claim7.holds Tryd.pinned (.plain (OpenSpec.ofChange voteAgainSpec)) voteAgainCard

/-- THE TIED CARD OF 'moothilllaw22.VoteCovers'. -/
def voteCoversCard : Claim7 := { stood := { row := voteCoversRow, standIns := [], harness := (true, "066d9d54bf7d2b9ace2b560bd54625dac8774d04708ce318f78d0103eb25417e"), looks := false }, kinds := [], alts := [], laidByText := true, laidKinds := [.data, .pinned], laidTests := true, laidLooks := .later }
def VoteCoversCardSaid : Prop := Claim7.holds Tryd.pinned (.plain (OpenSpec.ofChange voteCoversSpec)) voteCoversCard

/-- THE TIED CARD OF 'moothilllaw10.InstFollows'. -/
def instFollowsCard : Claim7 := { stood := { row := instFollowsRow, standIns := [], harness := (true, "066d9d54bf7d2b9ace2b560bd54625dac8774d04708ce318f78d0103eb25417e"), looks := false }, kinds := [], alts := [], laidByText := true, laidKinds := [.data, .pinned], laidTests := true, laidLooks := .later }
def InstFollowsCardSaid : Prop := Claim7.holds Tryd.pinned (.plain (OpenSpec.ofChange instFollowsSpec)) instFollowsCard

/-- THE TIED CARD OF 'moothilllaw21.PickVoted'. -/
def pickVotedCard : Claim7 := { stood := { row := pickVotedRow, standIns := [], harness := (true, "066d9d54bf7d2b9ace2b560bd54625dac8774d04708ce318f78d0103eb25417e"), looks := false }, kinds := [], alts := [], laidByText := true, laidKinds := [.data, .pinned], laidTests := true, laidLooks := .later }
def PickVotedCardSaid : Prop := Claim7.holds Tryd.pinned (.plain (OpenSpec.ofChange pickVotedSpec)) pickVotedCard

/-- THE TIED CARD OF 'moothilllaw21.PickSwift'. -/
def pickSwiftCard : Claim7 := { stood := { row := pickSwiftRow, standIns := [], harness := (true, "066d9d54bf7d2b9ace2b560bd54625dac8774d04708ce318f78d0103eb25417e"), looks := false }, kinds := [], alts := [], laidByText := true, laidKinds := [.data, .pinned], laidTests := true, laidLooks := .later }
def PickSwiftCardSaid : Prop := Claim7.holds Tryd.pinned (.plain (OpenSpec.ofChange pickSwiftSpec)) pickSwiftCard

/-- THE TIED CARD OF 'moothilllaw07.CmdBytes'. -/
def cmdBytesCard : Claim7 := { stood := { row := cmdBytesRow, standIns := [], harness := (true, "066d9d54bf7d2b9ace2b560bd54625dac8774d04708ce318f78d0103eb25417e"), looks := false }, kinds := [], alts := [], laidByText := true, laidKinds := [.data, .pinned], laidTests := true, laidLooks := .later }
def CmdBytesCardSaid : Prop := Claim7.holds Tryd.pinned (.plain (OpenSpec.ofChange cmdBytesSpec)) cmdBytesCard

/-- THE TIED CARD OF 'moothilllaw23.LeadSwift'. -/
def leadSwiftCard : Claim7 := { stood := { row := leadSwiftRow, standIns := [], harness := (true, "066d9d54bf7d2b9ace2b560bd54625dac8774d04708ce318f78d0103eb25417e"), looks := false }, kinds := [], alts := [], laidByText := true, laidKinds := [.data, .pinned], laidTests := true, laidLooks := .later }
def LeadSwiftCardSaid : Prop := Claim7.holds Tryd.pinned (.plain (OpenSpec.ofChange leadSwiftSpec)) leadSwiftCard

/-- THE TIED CARD OF 'moothilllaw23.LeadOnce'. -/
def leadOnceCard : Claim7 := { stood := { row := leadOnceRow, standIns := [], harness := (true, "066d9d54bf7d2b9ace2b560bd54625dac8774d04708ce318f78d0103eb25417e"), looks := false }, kinds := [], alts := [], laidByText := true, laidKinds := [.data, .pinned], laidTests := true, laidLooks := .later }
def LeadOnceCardSaid : Prop := Claim7.holds Tryd.pinned (.plain (OpenSpec.ofChange leadOnceSpec)) leadOnceCard

/-- THE TIED CARD OF 'moothilllaw23.LeadMerges'. -/
def leadMergesCard : Claim7 := { stood := { row := leadMergesRow, standIns := [], harness := (true, "066d9d54bf7d2b9ace2b560bd54625dac8774d04708ce318f78d0103eb25417e"), looks := false }, kinds := [], alts := [], laidByText := true, laidKinds := [.data, .pinned], laidTests := true, laidLooks := .later }
def LeadMergesCardSaid : Prop := Claim7.holds Tryd.pinned (.plain (OpenSpec.ofChange leadMergesSpec)) leadMergesCard

/-- THE TIED CARD OF 'moothilllaw10.InstBytes'. -/
def instBytesCard : Claim7 := { stood := { row := instBytesRow, standIns := [], harness := (true, "066d9d54bf7d2b9ace2b560bd54625dac8774d04708ce318f78d0103eb25417e"), looks := false }, kinds := [], alts := [], laidByText := true, laidKinds := [.data, .pinned], laidTests := true, laidLooks := .later }
def InstBytesCardSaid : Prop := Claim7.holds Tryd.pinned (.plain (OpenSpec.ofChange instBytesSpec)) instBytesCard

/-- THE SECOND FORM's CARD OF 'moothilllaw04.PathOverlaps'. -/
def pathOverlapsUptoCard : Claim7 := { stood := { row := pathOverlapsUptoRow, standIns := [], harness := (true, "066d9d54bf7d2b9ace2b560bd54625dac8774d04708ce318f78d0103eb25417e"), looks := false }, kinds := [], alts := [], laidByText := true, laidKinds := [.data, .pinned], laidTests := true, laidLooks := .later }
def PathOverlapsUptoCardSaid : Prop := Claim7.holds Tryd.pinned (.plain (OpenSpec.upto pathOverlapsSpec)) pathOverlapsUptoCard

/-- THE SECOND FORM's CARD OF 'moothilllaw07.CmdUnlike'. -/
def cmdUnlikeUptoCard : Claim7 := { stood := { row := cmdUnlikeUptoRow, standIns := [], harness := (true, "066d9d54bf7d2b9ace2b560bd54625dac8774d04708ce318f78d0103eb25417e"), looks := false }, kinds := [], alts := [], laidByText := true, laidKinds := [.data, .pinned], laidTests := true, laidLooks := .later }
def CmdUnlikeUptoCardSaid : Prop := Claim7.holds Tryd.pinned (.plain (OpenSpec.upto cmdUnlikeSpec)) cmdUnlikeUptoCard

/-- THE SECOND FORM's CARD OF 'moothilllaw22.VoteAgain'. -/
def voteAgainUptoCard : Claim7 := { stood := { row := voteAgainUptoRow, standIns := [], harness := (true, "066d9d54bf7d2b9ace2b560bd54625dac8774d04708ce318f78d0103eb25417e"), looks := false }, kinds := [], alts := [], laidByText := true, laidKinds := [.data, .pinned], laidTests := true, laidLooks := .later }
def VoteAgainUptoCardSaid : Prop := Claim7.holds Tryd.pinned (.plain (OpenSpec.upto voteAgainSpec)) voteAgainUptoCard

/-- THE SECOND FORM's CARD OF 'moothilllaw22.VoteCovers'. -/
def voteCoversUptoCard : Claim7 := { stood := { row := voteCoversUptoRow, standIns := [], harness := (true, "066d9d54bf7d2b9ace2b560bd54625dac8774d04708ce318f78d0103eb25417e"), looks := false }, kinds := [], alts := [], laidByText := true, laidKinds := [.data, .pinned], laidTests := true, laidLooks := .later }
def VoteCoversUptoCardSaid : Prop := Claim7.holds Tryd.pinned (.plain (OpenSpec.upto voteCoversSpec)) voteCoversUptoCard

/-- THE SECOND FORM's CARD OF 'moothilllaw10.InstFollows'. -/
def instFollowsUptoCard : Claim7 := { stood := { row := instFollowsUptoRow, standIns := [], harness := (true, "066d9d54bf7d2b9ace2b560bd54625dac8774d04708ce318f78d0103eb25417e"), looks := false }, kinds := [], alts := [], laidByText := true, laidKinds := [.data, .pinned], laidTests := true, laidLooks := .later }
def InstFollowsUptoCardSaid : Prop := Claim7.holds Tryd.pinned (.plain (OpenSpec.upto instFollowsSpec)) instFollowsUptoCard

/-- THE SECOND FORM's CARD OF 'moothilllaw21.PickVoted'. -/
def pickVotedUptoCard : Claim7 := { stood := { row := pickVotedUptoRow, standIns := [], harness := (true, "066d9d54bf7d2b9ace2b560bd54625dac8774d04708ce318f78d0103eb25417e"), looks := false }, kinds := [], alts := [], laidByText := true, laidKinds := [.data, .pinned], laidTests := true, laidLooks := .later }
def PickVotedUptoCardSaid : Prop := Claim7.holds Tryd.pinned (.plain (OpenSpec.upto pickVotedSpec)) pickVotedUptoCard

/-- THE SECOND FORM's CARD OF 'moothilllaw21.PickSwift'. -/
def pickSwiftUptoCard : Claim7 := { stood := { row := pickSwiftUptoRow, standIns := [], harness := (true, "066d9d54bf7d2b9ace2b560bd54625dac8774d04708ce318f78d0103eb25417e"), looks := false }, kinds := [], alts := [], laidByText := true, laidKinds := [.data, .pinned], laidTests := true, laidLooks := .later }
def PickSwiftUptoCardSaid : Prop := Claim7.holds Tryd.pinned (.plain (OpenSpec.upto pickSwiftSpec)) pickSwiftUptoCard

/-- THE SECOND FORM's CARD OF 'moothilllaw07.CmdBytes'. -/
def cmdBytesUptoCard : Claim7 := { stood := { row := cmdBytesUptoRow, standIns := [], harness := (true, "066d9d54bf7d2b9ace2b560bd54625dac8774d04708ce318f78d0103eb25417e"), looks := false }, kinds := [], alts := [], laidByText := true, laidKinds := [.data, .pinned], laidTests := true, laidLooks := .later }
def CmdBytesUptoCardSaid : Prop := Claim7.holds Tryd.pinned (.plain (OpenSpec.upto cmdBytesSpec)) cmdBytesUptoCard

/-- THE SECOND FORM's CARD OF 'moothilllaw23.LeadSwift'. -/
def leadSwiftUptoCard : Claim7 := { stood := { row := leadSwiftUptoRow, standIns := [], harness := (true, "066d9d54bf7d2b9ace2b560bd54625dac8774d04708ce318f78d0103eb25417e"), looks := false }, kinds := [], alts := [], laidByText := true, laidKinds := [.data, .pinned], laidTests := true, laidLooks := .later }
def LeadSwiftUptoCardSaid : Prop := Claim7.holds Tryd.pinned (.plain (OpenSpec.upto leadSwiftSpec)) leadSwiftUptoCard

/-- THE SECOND FORM's CARD OF 'moothilllaw23.LeadOnce'. -/
def leadOnceUptoCard : Claim7 := { stood := { row := leadOnceUptoRow, standIns := [], harness := (true, "066d9d54bf7d2b9ace2b560bd54625dac8774d04708ce318f78d0103eb25417e"), looks := false }, kinds := [], alts := [], laidByText := true, laidKinds := [.data, .pinned], laidTests := true, laidLooks := .later }
def LeadOnceUptoCardSaid : Prop := Claim7.holds Tryd.pinned (.plain (OpenSpec.upto leadOnceSpec)) leadOnceUptoCard

/-- THE SECOND FORM's CARD OF 'moothilllaw23.LeadMerges'. -/
def leadMergesUptoCard : Claim7 := { stood := { row := leadMergesUptoRow, standIns := [], harness := (true, "066d9d54bf7d2b9ace2b560bd54625dac8774d04708ce318f78d0103eb25417e"), looks := false }, kinds := [], alts := [], laidByText := true, laidKinds := [.data, .pinned], laidTests := true, laidLooks := .later }
def LeadMergesUptoCardSaid : Prop := Claim7.holds Tryd.pinned (.plain (OpenSpec.upto leadMergesSpec)) leadMergesUptoCard

/-- THE SECOND FORM's CARD OF 'moothilllaw10.InstBytes'. -/
def instBytesUptoCard : Claim7 := { stood := { row := instBytesUptoRow, standIns := [], harness := (true, "066d9d54bf7d2b9ace2b560bd54625dac8774d04708ce318f78d0103eb25417e"), looks := false }, kinds := [], alts := [], laidByText := true, laidKinds := [.data, .pinned], laidTests := true, laidLooks := .later }
def InstBytesUptoCardSaid : Prop := Claim7.holds Tryd.pinned (.plain (OpenSpec.upto instBytesSpec)) instBytesUptoCard
end Rows
end Go.Proofs.YtcokifdgbfbonaaDoor

/-
  DERIVED. GIVEN WITH THE SEED: THE CARDS: each row of YtpomloangafbkaaDoorRows.lean that lists a variable, with what it lists TIED to the program's text (the seventh form; the later family's looks); each row that meets fmt, with fmt's text TOLD by the authors' own Lean function (tested against real Go, not proved from fmt's source: count such statements apart). THE CARD IS WHAT COUNTS. Prove the row's statement (the work); the ties are given (YtpomloangafbkaaDoorTie.lean); close each card by the builder's one call (the guide's Derived/Test/ToyasCard.lean, 'card_holds'). Laid BY PROGRAM, IN A SANDBOX (cutbox-door.mjs). By AI agents, Wed Nov 11 2026. No macro, syntax, notation, axiom, sorry.
-/
import Derived.Test.YtpomloangafbkaaDoorRows
import GoSem.ClaimSeven
namespace Go.Proofs.YtpomloangafbkaaDoor
namespace Rows

/-- THE TIED CARD OF 'moothilllaw06.MarkReads'. -/
def markReadsCard : Claim7 := { stood := { row := markReadsRow, standIns := [], harness := (true, "c0e00fb800ed77a3f23b0050d0985c5c42da82a514dd9bdc67bfb8d7343b8ef8"), looks := true }, kinds := [], alts := [], laidByText := true, laidKinds := [.data, .data, .data, .sentinel, .sentinel], laidTests := true, laidLooks := .later }
def MarkReadsCardSaid : Prop := Claim7.holds Tryd.pinned (.plain (OpenSpec.ofChange markReadsSpec)) markReadsCard

/-- THE TIED CARD OF 'moothilllaw06.MarkTexts'. -/
def markTextsCard : Claim7 := { stood := { row := markTextsRow, standIns := [], harness := (true, "c0e00fb800ed77a3f23b0050d0985c5c42da82a514dd9bdc67bfb8d7343b8ef8"), looks := true }, kinds := [], alts := [], laidByText := true, laidKinds := [.data, .data, .data, .sentinel, .sentinel], laidTests := true, laidLooks := .later }
def MarkTextsCardSaid : Prop := Claim7.holds Tryd.pinned (.plain (OpenSpec.ofChange markTextsSpec)) markTextsCard

/-- THE TIED CARD OF 'moothilllaw09.AttrTexts'. -/
def attrTextsCard : Claim7 := { stood := { row := attrTextsRow, standIns := [], harness := (true, "c0e00fb800ed77a3f23b0050d0985c5c42da82a514dd9bdc67bfb8d7343b8ef8"), looks := true }, kinds := [], alts := [], laidByText := true, laidKinds := [.data, .data, .data, .data, .sentinel, .sentinel, .pinned], laidTests := true, laidLooks := .later }
def AttrTextsCardSaid : Prop := Claim7.holds Tryd.pinned (.plain (OpenSpec.ofChange attrTextsSpec)) attrTextsCard

/-- THE TIED CARD OF 'moothilllaw07.CmdShows'. -/
def cmdShowsCard : Claim7 := { stood := { row := cmdShowsRow, standIns := [], harness := (true, "c0e00fb800ed77a3f23b0050d0985c5c42da82a514dd9bdc67bfb8d7343b8ef8"), looks := true }, kinds := [], alts := [], laidByText := true, laidKinds := [.data, .data, .data, .data, .sentinel, .sentinel, .data, .pinned], laidTests := true, laidLooks := .later }
def CmdShowsCardSaid : Prop := Claim7.holds Tryd.pinned (.plain (OpenSpec.ofChange cmdShowsSpec)) cmdShowsCard

/-- THE TIED CARD OF 'moothilllaw07.CmdReads'. -/
def cmdReadsCard : Claim7 := { stood := { row := cmdReadsRow, standIns := [], harness := (true, "c0e00fb800ed77a3f23b0050d0985c5c42da82a514dd9bdc67bfb8d7343b8ef8"), looks := true }, kinds := [], alts := [], laidByText := true, laidKinds := [.data, .data, .data, .data, .sentinel, .sentinel, .data, .pinned], laidTests := true, laidLooks := .later }
def CmdReadsCardSaid : Prop := Claim7.holds Tryd.pinned (.plain (OpenSpec.ofChange cmdReadsSpec)) cmdReadsCard

/-- THE SECOND FORM's CARD OF 'moothilllaw06.MarkReads'. -/
def markReadsUptoCard : Claim7 := { stood := { row := markReadsUptoRow, standIns := [], harness := (true, "c0e00fb800ed77a3f23b0050d0985c5c42da82a514dd9bdc67bfb8d7343b8ef8"), looks := true }, kinds := [], alts := [], laidByText := true, laidKinds := [.data, .data, .data, .sentinel, .sentinel], laidTests := true, laidLooks := .later }
def MarkReadsUptoCardSaid : Prop := Claim7.holds Tryd.pinned (.plain (OpenSpec.upto markReadsSpec)) markReadsUptoCard

/-- THE SECOND FORM's CARD OF 'moothilllaw06.MarkTexts'. -/
def markTextsUptoCard : Claim7 := { stood := { row := markTextsUptoRow, standIns := [], harness := (true, "c0e00fb800ed77a3f23b0050d0985c5c42da82a514dd9bdc67bfb8d7343b8ef8"), looks := true }, kinds := [], alts := [], laidByText := true, laidKinds := [.data, .data, .data, .sentinel, .sentinel], laidTests := true, laidLooks := .later }
def MarkTextsUptoCardSaid : Prop := Claim7.holds Tryd.pinned (.plain (OpenSpec.upto markTextsSpec)) markTextsUptoCard

/-- THE SECOND FORM's CARD OF 'moothilllaw09.AttrTexts'. -/
def attrTextsUptoCard : Claim7 := { stood := { row := attrTextsUptoRow, standIns := [], harness := (true, "c0e00fb800ed77a3f23b0050d0985c5c42da82a514dd9bdc67bfb8d7343b8ef8"), looks := true }, kinds := [], alts := [], laidByText := true, laidKinds := [.data, .data, .data, .data, .sentinel, .sentinel, .pinned], laidTests := true, laidLooks := .later }
def AttrTextsUptoCardSaid : Prop := Claim7.holds Tryd.pinned (.plain (OpenSpec.upto attrTextsSpec)) attrTextsUptoCard

/-- THE SECOND FORM's CARD OF 'moothilllaw07.CmdShows'. -/
def cmdShowsUptoCard : Claim7 := { stood := { row := cmdShowsUptoRow, standIns := [], harness := (true, "c0e00fb800ed77a3f23b0050d0985c5c42da82a514dd9bdc67bfb8d7343b8ef8"), looks := true }, kinds := [], alts := [], laidByText := true, laidKinds := [.data, .data, .data, .data, .sentinel, .sentinel, .data, .pinned], laidTests := true, laidLooks := .later }
def CmdShowsUptoCardSaid : Prop := Claim7.holds Tryd.pinned (.plain (OpenSpec.upto cmdShowsSpec)) cmdShowsUptoCard

/-- THE SECOND FORM's CARD OF 'moothilllaw07.CmdReads'. -/
def cmdReadsUptoCard : Claim7 := { stood := { row := cmdReadsUptoRow, standIns := [], harness := (true, "c0e00fb800ed77a3f23b0050d0985c5c42da82a514dd9bdc67bfb8d7343b8ef8"), looks := true }, kinds := [], alts := [], laidByText := true, laidKinds := [.data, .data, .data, .data, .sentinel, .sentinel, .data, .pinned], laidTests := true, laidLooks := .later }
def CmdReadsUptoCardSaid : Prop := Claim7.holds Tryd.pinned (.plain (OpenSpec.upto cmdReadsSpec)) cmdReadsUptoCard
end Rows
end Go.Proofs.YtpomloangafbkaaDoor

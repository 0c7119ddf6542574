/-
  DERIVED. GIVEN WITH THE SEED: THE CARDS: each row of YtpomloangafbkaaGreatDoorRows.lean that lists a variable, with what it lists TIED to the program's text (the seventh form; the later family's looks); each row that meets fmt, with fmt's text TOLD by the authors' own Lean function (tested against real Go, not proved from fmt's source: count such statements apart). THE CARD IS WHAT COUNTS. Prove the row's statement (the work); the ties are given (YtpomloangafbkaaGreatDoorTie.lean); close each card by the builder's one call (the guide's Derived/Test/ToyasCard.lean, 'card_holds'). Laid BY PROGRAM, IN A SANDBOX (cutbox-door.mjs). By AI agents, Wed Nov 11 2026. No macro, syntax, notation, axiom, sorry.
-/
import Derived.Test.YtpomloangafbkaaGreatDoorRows
import GoSem.ClaimSeven
namespace Go.Proofs.YtpomloangafbkaaGreatDoor
namespace Rows

/-- THE TIED CARD OF 'moothilllaw10.InstTexts'. -/
def instTextsCard : Claim7 := { stood := { row := instTextsRow, standIns := [], harness := (true, "ba83f96920dd5c531ef591e33167ad0483e409ecdaf6a5e98da90974a0f38ae0"), looks := true }, kinds := [], alts := [], laidByText := true, laidKinds := [.data, .data, .data, .data, .sentinel, .sentinel, .data, .pinned], laidTests := true, laidLooks := .later }
def InstTextsCardSaid : Prop := Claim7.holds Tryz.pinned (.plain (OpenSpec.ofChange instTextsSpec)) instTextsCard

/-- THE TIED CARD OF 'moothilllaw10.InstReads'. -/
def instReadsCard : Claim7 := { stood := { row := instReadsRow, standIns := [], harness := (true, "ba83f96920dd5c531ef591e33167ad0483e409ecdaf6a5e98da90974a0f38ae0"), looks := true }, kinds := [], alts := [], laidByText := true, laidKinds := [.data, .data, .data, .data, .sentinel, .sentinel, .data, .pinned], laidTests := true, laidLooks := .later }
def InstReadsCardSaid : Prop := Claim7.holds Tryz.pinned (.plain (OpenSpec.ofChange instReadsSpec)) instReadsCard

/-- THE TIED CARD OF 'moothilllaw11.MsgTexts'. -/
def msgTextsCard : Claim7 := { stood := { row := msgTextsRow, standIns := [], harness := (true, "ba83f96920dd5c531ef591e33167ad0483e409ecdaf6a5e98da90974a0f38ae0"), looks := true }, kinds := [], alts := [], laidByText := true, laidKinds := [.data, .data, .data, .data, .sentinel, .sentinel, .data, .pinned], laidTests := true, laidLooks := .later }
def MsgTextsCardSaid : Prop := Claim7.holds Tryz.pinned (.plain (OpenSpec.ofChange msgTextsSpec)) msgTextsCard

/-- THE TIED CARD OF 'moothilllaw11.MsgReads'. -/
def msgReadsCard : Claim7 := { stood := { row := msgReadsRow, standIns := [], harness := (true, "ba83f96920dd5c531ef591e33167ad0483e409ecdaf6a5e98da90974a0f38ae0"), looks := true }, kinds := [], alts := [], laidByText := true, laidKinds := [.data, .data, .data, .data, .sentinel, .sentinel, .data, .pinned], laidTests := true, laidLooks := .later }
def MsgReadsCardSaid : Prop := Claim7.holds Tryz.pinned (.plain (OpenSpec.ofChange msgReadsSpec)) msgReadsCard

/-- THE SECOND FORM's CARD OF 'moothilllaw10.InstTexts'. -/
def instTextsUptoCard : Claim7 := { stood := { row := instTextsUptoRow, standIns := [], harness := (true, "ba83f96920dd5c531ef591e33167ad0483e409ecdaf6a5e98da90974a0f38ae0"), looks := true }, kinds := [], alts := [], laidByText := true, laidKinds := [.data, .data, .data, .data, .sentinel, .sentinel, .data, .pinned], laidTests := true, laidLooks := .later }
def InstTextsUptoCardSaid : Prop := Claim7.holds Tryz.pinned (.plain (OpenSpec.upto instTextsSpec)) instTextsUptoCard

/-- THE SECOND FORM's CARD OF 'moothilllaw10.InstReads'. -/
def instReadsUptoCard : Claim7 := { stood := { row := instReadsUptoRow, standIns := [], harness := (true, "ba83f96920dd5c531ef591e33167ad0483e409ecdaf6a5e98da90974a0f38ae0"), looks := true }, kinds := [], alts := [], laidByText := true, laidKinds := [.data, .data, .data, .data, .sentinel, .sentinel, .data, .pinned], laidTests := true, laidLooks := .later }
def InstReadsUptoCardSaid : Prop := Claim7.holds Tryz.pinned (.plain (OpenSpec.upto instReadsSpec)) instReadsUptoCard

/-- THE SECOND FORM's CARD OF 'moothilllaw11.MsgTexts'. -/
def msgTextsUptoCard : Claim7 := { stood := { row := msgTextsUptoRow, standIns := [], harness := (true, "ba83f96920dd5c531ef591e33167ad0483e409ecdaf6a5e98da90974a0f38ae0"), looks := true }, kinds := [], alts := [], laidByText := true, laidKinds := [.data, .data, .data, .data, .sentinel, .sentinel, .data, .pinned], laidTests := true, laidLooks := .later }
def MsgTextsUptoCardSaid : Prop := Claim7.holds Tryz.pinned (.plain (OpenSpec.upto msgTextsSpec)) msgTextsUptoCard

/-- THE SECOND FORM's CARD OF 'moothilllaw11.MsgReads'. -/
def msgReadsUptoCard : Claim7 := { stood := { row := msgReadsUptoRow, standIns := [], harness := (true, "ba83f96920dd5c531ef591e33167ad0483e409ecdaf6a5e98da90974a0f38ae0"), looks := true }, kinds := [], alts := [], laidByText := true, laidKinds := [.data, .data, .data, .data, .sentinel, .sentinel, .data, .pinned], laidTests := true, laidLooks := .later }
def MsgReadsUptoCardSaid : Prop := Claim7.holds Tryz.pinned (.plain (OpenSpec.upto msgReadsSpec)) msgReadsUptoCard
end Rows
end Go.Proofs.YtpomloangafbkaaGreatDoor

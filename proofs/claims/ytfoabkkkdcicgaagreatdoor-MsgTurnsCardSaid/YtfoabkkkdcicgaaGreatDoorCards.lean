/-
  DERIVED. GIVEN WITH THE SEED: THE CARDS: each row of YtfoabkkkdcicgaaGreatDoorRows.lean that lists a variable, with what it lists TIED to the program's text (the seventh form; the later family's looks); each row that meets fmt, with fmt's text TOLD by the authors' own Lean function (tested against real Go, not proved from fmt's source: count such statements apart). THE CARD IS WHAT COUNTS. Prove the row's statement (the work); the ties are given (YtfoabkkkdcicgaaGreatDoorTie.lean); close each card by the builder's one call (the guide's Derived/Test/ToyasCard.lean, 'card_holds'). Laid BY PROGRAM, IN A SANDBOX (cutbox-door.mjs). By AI agents, Wed Nov 11 2026. No macro, syntax, notation, axiom, sorry.
-/
import Derived.Test.YtfoabkkkdcicgaaGreatDoorRows
import GoSem.ClaimSeven
namespace Go.Proofs.YtfoabkkkdcicgaaGreatDoor
namespace Rows

/-- THE TIED CARD OF 'moothilllaw10.InstParses'. -/
def instParsesCard : Claim7 := { stood := { row := instParsesRow, standIns := [], harness := (true, "e2a6138176af4264c0b7a9f18d8e371a46d140e22fda58dfbe3a888dd5804ba9"), looks := false }, kinds := [], alts := [], laidByText := true, laidKinds := [.data, .pinned], laidTests := true, laidLooks := .later }
def InstParsesCardSaid : Prop := Claim7.holds Tryz.pinned (.plain (OpenSpec.ofChange instParsesSpec)) instParsesCard

/-- THE TIED CARD OF 'moothilllaw11.MsgFrames'. -/
def msgFramesCard : Claim7 := { stood := { row := msgFramesRow, standIns := [], harness := (true, "e2a6138176af4264c0b7a9f18d8e371a46d140e22fda58dfbe3a888dd5804ba9"), looks := false }, kinds := [], alts := [], laidByText := true, laidKinds := [.data, .pinned], laidTests := true, laidLooks := .later }
def MsgFramesCardSaid : Prop := Claim7.holds Tryz.pinned (.plain (OpenSpec.ofChange msgFramesSpec)) msgFramesCard

/-- THE TIED CARD OF 'moothilllaw11.MsgTurns'. -/
def msgTurnsCard : Claim7 := { stood := { row := msgTurnsRow, standIns := [], harness := (true, "e2a6138176af4264c0b7a9f18d8e371a46d140e22fda58dfbe3a888dd5804ba9"), looks := false }, kinds := [], alts := [], laidByText := true, laidKinds := [.data, .pinned], laidTests := true, laidLooks := .later }
def MsgTurnsCardSaid : Prop := Claim7.holds Tryz.pinned (.plain (OpenSpec.ofChange msgTurnsSpec)) msgTurnsCard

/-- THE TIED CARD OF 'moothilllaw11.MsgAsks'. -/
def msgAsksCard : Claim7 := { stood := { row := msgAsksRow, standIns := [], harness := (true, "e2a6138176af4264c0b7a9f18d8e371a46d140e22fda58dfbe3a888dd5804ba9"), looks := false }, kinds := [], alts := [], laidByText := true, laidKinds := [.data, .pinned], laidTests := true, laidLooks := .later }
def MsgAsksCardSaid : Prop := Claim7.holds Tryz.pinned (.plain (OpenSpec.ofChange msgAsksSpec)) msgAsksCard

/-- THE SECOND FORM's CARD OF 'moothilllaw10.InstParses'. -/
def instParsesUptoCard : Claim7 := { stood := { row := instParsesUptoRow, standIns := [], harness := (true, "e2a6138176af4264c0b7a9f18d8e371a46d140e22fda58dfbe3a888dd5804ba9"), looks := false }, kinds := [], alts := [], laidByText := true, laidKinds := [.data, .pinned], laidTests := true, laidLooks := .later }
def InstParsesUptoCardSaid : Prop := Claim7.holds Tryz.pinned (.plain (OpenSpec.upto instParsesSpec)) instParsesUptoCard

/-- THE SECOND FORM's CARD OF 'moothilllaw11.MsgFrames'. -/
def msgFramesUptoCard : Claim7 := { stood := { row := msgFramesUptoRow, standIns := [], harness := (true, "e2a6138176af4264c0b7a9f18d8e371a46d140e22fda58dfbe3a888dd5804ba9"), looks := false }, kinds := [], alts := [], laidByText := true, laidKinds := [.data, .pinned], laidTests := true, laidLooks := .later }
def MsgFramesUptoCardSaid : Prop := Claim7.holds Tryz.pinned (.plain (OpenSpec.upto msgFramesSpec)) msgFramesUptoCard

/-- THE SECOND FORM's CARD OF 'moothilllaw11.MsgTurns'. -/
def msgTurnsUptoCard : Claim7 := { stood := { row := msgTurnsUptoRow, standIns := [], harness := (true, "e2a6138176af4264c0b7a9f18d8e371a46d140e22fda58dfbe3a888dd5804ba9"), looks := false }, kinds := [], alts := [], laidByText := true, laidKinds := [.data, .pinned], laidTests := true, laidLooks := .later }
def MsgTurnsUptoCardSaid : Prop := Claim7.holds Tryz.pinned (.plain (OpenSpec.upto msgTurnsSpec)) msgTurnsUptoCard

/-- THE SECOND FORM's CARD OF 'moothilllaw11.MsgAsks'. -/
def msgAsksUptoCard : Claim7 := { stood := { row := msgAsksUptoRow, standIns := [], harness := (true, "e2a6138176af4264c0b7a9f18d8e371a46d140e22fda58dfbe3a888dd5804ba9"), looks := false }, kinds := [], alts := [], laidByText := true, laidKinds := [.data, .pinned], laidTests := true, laidLooks := .later }
def MsgAsksUptoCardSaid : Prop := Claim7.holds Tryz.pinned (.plain (OpenSpec.upto msgAsksSpec)) msgAsksUptoCard
end Rows
end Go.Proofs.YtfoabkkkdcicgaaGreatDoor

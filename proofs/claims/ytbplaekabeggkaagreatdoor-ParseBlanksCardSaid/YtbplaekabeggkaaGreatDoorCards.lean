/-
  DERIVED. GIVEN WITH THE SEED: THE CARDS: each row of YtbplaekabeggkaaGreatDoorRows.lean that lists a variable, with what it lists TIED to the program's text (the seventh form; the later family's looks); each row that meets fmt, with fmt's text TOLD by the authors' own Lean function (tested against real Go, not proved from fmt's source: count such statements apart). THE CARD IS WHAT COUNTS. Prove the row's statement (the work); the ties are given (YtbplaekabeggkaaGreatDoorTie.lean); close each card by the builder's one call (the guide's Derived/Test/ToyasCard.lean, 'card_holds'). Laid BY PROGRAM, IN A SANDBOX (cutbox-door.mjs). By AI agents, Wed Nov 11 2026. No macro, syntax, notation, axiom, sorry.
-/
import Derived.Test.YtbplaekabeggkaaGreatDoorRows
import GoSem.ClaimSeven
namespace Go.Proofs.YtbplaekabeggkaaGreatDoor
namespace Rows

/-- THE TIED CARD OF 'truantlaw04.ParseBlanks'. -/
def parseBlanksCard : Claim7 := { stood := { row := parseBlanksRow, standIns := [], harness := (true, "a81e55ac9b9969f85df3eec119f4e3e460ad30d46030c42a55ca5944c27d9ba2"), looks := true }, kinds := [], alts := [], laidByText := true, laidKinds := [.data, .data, .data, .data, .sentinel, .sentinel, .pinned], laidTests := true, laidLooks := .later }
def ParseBlanksCardSaid : Prop := Claim7.holds Tryz.pinned (.plain (OpenSpec.ofChange parseBlanksSpec)) parseBlanksCard

/-- THE TIED CARD OF 'truantlaw05.CheckMore'. -/
def checkMoreCard : Claim7 := { stood := { row := checkMoreRow, standIns := [], harness := (true, "a81e55ac9b9969f85df3eec119f4e3e460ad30d46030c42a55ca5944c27d9ba2"), looks := true }, kinds := [], alts := [], laidByText := true, laidKinds := [.data, .data, .data, .data, .sentinel, .sentinel, .pinned], laidTests := true, laidLooks := .later }
def CheckMoreCardSaid : Prop := Claim7.holds Tryz.pinned (.plain (OpenSpec.ofChange checkMoreSpec)) checkMoreCard

/-- THE TIED CARD OF 'truantlaw30.MintGrows'. -/
def mintGrowsCard : Claim7 := { stood := { row := mintGrowsRow, standIns := [], harness := (true, "a81e55ac9b9969f85df3eec119f4e3e460ad30d46030c42a55ca5944c27d9ba2"), looks := true }, kinds := [], alts := [], laidByText := true, laidKinds := [.data, .data, .data, .data, .sentinel, .sentinel, .pinned], laidTests := true, laidLooks := .later }
def MintGrowsCardSaid : Prop := Claim7.holds Tryz.pinned (.plain (OpenSpec.ofChange mintGrowsSpec)) mintGrowsCard

/-- THE TIED CARD OF 'truantlaw30.MintExact'. -/
def mintExactCard : Claim7 := { stood := { row := mintExactRow, standIns := [], harness := (true, "a81e55ac9b9969f85df3eec119f4e3e460ad30d46030c42a55ca5944c27d9ba2"), looks := true }, kinds := [], alts := [], laidByText := true, laidKinds := [.data, .data, .data, .data, .sentinel, .sentinel, .pinned], laidTests := true, laidLooks := .later }
def MintExactCardSaid : Prop := Claim7.holds Tryz.pinned (.plain (OpenSpec.ofChange mintExactSpec)) mintExactCard

/-- THE TIED CARD OF 'truantlaw05.CheckShown'. -/
def checkShownCard : Claim7 := { stood := { row := checkShownRow, standIns := [], harness := (true, "a81e55ac9b9969f85df3eec119f4e3e460ad30d46030c42a55ca5944c27d9ba2"), looks := true }, kinds := [], alts := [], laidByText := true, laidKinds := [.data, .data, .data, .data, .sentinel, .sentinel, .pinned], laidTests := true, laidLooks := .later }
def CheckShownCardSaid : Prop := Claim7.holds Tryz.pinned (.plain (OpenSpec.ofChange checkShownSpec)) checkShownCard

/-- THE SECOND FORM's CARD OF 'truantlaw04.ParseBlanks'. -/
def parseBlanksUptoCard : Claim7 := { stood := { row := parseBlanksUptoRow, standIns := [], harness := (true, "a81e55ac9b9969f85df3eec119f4e3e460ad30d46030c42a55ca5944c27d9ba2"), looks := true }, kinds := [], alts := [], laidByText := true, laidKinds := [.data, .data, .data, .data, .sentinel, .sentinel, .pinned], laidTests := true, laidLooks := .later }
def ParseBlanksUptoCardSaid : Prop := Claim7.holds Tryz.pinned (.plain (OpenSpec.upto parseBlanksSpec)) parseBlanksUptoCard

/-- THE SECOND FORM's CARD OF 'truantlaw05.CheckMore'. -/
def checkMoreUptoCard : Claim7 := { stood := { row := checkMoreUptoRow, standIns := [], harness := (true, "a81e55ac9b9969f85df3eec119f4e3e460ad30d46030c42a55ca5944c27d9ba2"), looks := true }, kinds := [], alts := [], laidByText := true, laidKinds := [.data, .data, .data, .data, .sentinel, .sentinel, .pinned], laidTests := true, laidLooks := .later }
def CheckMoreUptoCardSaid : Prop := Claim7.holds Tryz.pinned (.plain (OpenSpec.upto checkMoreSpec)) checkMoreUptoCard

/-- THE SECOND FORM's CARD OF 'truantlaw30.MintGrows'. -/
def mintGrowsUptoCard : Claim7 := { stood := { row := mintGrowsUptoRow, standIns := [], harness := (true, "a81e55ac9b9969f85df3eec119f4e3e460ad30d46030c42a55ca5944c27d9ba2"), looks := true }, kinds := [], alts := [], laidByText := true, laidKinds := [.data, .data, .data, .data, .sentinel, .sentinel, .pinned], laidTests := true, laidLooks := .later }
def MintGrowsUptoCardSaid : Prop := Claim7.holds Tryz.pinned (.plain (OpenSpec.upto mintGrowsSpec)) mintGrowsUptoCard

/-- THE SECOND FORM's CARD OF 'truantlaw30.MintExact'. -/
def mintExactUptoCard : Claim7 := { stood := { row := mintExactUptoRow, standIns := [], harness := (true, "a81e55ac9b9969f85df3eec119f4e3e460ad30d46030c42a55ca5944c27d9ba2"), looks := true }, kinds := [], alts := [], laidByText := true, laidKinds := [.data, .data, .data, .data, .sentinel, .sentinel, .pinned], laidTests := true, laidLooks := .later }
def MintExactUptoCardSaid : Prop := Claim7.holds Tryz.pinned (.plain (OpenSpec.upto mintExactSpec)) mintExactUptoCard

/-- THE SECOND FORM's CARD OF 'truantlaw05.CheckShown'. -/
def checkShownUptoCard : Claim7 := { stood := { row := checkShownUptoRow, standIns := [], harness := (true, "a81e55ac9b9969f85df3eec119f4e3e460ad30d46030c42a55ca5944c27d9ba2"), looks := true }, kinds := [], alts := [], laidByText := true, laidKinds := [.data, .data, .data, .data, .sentinel, .sentinel, .pinned], laidTests := true, laidLooks := .later }
def CheckShownUptoCardSaid : Prop := Claim7.holds Tryz.pinned (.plain (OpenSpec.upto checkShownSpec)) checkShownUptoCard
end Rows
end Go.Proofs.YtbplaekabeggkaaGreatDoor

/-
  DERIVED. GIVEN WITH THE SEED: THE CARDS: each row of YtpljbpndooilgaaDoorRows.lean that lists a variable, with what it lists TIED to the program's text (the seventh form; the later family's looks); each row that meets fmt, with fmt's text TOLD by the authors' own Lean function (tested against real Go, not proved from fmt's source: count such statements apart). THE CARD IS WHAT COUNTS. Prove the row's statement (the work); the ties are given (YtpljbpndooilgaaDoorTie.lean); close each card by the builder's one call (the guide's Derived/Test/ToyasCard.lean, 'card_holds'). Laid BY PROGRAM, IN A SANDBOX (cutbox-door.mjs). By AI agents, Wed Nov 11 2026. No macro, syntax, notation, axiom, sorry.
-/
import Derived.Test.YtpljbpndooilgaaDoorRows
import GoSem.ClaimSeven
namespace Go.Proofs.YtpljbpndooilgaaDoor
namespace Rows

/-- THE TIED CARD OF 'latticelaw04.AddrGood'. -/
def addrGoodCard : Claim7 := { stood := { row := addrGoodRow, standIns := [], harness := (true, "2fe464a071399d534970bfe93e07c5bb452c817a3f0c907920ee9a8233d416e4"), looks := true }, kinds := [], alts := [], laidByText := true, laidKinds := [.data, .data, .data, .sentinel, .sentinel], laidTests := true, laidLooks := .later }
def AddrGoodCardSaid : Prop := Claim7.holds Tryd.pinned (.plain (OpenSpec.ofChange addrGoodSpec)) addrGoodCard

/-- THE TIED CARD OF 'latticelaw04.AddrReads'. -/
def addrReadsCard : Claim7 := { stood := { row := addrReadsRow, standIns := [], harness := (true, "2fe464a071399d534970bfe93e07c5bb452c817a3f0c907920ee9a8233d416e4"), looks := true }, kinds := [], alts := [], laidByText := true, laidKinds := [.data, .data, .data, .sentinel, .sentinel], laidTests := true, laidLooks := .later }
def AddrReadsCardSaid : Prop := Claim7.holds Tryd.pinned (.plain (OpenSpec.ofChange addrReadsSpec)) addrReadsCard

/-- THE TIED CARD OF 'latticelaw04.AddrBack'. -/
def addrBackCard : Claim7 := { stood := { row := addrBackRow, standIns := [], harness := (true, "2fe464a071399d534970bfe93e07c5bb452c817a3f0c907920ee9a8233d416e4"), looks := true }, kinds := [], alts := [], laidByText := true, laidKinds := [.data, .data, .data, .sentinel, .sentinel], laidTests := true, laidLooks := .later }
def AddrBackCardSaid : Prop := Claim7.holds Tryd.pinned (.plain (OpenSpec.ofChange addrBackSpec)) addrBackCard

/-- THE TIED CARD OF 'latticelaw04.AddrAreas'. -/
def addrAreasCard : Claim7 := { stood := { row := addrAreasRow, standIns := [], harness := (true, "2fe464a071399d534970bfe93e07c5bb452c817a3f0c907920ee9a8233d416e4"), looks := true }, kinds := [], alts := [], laidByText := true, laidKinds := [.data, .data, .data, .sentinel, .sentinel], laidTests := true, laidLooks := .later }
def AddrAreasCardSaid : Prop := Claim7.holds Tryd.pinned (.plain (OpenSpec.ofChange addrAreasSpec)) addrAreasCard

/-- THE TIED CARD OF 'latticelaw04.AddrMeets'. -/
def addrMeetsCard : Claim7 := { stood := { row := addrMeetsRow, standIns := [], harness := (true, "2fe464a071399d534970bfe93e07c5bb452c817a3f0c907920ee9a8233d416e4"), looks := true }, kinds := [], alts := [], laidByText := true, laidKinds := [.data, .data, .data, .sentinel, .sentinel], laidTests := true, laidLooks := .later }
def AddrMeetsCardSaid : Prop := Claim7.holds Tryd.pinned (.plain (OpenSpec.ofChange addrMeetsSpec)) addrMeetsCard

/-- THE SECOND FORM's CARD OF 'latticelaw04.AddrGood'. -/
def addrGoodUptoCard : Claim7 := { stood := { row := addrGoodUptoRow, standIns := [], harness := (true, "2fe464a071399d534970bfe93e07c5bb452c817a3f0c907920ee9a8233d416e4"), looks := true }, kinds := [], alts := [], laidByText := true, laidKinds := [.data, .data, .data, .sentinel, .sentinel], laidTests := true, laidLooks := .later }
def AddrGoodUptoCardSaid : Prop := Claim7.holds Tryd.pinned (.plain (OpenSpec.upto addrGoodSpec)) addrGoodUptoCard

/-- THE SECOND FORM's CARD OF 'latticelaw04.AddrReads'. -/
def addrReadsUptoCard : Claim7 := { stood := { row := addrReadsUptoRow, standIns := [], harness := (true, "2fe464a071399d534970bfe93e07c5bb452c817a3f0c907920ee9a8233d416e4"), looks := true }, kinds := [], alts := [], laidByText := true, laidKinds := [.data, .data, .data, .sentinel, .sentinel], laidTests := true, laidLooks := .later }
def AddrReadsUptoCardSaid : Prop := Claim7.holds Tryd.pinned (.plain (OpenSpec.upto addrReadsSpec)) addrReadsUptoCard

/-- THE SECOND FORM's CARD OF 'latticelaw04.AddrBack'. -/
def addrBackUptoCard : Claim7 := { stood := { row := addrBackUptoRow, standIns := [], harness := (true, "2fe464a071399d534970bfe93e07c5bb452c817a3f0c907920ee9a8233d416e4"), looks := true }, kinds := [], alts := [], laidByText := true, laidKinds := [.data, .data, .data, .sentinel, .sentinel], laidTests := true, laidLooks := .later }
def AddrBackUptoCardSaid : Prop := Claim7.holds Tryd.pinned (.plain (OpenSpec.upto addrBackSpec)) addrBackUptoCard

/-- THE SECOND FORM's CARD OF 'latticelaw04.AddrAreas'. -/
def addrAreasUptoCard : Claim7 := { stood := { row := addrAreasUptoRow, standIns := [], harness := (true, "2fe464a071399d534970bfe93e07c5bb452c817a3f0c907920ee9a8233d416e4"), looks := true }, kinds := [], alts := [], laidByText := true, laidKinds := [.data, .data, .data, .sentinel, .sentinel], laidTests := true, laidLooks := .later }
def AddrAreasUptoCardSaid : Prop := Claim7.holds Tryd.pinned (.plain (OpenSpec.upto addrAreasSpec)) addrAreasUptoCard

/-- THE SECOND FORM's CARD OF 'latticelaw04.AddrMeets'. -/
def addrMeetsUptoCard : Claim7 := { stood := { row := addrMeetsUptoRow, standIns := [], harness := (true, "2fe464a071399d534970bfe93e07c5bb452c817a3f0c907920ee9a8233d416e4"), looks := true }, kinds := [], alts := [], laidByText := true, laidKinds := [.data, .data, .data, .sentinel, .sentinel], laidTests := true, laidLooks := .later }
def AddrMeetsUptoCardSaid : Prop := Claim7.holds Tryd.pinned (.plain (OpenSpec.upto addrMeetsSpec)) addrMeetsUptoCard
end Rows
end Go.Proofs.YtpljbpndooilgaaDoor

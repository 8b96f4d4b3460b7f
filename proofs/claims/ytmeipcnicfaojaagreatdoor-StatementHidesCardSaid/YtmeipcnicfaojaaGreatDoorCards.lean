/-
  DERIVED. GIVEN WITH THE SEED: THE CARDS: each row of YtmeipcnicfaojaaGreatDoorRows.lean that lists a variable, with what it lists TIED to the program's text (the seventh form; the later family's looks); each row that meets fmt, with fmt's text TOLD by the authors' own Lean function (tested against real Go, not proved from fmt's source: count such statements apart). THE CARD IS WHAT COUNTS. Prove the row's statement (the work); the ties are given (YtmeipcnicfaojaaGreatDoorTie.lean); close each card by the builder's one call (the guide's Derived/Test/ToyasCard.lean, 'card_holds'). Laid BY PROGRAM, IN A SANDBOX (cutbox-door.mjs). By AI agents, Wed Nov 11 2026. No macro, syntax, notation, axiom, sorry.
-/
import Derived.Test.YtmeipcnicfaojaaGreatDoorRows
import GoSem.ClaimSeven
namespace Go.Proofs.YtmeipcnicfaojaaGreatDoor
namespace Rows

/-- THE TIED CARD OF 'reportescrowlaw18.StatementBack'. -/
def statementBackCard : Claim7 := { stood := { row := statementBackRow, standIns := [], harness := (true, "6dde87b9b1f2d4400ff8704f977a73a95b64eefd4ff5a19d1d441b52a991c96f"), looks := true }, kinds := [], alts := [], laidByText := true, laidKinds := [.data, .data, .data, .sentinel, .sentinel], laidTests := true, laidLooks := .later }
def StatementBackCardSaid : Prop := Claim7.holds Tryz.pinned (.plain (OpenSpec.ofChange statementBackSpec)) statementBackCard

/-- THE TIED CARD OF 'reportescrowlaw18.StatementHides'. -/
def statementHidesCard : Claim7 := { stood := { row := statementHidesRow, standIns := [], harness := (true, "6dde87b9b1f2d4400ff8704f977a73a95b64eefd4ff5a19d1d441b52a991c96f"), looks := true }, kinds := [], alts := [], laidByText := true, laidKinds := [.data, .data, .data, .sentinel, .sentinel], laidTests := true, laidLooks := .later }
def StatementHidesCardSaid : Prop := Claim7.holds Tryz.pinned (.plain (OpenSpec.ofChange statementHidesSpec)) statementHidesCard

/-- THE TIED CARD OF 'reportescrowlaw18.StatementChecks'. -/
def statementChecksCard : Claim7 := { stood := { row := statementChecksRow, standIns := [], harness := (true, "6dde87b9b1f2d4400ff8704f977a73a95b64eefd4ff5a19d1d441b52a991c96f"), looks := true }, kinds := [], alts := [], laidByText := true, laidKinds := [.data, .data, .data, .sentinel, .sentinel, .listed, .data], laidTests := true, laidLooks := .later }
def StatementChecksCardSaid : Prop := Claim7.holds Tryz.pinned (.plain (OpenSpec.ofChange statementChecksSpec)) statementChecksCard

/-- THE TIED CARD OF 'reportescrowlaw18.StatementWrites'. -/
def statementWritesCard : Claim7 := { stood := { row := statementWritesRow, standIns := [], harness := (true, "6dde87b9b1f2d4400ff8704f977a73a95b64eefd4ff5a19d1d441b52a991c96f"), looks := true }, kinds := [], alts := [], laidByText := true, laidKinds := [.data, .data, .data, .sentinel, .sentinel, .listed, .data], laidTests := true, laidLooks := .later }
def StatementWritesCardSaid : Prop := Claim7.holds Tryz.pinned (.plain (OpenSpec.ofChange statementWritesSpec)) statementWritesCard

/-- THE TIED CARD OF 'reportescrowlaw18.StatementValues'. -/
def statementValuesCard : Claim7 := { stood := { row := statementValuesRow, standIns := [], harness := (true, "6dde87b9b1f2d4400ff8704f977a73a95b64eefd4ff5a19d1d441b52a991c96f"), looks := true }, kinds := [], alts := [], laidByText := true, laidKinds := [.data, .data, .data, .data, .sentinel, .sentinel, .listed, .data, .pinned], laidTests := true, laidLooks := .later }
def StatementValuesCardSaid : Prop := Claim7.holds Tryz.pinned (.plain (OpenSpec.ofChange statementValuesSpec)) statementValuesCard

/-- THE TIED CARD OF 'reportescrowlaw18.StatementShows'. -/
def statementShowsCard : Claim7 := { stood := { row := statementShowsRow, standIns := [], harness := (true, "6dde87b9b1f2d4400ff8704f977a73a95b64eefd4ff5a19d1d441b52a991c96f"), looks := true }, kinds := [], alts := [], laidByText := true, laidKinds := [.data, .data, .data, .data, .sentinel, .sentinel, .listed, .data, .pinned], laidTests := true, laidLooks := .later }
def StatementShowsCardSaid : Prop := Claim7.holds Tryz.pinned (.plain (OpenSpec.ofChange statementShowsSpec)) statementShowsCard

/-- THE SECOND FORM's CARD OF 'reportescrowlaw18.StatementBack'. -/
def statementBackUptoCard : Claim7 := { stood := { row := statementBackUptoRow, standIns := [], harness := (true, "6dde87b9b1f2d4400ff8704f977a73a95b64eefd4ff5a19d1d441b52a991c96f"), looks := true }, kinds := [], alts := [], laidByText := true, laidKinds := [.data, .data, .data, .sentinel, .sentinel], laidTests := true, laidLooks := .later }
def StatementBackUptoCardSaid : Prop := Claim7.holds Tryz.pinned (.plain (OpenSpec.upto statementBackSpec)) statementBackUptoCard

/-- THE SECOND FORM's CARD OF 'reportescrowlaw18.StatementHides'. -/
def statementHidesUptoCard : Claim7 := { stood := { row := statementHidesUptoRow, standIns := [], harness := (true, "6dde87b9b1f2d4400ff8704f977a73a95b64eefd4ff5a19d1d441b52a991c96f"), looks := true }, kinds := [], alts := [], laidByText := true, laidKinds := [.data, .data, .data, .sentinel, .sentinel], laidTests := true, laidLooks := .later }
def StatementHidesUptoCardSaid : Prop := Claim7.holds Tryz.pinned (.plain (OpenSpec.upto statementHidesSpec)) statementHidesUptoCard

/-- THE SECOND FORM's CARD OF 'reportescrowlaw18.StatementChecks'. -/
def statementChecksUptoCard : Claim7 := { stood := { row := statementChecksUptoRow, standIns := [], harness := (true, "6dde87b9b1f2d4400ff8704f977a73a95b64eefd4ff5a19d1d441b52a991c96f"), looks := true }, kinds := [], alts := [], laidByText := true, laidKinds := [.data, .data, .data, .sentinel, .sentinel, .listed, .data], laidTests := true, laidLooks := .later }
def StatementChecksUptoCardSaid : Prop := Claim7.holds Tryz.pinned (.plain (OpenSpec.upto statementChecksSpec)) statementChecksUptoCard

/-- THE SECOND FORM's CARD OF 'reportescrowlaw18.StatementWrites'. -/
def statementWritesUptoCard : Claim7 := { stood := { row := statementWritesUptoRow, standIns := [], harness := (true, "6dde87b9b1f2d4400ff8704f977a73a95b64eefd4ff5a19d1d441b52a991c96f"), looks := true }, kinds := [], alts := [], laidByText := true, laidKinds := [.data, .data, .data, .sentinel, .sentinel, .listed, .data], laidTests := true, laidLooks := .later }
def StatementWritesUptoCardSaid : Prop := Claim7.holds Tryz.pinned (.plain (OpenSpec.upto statementWritesSpec)) statementWritesUptoCard

/-- THE SECOND FORM's CARD OF 'reportescrowlaw18.StatementValues'. -/
def statementValuesUptoCard : Claim7 := { stood := { row := statementValuesUptoRow, standIns := [], harness := (true, "6dde87b9b1f2d4400ff8704f977a73a95b64eefd4ff5a19d1d441b52a991c96f"), looks := true }, kinds := [], alts := [], laidByText := true, laidKinds := [.data, .data, .data, .data, .sentinel, .sentinel, .listed, .data, .pinned], laidTests := true, laidLooks := .later }
def StatementValuesUptoCardSaid : Prop := Claim7.holds Tryz.pinned (.plain (OpenSpec.upto statementValuesSpec)) statementValuesUptoCard

/-- THE SECOND FORM's CARD OF 'reportescrowlaw18.StatementShows'. -/
def statementShowsUptoCard : Claim7 := { stood := { row := statementShowsUptoRow, standIns := [], harness := (true, "6dde87b9b1f2d4400ff8704f977a73a95b64eefd4ff5a19d1d441b52a991c96f"), looks := true }, kinds := [], alts := [], laidByText := true, laidKinds := [.data, .data, .data, .data, .sentinel, .sentinel, .listed, .data, .pinned], laidTests := true, laidLooks := .later }
def StatementShowsUptoCardSaid : Prop := Claim7.holds Tryz.pinned (.plain (OpenSpec.upto statementShowsSpec)) statementShowsUptoCard
end Rows
end Go.Proofs.YtmeipcnicfaojaaGreatDoor

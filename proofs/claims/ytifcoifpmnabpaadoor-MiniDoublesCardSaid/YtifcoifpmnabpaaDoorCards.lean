/-
  DERIVED. GIVEN WITH THE SEED: THE CARDS: each row of YtifcoifpmnabpaaDoorRows.lean that lists a variable, with what it lists TIED to the program's text (the seventh form; the later family's looks); each row that meets fmt, with fmt's text TOLD by the authors' own Lean function (tested against real Go, not proved from fmt's source: count such statements apart). THE CARD IS WHAT COUNTS. Prove the row's statement (the work); the ties are given (YtifcoifpmnabpaaDoorTie.lean); close each card by the builder's one call (the guide's Derived/Test/ToyasCard.lean, 'card_holds'). Laid BY PROGRAM, IN A SANDBOX (cutbox-door.mjs). By AI agents, Wed Nov 11 2026. No macro, syntax, notation, axiom, sorry.
-/
import Derived.Test.YtifcoifpmnabpaaDoorRows
import GoSem.ClaimSeven
namespace Go.Proofs.YtifcoifpmnabpaaDoor
namespace Rows

/-- THE TIED CARD OF 'caliperlaw06.MiniTells'. -/
def miniTellsCard : Claim7 := { stood := { row := miniTellsRow, standIns := [], harness := (true, "5bff00336af2ffd8969ef4b89f4b5fd8badf3502df18ee3d2af5c9d147623fd1"), looks := false }, kinds := [], alts := [], laidByText := true, laidKinds := [.data], laidTests := true, laidLooks := .later }
def MiniTellsCardSaid : Prop := Claim7.holds Tryd.pinned (.plain (OpenSpec.ofChange miniTellsSpec)) miniTellsCard

/-- THE TIED CARD OF 'caliperlaw06.MiniBack'. -/
def miniBackCard : Claim7 := { stood := { row := miniBackRow, standIns := [], harness := (true, "5bff00336af2ffd8969ef4b89f4b5fd8badf3502df18ee3d2af5c9d147623fd1"), looks := false }, kinds := [], alts := [], laidByText := true, laidKinds := [.data], laidTests := true, laidLooks := .later }
def MiniBackCardSaid : Prop := Claim7.holds Tryd.pinned (.plain (OpenSpec.ofChange miniBackSpec)) miniBackCard

/-- THE TIED CARD OF 'caliperlaw06.MiniRises'. -/
def miniRisesCard : Claim7 := { stood := { row := miniRisesRow, standIns := [], harness := (true, "5bff00336af2ffd8969ef4b89f4b5fd8badf3502df18ee3d2af5c9d147623fd1"), looks := false }, kinds := [], alts := [], laidByText := true, laidKinds := [.data], laidTests := true, laidLooks := .later }
def MiniRisesCardSaid : Prop := Claim7.holds Tryd.pinned (.plain (OpenSpec.ofChange miniRisesSpec)) miniRisesCard

/-- THE TIED CARD OF 'caliperlaw06.MiniDoubles'. -/
def miniDoublesCard : Claim7 := { stood := { row := miniDoublesRow, standIns := [], harness := (true, "5bff00336af2ffd8969ef4b89f4b5fd8badf3502df18ee3d2af5c9d147623fd1"), looks := false }, kinds := [], alts := [], laidByText := true, laidKinds := [.data], laidTests := true, laidLooks := .later }
def MiniDoublesCardSaid : Prop := Claim7.holds Tryd.pinned (.plain (OpenSpec.ofChange miniDoublesSpec)) miniDoublesCard

/-- THE SECOND FORM's CARD OF 'caliperlaw06.MiniTells'. -/
def miniTellsUptoCard : Claim7 := { stood := { row := miniTellsUptoRow, standIns := [], harness := (true, "5bff00336af2ffd8969ef4b89f4b5fd8badf3502df18ee3d2af5c9d147623fd1"), looks := false }, kinds := [], alts := [], laidByText := true, laidKinds := [.data], laidTests := true, laidLooks := .later }
def MiniTellsUptoCardSaid : Prop := Claim7.holds Tryd.pinned (.plain (OpenSpec.upto miniTellsSpec)) miniTellsUptoCard

/-- THE SECOND FORM's CARD OF 'caliperlaw06.MiniBack'. -/
def miniBackUptoCard : Claim7 := { stood := { row := miniBackUptoRow, standIns := [], harness := (true, "5bff00336af2ffd8969ef4b89f4b5fd8badf3502df18ee3d2af5c9d147623fd1"), looks := false }, kinds := [], alts := [], laidByText := true, laidKinds := [.data], laidTests := true, laidLooks := .later }
def MiniBackUptoCardSaid : Prop := Claim7.holds Tryd.pinned (.plain (OpenSpec.upto miniBackSpec)) miniBackUptoCard

/-- THE SECOND FORM's CARD OF 'caliperlaw06.MiniRises'. -/
def miniRisesUptoCard : Claim7 := { stood := { row := miniRisesUptoRow, standIns := [], harness := (true, "5bff00336af2ffd8969ef4b89f4b5fd8badf3502df18ee3d2af5c9d147623fd1"), looks := false }, kinds := [], alts := [], laidByText := true, laidKinds := [.data], laidTests := true, laidLooks := .later }
def MiniRisesUptoCardSaid : Prop := Claim7.holds Tryd.pinned (.plain (OpenSpec.upto miniRisesSpec)) miniRisesUptoCard

/-- THE SECOND FORM's CARD OF 'caliperlaw06.MiniDoubles'. -/
def miniDoublesUptoCard : Claim7 := { stood := { row := miniDoublesUptoRow, standIns := [], harness := (true, "5bff00336af2ffd8969ef4b89f4b5fd8badf3502df18ee3d2af5c9d147623fd1"), looks := false }, kinds := [], alts := [], laidByText := true, laidKinds := [.data], laidTests := true, laidLooks := .later }
def MiniDoublesUptoCardSaid : Prop := Claim7.holds Tryd.pinned (.plain (OpenSpec.upto miniDoublesSpec)) miniDoublesUptoCard
end Rows
end Go.Proofs.YtifcoifpmnabpaaDoor

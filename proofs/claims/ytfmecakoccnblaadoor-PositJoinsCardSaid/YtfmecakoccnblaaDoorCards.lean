/-
  DERIVED. GIVEN WITH THE SEED: THE CARDS: each row of YtfmecakoccnblaaDoorRows.lean that lists a variable, with what it lists TIED to the program's text (the seventh form; the later family's looks); each row that meets fmt, with fmt's text TOLD by the authors' own Lean function (tested against real Go, not proved from fmt's source: count such statements apart). THE CARD IS WHAT COUNTS. Prove the row's statement (the work); the ties are given (YtfmecakoccnblaaDoorTie.lean); close each card by the builder's one call (the guide's Derived/Test/ToyasCard.lean, 'card_holds'). Laid BY PROGRAM, IN A SANDBOX (cutbox-door.mjs). By AI agents, Wed Nov 11 2026. No macro, syntax, notation, axiom, sorry.
-/
import Derived.Test.YtfmecakoccnblaaDoorRows
import GoSem.ClaimSeven
namespace Go.Proofs.YtfmecakoccnblaaDoor
namespace Rows

/-- THE TIED CARD OF 'caliperlaw05.PositSplits'. -/
def positSplitsCard : Claim7 := { stood := { row := positSplitsRow, standIns := [], harness := (true, "b449965e63637a67dc5b612f3b3012c61a3d157813cd5e4f6360fadba39b98f8"), looks := true }, kinds := [], alts := [], laidByText := true, laidKinds := [.data], laidTests := true, laidLooks := .later }
def PositSplitsCardSaid : Prop := Claim7.holds Tryd.pinned (.plain (OpenSpec.ofChange positSplitsSpec)) positSplitsCard

/-- THE TIED CARD OF 'caliperlaw05.PositValues'. -/
def positValuesCard : Claim7 := { stood := { row := positValuesRow, standIns := [], harness := (true, "b449965e63637a67dc5b612f3b3012c61a3d157813cd5e4f6360fadba39b98f8"), looks := true }, kinds := [], alts := [], laidByText := true, laidKinds := [.data], laidTests := true, laidLooks := .later }
def PositValuesCardSaid : Prop := Claim7.holds Tryd.pinned (.plain (OpenSpec.ofChange positValuesSpec)) positValuesCard

/-- THE TIED CARD OF 'caliperlaw05.PositRises'. -/
def positRisesCard : Claim7 := { stood := { row := positRisesRow, standIns := [], harness := (true, "b449965e63637a67dc5b612f3b3012c61a3d157813cd5e4f6360fadba39b98f8"), looks := true }, kinds := [], alts := [], laidByText := true, laidKinds := [.data], laidTests := true, laidLooks := .later }
def PositRisesCardSaid : Prop := Claim7.holds Tryd.pinned (.plain (OpenSpec.ofChange positRisesSpec)) positRisesCard

/-- THE TIED CARD OF 'caliperlaw05.PositInverse'. -/
def positInverseCard : Claim7 := { stood := { row := positInverseRow, standIns := [], harness := (true, "b449965e63637a67dc5b612f3b3012c61a3d157813cd5e4f6360fadba39b98f8"), looks := true }, kinds := [], alts := [], laidByText := true, laidKinds := [.data], laidTests := true, laidLooks := .later }
def PositInverseCardSaid : Prop := Claim7.holds Tryd.pinned (.plain (OpenSpec.ofChange positInverseSpec)) positInverseCard

/-- THE TIED CARD OF 'caliperlaw05.PositJoins'. -/
def positJoinsCard : Claim7 := { stood := { row := positJoinsRow, standIns := [], harness := (true, "b449965e63637a67dc5b612f3b3012c61a3d157813cd5e4f6360fadba39b98f8"), looks := true }, kinds := [], alts := [], laidByText := true, laidKinds := [.data], laidTests := true, laidLooks := .later }
def PositJoinsCardSaid : Prop := Claim7.holds Tryd.pinned (.plain (OpenSpec.ofChange positJoinsSpec)) positJoinsCard

/-- THE TIED CARD OF 'caliperlaw05.PositBack'. -/
def positBackCard : Claim7 := { stood := { row := positBackRow, standIns := [], harness := (true, "b449965e63637a67dc5b612f3b3012c61a3d157813cd5e4f6360fadba39b98f8"), looks := true }, kinds := [], alts := [], laidByText := true, laidKinds := [.data], laidTests := true, laidLooks := .later }
def PositBackCardSaid : Prop := Claim7.holds Tryd.pinned (.plain (OpenSpec.ofChange positBackSpec)) positBackCard

/-- THE TIED CARD OF 'caliperlaw05.PositDoubles'. -/
def positDoublesCard : Claim7 := { stood := { row := positDoublesRow, standIns := [], harness := (true, "b449965e63637a67dc5b612f3b3012c61a3d157813cd5e4f6360fadba39b98f8"), looks := true }, kinds := [], alts := [], laidByText := true, laidKinds := [.data], laidTests := true, laidLooks := .later }
def PositDoublesCardSaid : Prop := Claim7.holds Tryd.pinned (.plain (OpenSpec.ofChange positDoublesSpec)) positDoublesCard

/-- THE TIED CARD OF 'caliperlaw05.PositRegimes'. -/
def positRegimesCard : Claim7 := { stood := { row := positRegimesRow, standIns := [], harness := (true, "b449965e63637a67dc5b612f3b3012c61a3d157813cd5e4f6360fadba39b98f8"), looks := true }, kinds := [], alts := [], laidByText := true, laidKinds := [.data], laidTests := true, laidLooks := .later }
def PositRegimesCardSaid : Prop := Claim7.holds Tryd.pinned (.plain (OpenSpec.ofChange positRegimesSpec)) positRegimesCard

/-- THE SECOND FORM's CARD OF 'caliperlaw05.PositSplits'. -/
def positSplitsUptoCard : Claim7 := { stood := { row := positSplitsUptoRow, standIns := [], harness := (true, "b449965e63637a67dc5b612f3b3012c61a3d157813cd5e4f6360fadba39b98f8"), looks := true }, kinds := [], alts := [], laidByText := true, laidKinds := [.data], laidTests := true, laidLooks := .later }
def PositSplitsUptoCardSaid : Prop := Claim7.holds Tryd.pinned (.plain (OpenSpec.upto positSplitsSpec)) positSplitsUptoCard

/-- THE SECOND FORM's CARD OF 'caliperlaw05.PositValues'. -/
def positValuesUptoCard : Claim7 := { stood := { row := positValuesUptoRow, standIns := [], harness := (true, "b449965e63637a67dc5b612f3b3012c61a3d157813cd5e4f6360fadba39b98f8"), looks := true }, kinds := [], alts := [], laidByText := true, laidKinds := [.data], laidTests := true, laidLooks := .later }
def PositValuesUptoCardSaid : Prop := Claim7.holds Tryd.pinned (.plain (OpenSpec.upto positValuesSpec)) positValuesUptoCard

/-- THE SECOND FORM's CARD OF 'caliperlaw05.PositRises'. -/
def positRisesUptoCard : Claim7 := { stood := { row := positRisesUptoRow, standIns := [], harness := (true, "b449965e63637a67dc5b612f3b3012c61a3d157813cd5e4f6360fadba39b98f8"), looks := true }, kinds := [], alts := [], laidByText := true, laidKinds := [.data], laidTests := true, laidLooks := .later }
def PositRisesUptoCardSaid : Prop := Claim7.holds Tryd.pinned (.plain (OpenSpec.upto positRisesSpec)) positRisesUptoCard

/-- THE SECOND FORM's CARD OF 'caliperlaw05.PositInverse'. -/
def positInverseUptoCard : Claim7 := { stood := { row := positInverseUptoRow, standIns := [], harness := (true, "b449965e63637a67dc5b612f3b3012c61a3d157813cd5e4f6360fadba39b98f8"), looks := true }, kinds := [], alts := [], laidByText := true, laidKinds := [.data], laidTests := true, laidLooks := .later }
def PositInverseUptoCardSaid : Prop := Claim7.holds Tryd.pinned (.plain (OpenSpec.upto positInverseSpec)) positInverseUptoCard

/-- THE SECOND FORM's CARD OF 'caliperlaw05.PositJoins'. -/
def positJoinsUptoCard : Claim7 := { stood := { row := positJoinsUptoRow, standIns := [], harness := (true, "b449965e63637a67dc5b612f3b3012c61a3d157813cd5e4f6360fadba39b98f8"), looks := true }, kinds := [], alts := [], laidByText := true, laidKinds := [.data], laidTests := true, laidLooks := .later }
def PositJoinsUptoCardSaid : Prop := Claim7.holds Tryd.pinned (.plain (OpenSpec.upto positJoinsSpec)) positJoinsUptoCard

/-- THE SECOND FORM's CARD OF 'caliperlaw05.PositBack'. -/
def positBackUptoCard : Claim7 := { stood := { row := positBackUptoRow, standIns := [], harness := (true, "b449965e63637a67dc5b612f3b3012c61a3d157813cd5e4f6360fadba39b98f8"), looks := true }, kinds := [], alts := [], laidByText := true, laidKinds := [.data], laidTests := true, laidLooks := .later }
def PositBackUptoCardSaid : Prop := Claim7.holds Tryd.pinned (.plain (OpenSpec.upto positBackSpec)) positBackUptoCard

/-- THE SECOND FORM's CARD OF 'caliperlaw05.PositDoubles'. -/
def positDoublesUptoCard : Claim7 := { stood := { row := positDoublesUptoRow, standIns := [], harness := (true, "b449965e63637a67dc5b612f3b3012c61a3d157813cd5e4f6360fadba39b98f8"), looks := true }, kinds := [], alts := [], laidByText := true, laidKinds := [.data], laidTests := true, laidLooks := .later }
def PositDoublesUptoCardSaid : Prop := Claim7.holds Tryd.pinned (.plain (OpenSpec.upto positDoublesSpec)) positDoublesUptoCard

/-- THE SECOND FORM's CARD OF 'caliperlaw05.PositRegimes'. -/
def positRegimesUptoCard : Claim7 := { stood := { row := positRegimesUptoRow, standIns := [], harness := (true, "b449965e63637a67dc5b612f3b3012c61a3d157813cd5e4f6360fadba39b98f8"), looks := true }, kinds := [], alts := [], laidByText := true, laidKinds := [.data], laidTests := true, laidLooks := .later }
def PositRegimesUptoCardSaid : Prop := Claim7.holds Tryd.pinned (.plain (OpenSpec.upto positRegimesSpec)) positRegimesUptoCard
end Rows
end Go.Proofs.YtfmecakoccnblaaDoor

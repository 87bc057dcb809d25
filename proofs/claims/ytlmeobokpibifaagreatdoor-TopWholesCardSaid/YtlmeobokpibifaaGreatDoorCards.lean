/-
  DERIVED. GIVEN WITH THE SEED: THE CARDS: each row of YtlmeobokpibifaaGreatDoorRows.lean that lists a variable, with what it lists TIED to the program's text (the seventh form; the later family's looks); each row that meets fmt, with fmt's text TOLD by the authors' own Lean function (tested against real Go, not proved from fmt's source: count such statements apart). THE CARD IS WHAT COUNTS. Prove the row's statement (the work); the ties are given (YtlmeobokpibifaaGreatDoorTie.lean); close each card by the builder's one call (the guide's Derived/Test/ToyasCard.lean, 'card_holds'). Laid BY PROGRAM, IN A SANDBOX (cutbox-door.mjs). By AI agents, Wed Nov 11 2026. No macro, syntax, notation, axiom, sorry.
-/
import Derived.Test.YtlmeobokpibifaaGreatDoorRows
import GoSem.ClaimSeven
namespace Go.Proofs.YtlmeobokpibifaaGreatDoor
namespace Rows

/-- THE TIED CARD OF 'calipertop.TopSmall'. -/
def topSmallCard : Claim7 := { stood := { row := topSmallRow, standIns := [], harness := (true, "c94021e72dbf41522896ac1ef682af4b7288dd928acc1d1c7f6c1f19dab31938"), looks := true }, kinds := [], alts := [], laidByText := true, laidKinds := [.data, .data, .data, .data, .sentinel, .sentinel, .data, .funcs, .mapped, .pinned], laidTests := true, laidLooks := .later }
def TopSmallCardSaid : Prop := Claim7.holds Tryz.pinned (.plain (OpenSpec.ofChange topSmallSpec)) topSmallCard

/-- THE TIED CARD OF 'calipertop.TopNames'. -/
def topNamesCard : Claim7 := { stood := { row := topNamesRow, standIns := [], harness := (true, "c94021e72dbf41522896ac1ef682af4b7288dd928acc1d1c7f6c1f19dab31938"), looks := true }, kinds := [], alts := [], laidByText := true, laidKinds := [.data, .data, .data, .data, .sentinel, .sentinel, .data, .funcs, .mapped, .pinned], laidTests := true, laidLooks := .later }
def TopNamesCardSaid : Prop := Claim7.holds Tryz.pinned (.plain (OpenSpec.ofChange topNamesSpec)) topNamesCard

/-- THE TIED CARD OF 'calipertop.TopWholes'. -/
def topWholesCard : Claim7 := { stood := { row := topWholesRow, standIns := [], harness := (true, "c94021e72dbf41522896ac1ef682af4b7288dd928acc1d1c7f6c1f19dab31938"), looks := true }, kinds := [], alts := [], laidByText := true, laidKinds := [.data, .data, .data, .data, .sentinel, .sentinel, .data, .funcs, .mapped, .pinned], laidTests := true, laidLooks := .later }
def TopWholesCardSaid : Prop := Claim7.holds Tryz.pinned (.plain (OpenSpec.ofChange topWholesSpec)) topWholesCard

/-- THE SECOND FORM's CARD OF 'calipertop.TopSmall'. -/
def topSmallUptoCard : Claim7 := { stood := { row := topSmallUptoRow, standIns := [], harness := (true, "c94021e72dbf41522896ac1ef682af4b7288dd928acc1d1c7f6c1f19dab31938"), looks := true }, kinds := [], alts := [], laidByText := true, laidKinds := [.data, .data, .data, .data, .sentinel, .sentinel, .data, .funcs, .mapped, .pinned], laidTests := true, laidLooks := .later }
def TopSmallUptoCardSaid : Prop := Claim7.holds Tryz.pinned (.plain (OpenSpec.upto topSmallSpec)) topSmallUptoCard

/-- THE SECOND FORM's CARD OF 'calipertop.TopNames'. -/
def topNamesUptoCard : Claim7 := { stood := { row := topNamesUptoRow, standIns := [], harness := (true, "c94021e72dbf41522896ac1ef682af4b7288dd928acc1d1c7f6c1f19dab31938"), looks := true }, kinds := [], alts := [], laidByText := true, laidKinds := [.data, .data, .data, .data, .sentinel, .sentinel, .data, .funcs, .mapped, .pinned], laidTests := true, laidLooks := .later }
def TopNamesUptoCardSaid : Prop := Claim7.holds Tryz.pinned (.plain (OpenSpec.upto topNamesSpec)) topNamesUptoCard

/-- THE SECOND FORM's CARD OF 'calipertop.TopWholes'. -/
def topWholesUptoCard : Claim7 := { stood := { row := topWholesUptoRow, standIns := [], harness := (true, "c94021e72dbf41522896ac1ef682af4b7288dd928acc1d1c7f6c1f19dab31938"), looks := true }, kinds := [], alts := [], laidByText := true, laidKinds := [.data, .data, .data, .data, .sentinel, .sentinel, .data, .funcs, .mapped, .pinned], laidTests := true, laidLooks := .later }
def TopWholesUptoCardSaid : Prop := Claim7.holds Tryz.pinned (.plain (OpenSpec.upto topWholesSpec)) topWholesUptoCard
end Rows
end Go.Proofs.YtlmeobokpibifaaGreatDoor

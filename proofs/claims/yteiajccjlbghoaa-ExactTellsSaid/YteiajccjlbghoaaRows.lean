/-
  No cell of these rows narrows 'for every input' (looked for: loops, veiled, ifaces, maps, wideKeys, modest, calm, conditions, laid).
  DERIVED. THE GIVEN ROWS OF THIS SEAT. 8 by the template 'for every input the law returns true; each argument reads behind the call as it read before'; 0 by the template 'total and deterministic' (their statements: YteiajccjlbghoaaTotals.lean).
  GIVEN WITH THE SEED: the statements are not yours to turn. If you find one false, say at which input.
  Laid BY PROGRAM, IN A SANDBOX (cutbox-rows.mjs): the forced cells as the released guide's own fill.sh prints them over the translation 7d048eff56963b26… (all of the seat's roots in one cut). By AI agents, Wed Nov 11 2026. No macro, syntax, notation, axiom, sorry.
-/
import Derived.Test.YteiajccjlbghoaaChecked
import GoSem.Claim
import GoSem.ClaimJoined
import GoSem.ClaimMapViews
import Derived.JoinedTies
import Derived.KernelRfl
namespace Go.Proofs.Yteiajccjlbghoaa
/- THE CELL 'sum', in the pinned program and in every row, IS THE sha256 OF THE DUMP (.gsa) THAT YteiajccjlbghoaaProg.lean LOADS. Nothing in Lean hashes anything: it is a label: what it is worth is what the hold of that sum in a sandbox is worth. -/
noncomputable def Try.pinned : Pinned := { name := "yteiajccjlbghoaa", sum := "7d048eff56963b26ff70a436c23aad9967d1587db506f794c9dacd3f457590ef", checked := Try.checked }
namespace Rows
def none {H : Type} : Left H := { results := [], args := [] }

/-- 'caliperlaw02.ExactTells': WHATEVER THE INPUT: true; the input reads as it did. -/
def exactTellsSpec : ChangeSpec := { name := "exactTells", fn := fun _ => fun
  | [d1, d2, d3] => { results := [.lit (.bool true)], args := [d1, d2, d3] }
  | _ => none }
def exactTellsRow : OpenClaim := { program := "yteiajccjlbghoaa", sum := "7d048eff56963b26ff70a436c23aad9967d1587db506f794c9dacd3f457590ef", func := "caliper/caliperlaw02.ExactTells", spec := "exactTells", inPlace := ["math/bits.Add64", "math/bits.Sub64"], unfollowed := true, recurses := true, named := ["math/bits.divideError", "math/bits.overflowError"], apart := false }
def ExactTellsSaid : Prop := exactTellsRow.holds Try.pinned (OpenSpec.ofChange exactTellsSpec)

/-- ITS FALSE NEIGHBOUR: 'it returns false'. Refute it at one input. -/
def exactTellsWrong : ChangeSpec := { name := "exactTells", fn := fun _ => fun
  | [d1, d2, d3] => { results := [.lit (.bool false)], args := [d1, d2, d3] }
  | _ => none }
def ExactTellsWrongFalsely : Prop := exactTellsRow.holds Try.pinned (OpenSpec.ofChange exactTellsWrong)

/-- 'caliperlaw02.ExactOf': WHATEVER THE INPUT: true; the input reads as it did. -/
def exactOfSpec : ChangeSpec := { name := "exactOf", fn := fun _ => fun
  | [d1, d2, d3, d4] => { results := [.lit (.bool true)], args := [d1, d2, d3, d4] }
  | _ => none }
def exactOfRow : OpenClaim := { program := "yteiajccjlbghoaa", sum := "7d048eff56963b26ff70a436c23aad9967d1587db506f794c9dacd3f457590ef", func := "caliper/caliperlaw02.ExactOf", spec := "exactOf", inPlace := ["math/bits.Add64", "math/bits.Sub64"], unfollowed := true, recurses := true, named := ["math/bits.divideError", "math/bits.overflowError"], apart := false }
def ExactOfSaid : Prop := exactOfRow.holds Try.pinned (OpenSpec.ofChange exactOfSpec)

/-- ITS FALSE NEIGHBOUR: 'it returns false'. Refute it at one input. -/
def exactOfWrong : ChangeSpec := { name := "exactOf", fn := fun _ => fun
  | [d1, d2, d3, d4] => { results := [.lit (.bool false)], args := [d1, d2, d3, d4] }
  | _ => none }
def ExactOfWrongFalsely : Prop := exactOfRow.holds Try.pinned (OpenSpec.ofChange exactOfWrong)

/-- 'caliperlaw02.ExactOrder': WHATEVER THE INPUT: true; the input reads as it did. -/
def exactOrderSpec : ChangeSpec := { name := "exactOrder", fn := fun _ => fun
  | [d1, d2, d3] => { results := [.lit (.bool true)], args := [d1, d2, d3] }
  | _ => none }
def exactOrderRow : OpenClaim := { program := "yteiajccjlbghoaa", sum := "7d048eff56963b26ff70a436c23aad9967d1587db506f794c9dacd3f457590ef", func := "caliper/caliperlaw02.ExactOrder", spec := "exactOrder", inPlace := ["math/bits.Add64", "math/bits.Sub64"], unfollowed := true, recurses := true, named := ["math/bits.divideError", "math/bits.overflowError"], apart := false }
def ExactOrderSaid : Prop := exactOrderRow.holds Try.pinned (OpenSpec.ofChange exactOrderSpec)

/-- ITS FALSE NEIGHBOUR: 'it returns false'. Refute it at one input. -/
def exactOrderWrong : ChangeSpec := { name := "exactOrder", fn := fun _ => fun
  | [d1, d2, d3] => { results := [.lit (.bool false)], args := [d1, d2, d3] }
  | _ => none }
def ExactOrderWrongFalsely : Prop := exactOrderRow.holds Try.pinned (OpenSpec.ofChange exactOrderWrong)

/-- 'caliperlaw02.ExactLog': WHATEVER THE INPUT: true; the input reads as it did. -/
def exactLogSpec : ChangeSpec := { name := "exactLog", fn := fun _ => fun
  | [d] => { results := [.lit (.bool true)], args := [d] }
  | _ => none }
def exactLogRow : OpenClaim := { program := "yteiajccjlbghoaa", sum := "7d048eff56963b26ff70a436c23aad9967d1587db506f794c9dacd3f457590ef", func := "caliper/caliperlaw02.ExactLog", spec := "exactLog", inPlace := ["math/bits.Add64", "math/bits.Sub64"], unfollowed := true, recurses := true, named := ["math/bits.divideError", "math/bits.overflowError"], apart := false }
def ExactLogSaid : Prop := exactLogRow.holds Try.pinned (OpenSpec.ofChange exactLogSpec)

/-- ITS FALSE NEIGHBOUR: 'it returns false'. Refute it at one input. -/
def exactLogWrong : ChangeSpec := { name := "exactLog", fn := fun _ => fun
  | [d] => { results := [.lit (.bool false)], args := [d] }
  | _ => none }
def ExactLogWrongFalsely : Prop := exactLogRow.holds Try.pinned (OpenSpec.ofChange exactLogWrong)

/-- 'caliperlaw02.ExactScaled': WHATEVER THE INPUT: true; the input reads as it did. -/
def exactScaledSpec : ChangeSpec := { name := "exactScaled", fn := fun _ => fun
  | [d1, d2, d3, d4] => { results := [.lit (.bool true)], args := [d1, d2, d3, d4] }
  | _ => none }
def exactScaledRow : OpenClaim := { program := "yteiajccjlbghoaa", sum := "7d048eff56963b26ff70a436c23aad9967d1587db506f794c9dacd3f457590ef", func := "caliper/caliperlaw02.ExactScaled", spec := "exactScaled", inPlace := ["math/bits.Add64", "math/bits.Sub64"], unfollowed := true, recurses := true, named := ["math/bits.divideError", "math/bits.overflowError"], apart := false }
def ExactScaledSaid : Prop := exactScaledRow.holds Try.pinned (OpenSpec.ofChange exactScaledSpec)

/-- ITS FALSE NEIGHBOUR: 'it returns false'. Refute it at one input. -/
def exactScaledWrong : ChangeSpec := { name := "exactScaled", fn := fun _ => fun
  | [d1, d2, d3, d4] => { results := [.lit (.bool false)], args := [d1, d2, d3, d4] }
  | _ => none }
def ExactScaledWrongFalsely : Prop := exactScaledRow.holds Try.pinned (OpenSpec.ofChange exactScaledWrong)

/-- 'caliperlaw02.ExactNoughts': WHATEVER THE INPUT: true; the input reads as it did. -/
def exactNoughtsSpec : ChangeSpec := { name := "exactNoughts", fn := fun _ => fun
  | [d1, d2, d3, d4] => { results := [.lit (.bool true)], args := [d1, d2, d3, d4] }
  | _ => none }
def exactNoughtsRow : OpenClaim := { program := "yteiajccjlbghoaa", sum := "7d048eff56963b26ff70a436c23aad9967d1587db506f794c9dacd3f457590ef", func := "caliper/caliperlaw02.ExactNoughts", spec := "exactNoughts", inPlace := ["math/bits.Add64", "math/bits.Sub64"], unfollowed := true, recurses := true, named := ["math/bits.divideError", "math/bits.overflowError"], apart := false }
def ExactNoughtsSaid : Prop := exactNoughtsRow.holds Try.pinned (OpenSpec.ofChange exactNoughtsSpec)

/-- ITS FALSE NEIGHBOUR: 'it returns false'. Refute it at one input. -/
def exactNoughtsWrong : ChangeSpec := { name := "exactNoughts", fn := fun _ => fun
  | [d1, d2, d3, d4] => { results := [.lit (.bool false)], args := [d1, d2, d3, d4] }
  | _ => none }
def ExactNoughtsWrongFalsely : Prop := exactNoughtsRow.holds Try.pinned (OpenSpec.ofChange exactNoughtsWrong)

/-- 'caliperlaw02.ExactSteps': WHATEVER THE INPUT: true; the input reads as it did. -/
def exactStepsSpec : ChangeSpec := { name := "exactSteps", fn := fun _ => fun
  | [d1, d2] => { results := [.lit (.bool true)], args := [d1, d2] }
  | _ => none }
def exactStepsRow : OpenClaim := { program := "yteiajccjlbghoaa", sum := "7d048eff56963b26ff70a436c23aad9967d1587db506f794c9dacd3f457590ef", func := "caliper/caliperlaw02.ExactSteps", spec := "exactSteps", inPlace := ["math/bits.Add64", "math/bits.Sub64"], unfollowed := true, recurses := true, named := ["math/bits.divideError", "math/bits.overflowError"], apart := false }
def ExactStepsSaid : Prop := exactStepsRow.holds Try.pinned (OpenSpec.ofChange exactStepsSpec)

/-- ITS FALSE NEIGHBOUR: 'it returns false'. Refute it at one input. -/
def exactStepsWrong : ChangeSpec := { name := "exactSteps", fn := fun _ => fun
  | [d1, d2] => { results := [.lit (.bool false)], args := [d1, d2] }
  | _ => none }
def ExactStepsWrongFalsely : Prop := exactStepsRow.holds Try.pinned (OpenSpec.ofChange exactStepsWrong)

/-- 'caliperlaw02.ExactFloor': WHATEVER THE INPUT: true; the input reads as it did. -/
def exactFloorSpec : ChangeSpec := { name := "exactFloor", fn := fun _ => fun
  | [d1, d2] => { results := [.lit (.bool true)], args := [d1, d2] }
  | _ => none }
def exactFloorRow : OpenClaim := { program := "yteiajccjlbghoaa", sum := "7d048eff56963b26ff70a436c23aad9967d1587db506f794c9dacd3f457590ef", func := "caliper/caliperlaw02.ExactFloor", spec := "exactFloor", inPlace := ["math/bits.Add64", "math/bits.Sub64"], unfollowed := true, recurses := true, named := ["math/bits.divideError", "math/bits.overflowError"], apart := false }
def ExactFloorSaid : Prop := exactFloorRow.holds Try.pinned (OpenSpec.ofChange exactFloorSpec)

/-- ITS FALSE NEIGHBOUR: 'it returns false'. Refute it at one input. -/
def exactFloorWrong : ChangeSpec := { name := "exactFloor", fn := fun _ => fun
  | [d1, d2] => { results := [.lit (.bool false)], args := [d1, d2] }
  | _ => none }
def ExactFloorWrongFalsely : Prop := exactFloorRow.holds Try.pinned (OpenSpec.ofChange exactFloorWrong)

/- THE SECOND FORM. 'bulk': how many values and letters a reading holds, each counted each time it is reached (what is shared counts as often as it is met; a slice's spare places count too). A statement '..UptoSaid' is the law's where the arguments, and the package variables that the reading takes, are together of bulk at most 1048576: NARROWER than '..Said'. Prove '..Said' where nothing that the law and all that it calls make is longer than what came in: it says more and counts as full. Else prove '..UptoSaid'. A law counts once. -/
mutual
def uptoBulk {H : Type} : DataW H → Nat
  | .lit (.string bytes) => bytes.length + 1
  | .lit _ => 1
  | .nil => 1
  | .ptr d => uptoBulk d + 1
  | .slice elems spare => uptoBulkAll elems + uptoBulkAll spare + 1
  | .agg parts => uptoBulkAll parts + 1
  | .iface _ d => uptoBulk d + 1
  | .map entries => uptoBulkEntries entries + 1
  | .held _ => 1
def uptoBulkAll {H : Type} : List (DataW H) → Nat
  | [] => 0
  | d :: r => uptoBulk d + uptoBulkAll r
def uptoBulkEntries {H : Type} : List (Lit × DataW H) → Nat
  | [] => 0
  | x :: r => uptoBulkEntry x + uptoBulkEntries r
def uptoBulkEntry {H : Type} : Lit × DataW H → Nat
  | (.string bytes, d) => bytes.length + uptoBulk d + 1
  | (_, d) => uptoBulk d + 1
 end
def uptoSmall : (H : Type) → List (DataW H) → Bool := fun _ ds => decide (uptoBulkAll ds ≤ 1048576)
def OpenSpec.upto (s : _root_.Go.ChangeSpec) : _root_.Go.OpenSpec := { _root_.Go.OpenSpec.ofChange s with cond := some uptoSmall }

/-- 'caliperlaw02.ExactTells', WHERE WHAT IT READS IS OF BULK AT MOST 1048576: true; the input reads as it did. -/
def exactTellsUptoRow : OpenClaim := { program := "yteiajccjlbghoaa", sum := "7d048eff56963b26ff70a436c23aad9967d1587db506f794c9dacd3f457590ef", func := "caliper/caliperlaw02.ExactTells", spec := "exactTells", inPlace := ["math/bits.Add64", "math/bits.Sub64"], unfollowed := true, recurses := true, named := ["math/bits.divideError", "math/bits.overflowError"], apart := false, narrowed := true }
def ExactTellsUptoSaid : Prop := exactTellsUptoRow.holds Try.pinned (OpenSpec.upto exactTellsSpec)

/-- 'caliperlaw02.ExactOf', WHERE WHAT IT READS IS OF BULK AT MOST 1048576: true; the input reads as it did. -/
def exactOfUptoRow : OpenClaim := { program := "yteiajccjlbghoaa", sum := "7d048eff56963b26ff70a436c23aad9967d1587db506f794c9dacd3f457590ef", func := "caliper/caliperlaw02.ExactOf", spec := "exactOf", inPlace := ["math/bits.Add64", "math/bits.Sub64"], unfollowed := true, recurses := true, named := ["math/bits.divideError", "math/bits.overflowError"], apart := false, narrowed := true }
def ExactOfUptoSaid : Prop := exactOfUptoRow.holds Try.pinned (OpenSpec.upto exactOfSpec)

/-- 'caliperlaw02.ExactOrder', WHERE WHAT IT READS IS OF BULK AT MOST 1048576: true; the input reads as it did. -/
def exactOrderUptoRow : OpenClaim := { program := "yteiajccjlbghoaa", sum := "7d048eff56963b26ff70a436c23aad9967d1587db506f794c9dacd3f457590ef", func := "caliper/caliperlaw02.ExactOrder", spec := "exactOrder", inPlace := ["math/bits.Add64", "math/bits.Sub64"], unfollowed := true, recurses := true, named := ["math/bits.divideError", "math/bits.overflowError"], apart := false, narrowed := true }
def ExactOrderUptoSaid : Prop := exactOrderUptoRow.holds Try.pinned (OpenSpec.upto exactOrderSpec)

/-- 'caliperlaw02.ExactLog', WHERE WHAT IT READS IS OF BULK AT MOST 1048576: true; the input reads as it did. -/
def exactLogUptoRow : OpenClaim := { program := "yteiajccjlbghoaa", sum := "7d048eff56963b26ff70a436c23aad9967d1587db506f794c9dacd3f457590ef", func := "caliper/caliperlaw02.ExactLog", spec := "exactLog", inPlace := ["math/bits.Add64", "math/bits.Sub64"], unfollowed := true, recurses := true, named := ["math/bits.divideError", "math/bits.overflowError"], apart := false, narrowed := true }
def ExactLogUptoSaid : Prop := exactLogUptoRow.holds Try.pinned (OpenSpec.upto exactLogSpec)

/-- 'caliperlaw02.ExactScaled', WHERE WHAT IT READS IS OF BULK AT MOST 1048576: true; the input reads as it did. -/
def exactScaledUptoRow : OpenClaim := { program := "yteiajccjlbghoaa", sum := "7d048eff56963b26ff70a436c23aad9967d1587db506f794c9dacd3f457590ef", func := "caliper/caliperlaw02.ExactScaled", spec := "exactScaled", inPlace := ["math/bits.Add64", "math/bits.Sub64"], unfollowed := true, recurses := true, named := ["math/bits.divideError", "math/bits.overflowError"], apart := false, narrowed := true }
def ExactScaledUptoSaid : Prop := exactScaledUptoRow.holds Try.pinned (OpenSpec.upto exactScaledSpec)

/-- 'caliperlaw02.ExactNoughts', WHERE WHAT IT READS IS OF BULK AT MOST 1048576: true; the input reads as it did. -/
def exactNoughtsUptoRow : OpenClaim := { program := "yteiajccjlbghoaa", sum := "7d048eff56963b26ff70a436c23aad9967d1587db506f794c9dacd3f457590ef", func := "caliper/caliperlaw02.ExactNoughts", spec := "exactNoughts", inPlace := ["math/bits.Add64", "math/bits.Sub64"], unfollowed := true, recurses := true, named := ["math/bits.divideError", "math/bits.overflowError"], apart := false, narrowed := true }
def ExactNoughtsUptoSaid : Prop := exactNoughtsUptoRow.holds Try.pinned (OpenSpec.upto exactNoughtsSpec)

/-- 'caliperlaw02.ExactSteps', WHERE WHAT IT READS IS OF BULK AT MOST 1048576: true; the input reads as it did. -/
def exactStepsUptoRow : OpenClaim := { program := "yteiajccjlbghoaa", sum := "7d048eff56963b26ff70a436c23aad9967d1587db506f794c9dacd3f457590ef", func := "caliper/caliperlaw02.ExactSteps", spec := "exactSteps", inPlace := ["math/bits.Add64", "math/bits.Sub64"], unfollowed := true, recurses := true, named := ["math/bits.divideError", "math/bits.overflowError"], apart := false, narrowed := true }
def ExactStepsUptoSaid : Prop := exactStepsUptoRow.holds Try.pinned (OpenSpec.upto exactStepsSpec)

/-- 'caliperlaw02.ExactFloor', WHERE WHAT IT READS IS OF BULK AT MOST 1048576: true; the input reads as it did. -/
def exactFloorUptoRow : OpenClaim := { program := "yteiajccjlbghoaa", sum := "7d048eff56963b26ff70a436c23aad9967d1587db506f794c9dacd3f457590ef", func := "caliper/caliperlaw02.ExactFloor", spec := "exactFloor", inPlace := ["math/bits.Add64", "math/bits.Sub64"], unfollowed := true, recurses := true, named := ["math/bits.divideError", "math/bits.overflowError"], apart := false, narrowed := true }
def ExactFloorUptoSaid : Prop := exactFloorUptoRow.holds Try.pinned (OpenSpec.upto exactFloorSpec)

end Rows
end Go.Proofs.Yteiajccjlbghoaa

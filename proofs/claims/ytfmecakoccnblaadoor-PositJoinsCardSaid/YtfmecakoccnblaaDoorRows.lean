/-
  NARROWER THAN 'FOR EVERY INPUT', by the rows' own cells (each row's printed sentence says how): PositSplits: laid · PositValues: laid · PositRises: laid · PositInverse: laid · PositJoins: laid · PositBack: laid · PositDoubles: laid · PositRegimes: laid.
  DERIVED. THE GIVEN ROWS OF THIS SEAT. 8 by the template 'for every input the law returns true; each argument reads behind the call as it read before'; 0 by the template 'total and deterministic' (their statements: YtfmecakoccnblaaDoorTotals.lean).
  GIVEN WITH THE SEED: the statements are not yours to turn. If you find one false, say at which input.
  Laid BY PROGRAM, IN A SANDBOX (cutbox-rows.mjs): the forced cells as the released guide's own fill.sh prints them over the translation b2b5a85a55425f97… (all of the seat's roots in one cut). By AI agents, Wed Nov 11 2026. No macro, syntax, notation, axiom, sorry.
-/
import Derived.Test.YtfmecakoccnblaaDoorChecked
import GoSem.Claim
import GoSem.ClaimJoined
import GoSem.ClaimMapViews
import Derived.JoinedTies
import Derived.KernelRfl
namespace Go.Proofs.YtfmecakoccnblaaDoor
/- THE CELL 'sum', in the pinned program and in every row, IS THE sha256 OF THE DUMP (.gsa) THAT YtfmecakoccnblaaDoorProg.lean LOADS. Nothing in Lean hashes anything: it is a label: what it is worth is what the hold of that sum in a sandbox is worth. -/
noncomputable def Tryd.pinned : Pinned := { name := "ytfmecakoccnblaadoor", sum := "b2b5a85a55425f978cf1adf74d0d114602f7c79f79eb1cc0a3c92ec4ffe4b267", checked := Tryd.checked }
namespace Rows
def none {H : Type} : Left H := { results := [], args := [] }

/- WHAT THE LISTED PACKAGE-LEVEL VARIABLES READ AS WHEN THE CALL BEGINS. Each datum BY PROGRAM (the guide's laid-datum.mjs) off the statement by which the dump's own 'gosem.cut.vars' lays the variable. In a bare row this is a premise. The card (YtfmecakoccnblaaDoorCards.lean) ties it to the program's text. -/
def laid_math_bits_deBruijn64tab {H : Type} : DataW H := .agg [.lit (.int .u8 0), .lit (.int .u8 1), .lit (.int .u8 56), .lit (.int .u8 2), .lit (.int .u8 57), .lit (.int .u8 49), .lit (.int .u8 28), .lit (.int .u8 3), .lit (.int .u8 61), .lit (.int .u8 58), .lit (.int .u8 42), .lit (.int .u8 50), .lit (.int .u8 38), .lit (.int .u8 29), .lit (.int .u8 17), .lit (.int .u8 4), .lit (.int .u8 62), .lit (.int .u8 47), .lit (.int .u8 59), .lit (.int .u8 36), .lit (.int .u8 45), .lit (.int .u8 43), .lit (.int .u8 51), .lit (.int .u8 22), .lit (.int .u8 53), .lit (.int .u8 39), .lit (.int .u8 33), .lit (.int .u8 30), .lit (.int .u8 24), .lit (.int .u8 18), .lit (.int .u8 12), .lit (.int .u8 5), .lit (.int .u8 63), .lit (.int .u8 55), .lit (.int .u8 48), .lit (.int .u8 27), .lit (.int .u8 60), .lit (.int .u8 41), .lit (.int .u8 37), .lit (.int .u8 16), .lit (.int .u8 46), .lit (.int .u8 35), .lit (.int .u8 44), .lit (.int .u8 21), .lit (.int .u8 52), .lit (.int .u8 32), .lit (.int .u8 23), .lit (.int .u8 11), .lit (.int .u8 54), .lit (.int .u8 26), .lit (.int .u8 40), .lit (.int .u8 15), .lit (.int .u8 34), .lit (.int .u8 20), .lit (.int .u8 31), .lit (.int .u8 10), .lit (.int .u8 25), .lit (.int .u8 14), .lit (.int .u8 19), .lit (.int .u8 9), .lit (.int .u8 13), .lit (.int .u8 8), .lit (.int .u8 7), .lit (.int .u8 6)]

/-- 'caliperlaw05.PositSplits': WHATEVER THE INPUT: true; the input reads as it did. -/
def positSplitsSpec : ChangeSpec := { name := "positSplits", fn := fun _ => fun
  | [d1, d2] => { results := [.lit (.bool true)], args := [d1, d2] }
  | _ => none }
def positSplitsRow : OpenClaim := { program := "ytfmecakoccnblaadoor", sum := "b2b5a85a55425f978cf1adf74d0d114602f7c79f79eb1cc0a3c92ec4ffe4b267", func := "caliper/caliperlaw05.PositSplits", spec := "positSplits", named := ["math/bits.deBruijn64tab"], apart := false, laid := [("math/bits.deBruijn64tab", laid_math_bits_deBruijn64tab)] }
def PositSplitsSaid : Prop := positSplitsRow.holds Tryd.pinned (OpenSpec.ofChange positSplitsSpec)

/-- ITS FALSE NEIGHBOUR: 'it returns false'. Refute it at one input. -/
def positSplitsWrong : ChangeSpec := { name := "positSplits", fn := fun _ => fun
  | [d1, d2] => { results := [.lit (.bool false)], args := [d1, d2] }
  | _ => none }
def PositSplitsWrongFalsely : Prop := positSplitsRow.holds Tryd.pinned (OpenSpec.ofChange positSplitsWrong)

/-- 'caliperlaw05.PositValues': WHATEVER THE INPUT: true; the input reads as it did. -/
def positValuesSpec : ChangeSpec := { name := "positValues", fn := fun _ => fun
  | [d1, d2, d3, d4] => { results := [.lit (.bool true)], args := [d1, d2, d3, d4] }
  | _ => none }
def positValuesRow : OpenClaim := { program := "ytfmecakoccnblaadoor", sum := "b2b5a85a55425f978cf1adf74d0d114602f7c79f79eb1cc0a3c92ec4ffe4b267", func := "caliper/caliperlaw05.PositValues", spec := "positValues", named := ["math/bits.deBruijn64tab"], apart := false, laid := [("math/bits.deBruijn64tab", laid_math_bits_deBruijn64tab)] }
def PositValuesSaid : Prop := positValuesRow.holds Tryd.pinned (OpenSpec.ofChange positValuesSpec)

/-- ITS FALSE NEIGHBOUR: 'it returns false'. Refute it at one input. -/
def positValuesWrong : ChangeSpec := { name := "positValues", fn := fun _ => fun
  | [d1, d2, d3, d4] => { results := [.lit (.bool false)], args := [d1, d2, d3, d4] }
  | _ => none }
def PositValuesWrongFalsely : Prop := positValuesRow.holds Tryd.pinned (OpenSpec.ofChange positValuesWrong)

/-- 'caliperlaw05.PositRises': WHATEVER THE INPUT: true; the input reads as it did. -/
def positRisesSpec : ChangeSpec := { name := "positRises", fn := fun _ => fun
  | [d1, d2, d3] => { results := [.lit (.bool true)], args := [d1, d2, d3] }
  | _ => none }
def positRisesRow : OpenClaim := { program := "ytfmecakoccnblaadoor", sum := "b2b5a85a55425f978cf1adf74d0d114602f7c79f79eb1cc0a3c92ec4ffe4b267", func := "caliper/caliperlaw05.PositRises", spec := "positRises", named := ["math/bits.deBruijn64tab"], apart := false, laid := [("math/bits.deBruijn64tab", laid_math_bits_deBruijn64tab)] }
def PositRisesSaid : Prop := positRisesRow.holds Tryd.pinned (OpenSpec.ofChange positRisesSpec)

/-- ITS FALSE NEIGHBOUR: 'it returns false'. Refute it at one input. -/
def positRisesWrong : ChangeSpec := { name := "positRises", fn := fun _ => fun
  | [d1, d2, d3] => { results := [.lit (.bool false)], args := [d1, d2, d3] }
  | _ => none }
def PositRisesWrongFalsely : Prop := positRisesRow.holds Tryd.pinned (OpenSpec.ofChange positRisesWrong)

/-- 'caliperlaw05.PositInverse': WHATEVER THE INPUT: true; the input reads as it did. -/
def positInverseSpec : ChangeSpec := { name := "positInverse", fn := fun _ => fun
  | [d1, d2] => { results := [.lit (.bool true)], args := [d1, d2] }
  | _ => none }
def positInverseRow : OpenClaim := { program := "ytfmecakoccnblaadoor", sum := "b2b5a85a55425f978cf1adf74d0d114602f7c79f79eb1cc0a3c92ec4ffe4b267", func := "caliper/caliperlaw05.PositInverse", spec := "positInverse", named := ["math/bits.deBruijn64tab"], apart := false, laid := [("math/bits.deBruijn64tab", laid_math_bits_deBruijn64tab)] }
def PositInverseSaid : Prop := positInverseRow.holds Tryd.pinned (OpenSpec.ofChange positInverseSpec)

/-- ITS FALSE NEIGHBOUR: 'it returns false'. Refute it at one input. -/
def positInverseWrong : ChangeSpec := { name := "positInverse", fn := fun _ => fun
  | [d1, d2] => { results := [.lit (.bool false)], args := [d1, d2] }
  | _ => none }
def PositInverseWrongFalsely : Prop := positInverseRow.holds Tryd.pinned (OpenSpec.ofChange positInverseWrong)

/-- 'caliperlaw05.PositJoins': WHATEVER THE INPUT: true; the input reads as it did. -/
def positJoinsSpec : ChangeSpec := { name := "positJoins", fn := fun _ => fun
  | [d1, d2] => { results := [.lit (.bool true)], args := [d1, d2] }
  | _ => none }
def positJoinsRow : OpenClaim := { program := "ytfmecakoccnblaadoor", sum := "b2b5a85a55425f978cf1adf74d0d114602f7c79f79eb1cc0a3c92ec4ffe4b267", func := "caliper/caliperlaw05.PositJoins", spec := "positJoins", unfollowed := true, recurses := true, named := ["math/bits.deBruijn64tab"], apart := false, laid := [("math/bits.deBruijn64tab", laid_math_bits_deBruijn64tab)] }
def PositJoinsSaid : Prop := positJoinsRow.holds Tryd.pinned (OpenSpec.ofChange positJoinsSpec)

/-- ITS FALSE NEIGHBOUR: 'it returns false'. Refute it at one input. -/
def positJoinsWrong : ChangeSpec := { name := "positJoins", fn := fun _ => fun
  | [d1, d2] => { results := [.lit (.bool false)], args := [d1, d2] }
  | _ => none }
def PositJoinsWrongFalsely : Prop := positJoinsRow.holds Tryd.pinned (OpenSpec.ofChange positJoinsWrong)

/-- 'caliperlaw05.PositBack': WHATEVER THE INPUT: true; the input reads as it did. -/
def positBackSpec : ChangeSpec := { name := "positBack", fn := fun _ => fun
  | [d1, d2] => { results := [.lit (.bool true)], args := [d1, d2] }
  | _ => none }
def positBackRow : OpenClaim := { program := "ytfmecakoccnblaadoor", sum := "b2b5a85a55425f978cf1adf74d0d114602f7c79f79eb1cc0a3c92ec4ffe4b267", func := "caliper/caliperlaw05.PositBack", spec := "positBack", unfollowed := true, recurses := true, named := ["math/bits.deBruijn64tab"], apart := false, laid := [("math/bits.deBruijn64tab", laid_math_bits_deBruijn64tab)] }
def PositBackSaid : Prop := positBackRow.holds Tryd.pinned (OpenSpec.ofChange positBackSpec)

/-- ITS FALSE NEIGHBOUR: 'it returns false'. Refute it at one input. -/
def positBackWrong : ChangeSpec := { name := "positBack", fn := fun _ => fun
  | [d1, d2] => { results := [.lit (.bool false)], args := [d1, d2] }
  | _ => none }
def PositBackWrongFalsely : Prop := positBackRow.holds Tryd.pinned (OpenSpec.ofChange positBackWrong)

/-- 'caliperlaw05.PositDoubles': WHATEVER THE INPUT: true; the input reads as it did. -/
def positDoublesSpec : ChangeSpec := { name := "positDoubles", fn := fun _ => fun
  | [d1, d2] => { results := [.lit (.bool true)], args := [d1, d2] }
  | _ => none }
def positDoublesRow : OpenClaim := { program := "ytfmecakoccnblaadoor", sum := "b2b5a85a55425f978cf1adf74d0d114602f7c79f79eb1cc0a3c92ec4ffe4b267", func := "caliper/caliperlaw05.PositDoubles", spec := "positDoubles", unfollowed := true, recurses := true, named := ["math/bits.deBruijn64tab"], apart := false, laid := [("math/bits.deBruijn64tab", laid_math_bits_deBruijn64tab)] }
def PositDoublesSaid : Prop := positDoublesRow.holds Tryd.pinned (OpenSpec.ofChange positDoublesSpec)

/-- ITS FALSE NEIGHBOUR: 'it returns false'. Refute it at one input. -/
def positDoublesWrong : ChangeSpec := { name := "positDoubles", fn := fun _ => fun
  | [d1, d2] => { results := [.lit (.bool false)], args := [d1, d2] }
  | _ => none }
def PositDoublesWrongFalsely : Prop := positDoublesRow.holds Tryd.pinned (OpenSpec.ofChange positDoublesWrong)

/-- 'caliperlaw05.PositRegimes': WHATEVER THE INPUT: true; the input reads as it did. -/
def positRegimesSpec : ChangeSpec := { name := "positRegimes", fn := fun _ => fun
  | [d1, d2, d3, d4] => { results := [.lit (.bool true)], args := [d1, d2, d3, d4] }
  | _ => none }
def positRegimesRow : OpenClaim := { program := "ytfmecakoccnblaadoor", sum := "b2b5a85a55425f978cf1adf74d0d114602f7c79f79eb1cc0a3c92ec4ffe4b267", func := "caliper/caliperlaw05.PositRegimes", spec := "positRegimes", unfollowed := true, recurses := true, named := ["math/bits.deBruijn64tab"], apart := false, laid := [("math/bits.deBruijn64tab", laid_math_bits_deBruijn64tab)] }
def PositRegimesSaid : Prop := positRegimesRow.holds Tryd.pinned (OpenSpec.ofChange positRegimesSpec)

/-- ITS FALSE NEIGHBOUR: 'it returns false'. Refute it at one input. -/
def positRegimesWrong : ChangeSpec := { name := "positRegimes", fn := fun _ => fun
  | [d1, d2, d3, d4] => { results := [.lit (.bool false)], args := [d1, d2, d3, d4] }
  | _ => none }
def PositRegimesWrongFalsely : Prop := positRegimesRow.holds Tryd.pinned (OpenSpec.ofChange positRegimesWrong)

/- THE SECOND FORM. 'bulk': how many values and letters a reading holds, each counted each time it is reached (what is shared counts as often as it is met; a slice's spare places count too). A statement '..UptoSaid' is the law's where the arguments, and the package variables that the reading takes, are together of bulk at most 1048576: NARROWER than '..Said'. Prove '..Said' where nothing that the law and all that it calls make is longer than what came in: it says more and counts as full. Else prove '..UptoSaid'. A law counts once. -/
mutual
def uptoBulk {H : Type} : DataW H → Nat
  | .lit (.string bytes) => bytes.length + 1
  | .lit _ => 1
  | .nil => 1
  | .ptr d => uptoBulk d + 1
  | .slice elems spare => uptoBulkAll elems + uptoBulkAll spare + 1
  | .agg parts => uptoBulkAll parts + 1
  | .iface _ d => uptoBulk d + 1
  | .map entries => uptoBulkEntries entries + 1
  | .held _ => 1
def uptoBulkAll {H : Type} : List (DataW H) → Nat
  | [] => 0
  | d :: r => uptoBulk d + uptoBulkAll r
def uptoBulkEntries {H : Type} : List (Lit × DataW H) → Nat
  | [] => 0
  | x :: r => uptoBulkEntry x + uptoBulkEntries r
def uptoBulkEntry {H : Type} : Lit × DataW H → Nat
  | (.string bytes, d) => bytes.length + uptoBulk d + 1
  | (_, d) => uptoBulk d + 1
 end
def uptoSmall : (H : Type) → List (DataW H) → Bool := fun _ ds => decide (uptoBulkAll ds ≤ 1048576)
def OpenSpec.upto (s : _root_.Go.ChangeSpec) : _root_.Go.OpenSpec := { _root_.Go.OpenSpec.ofChange s with cond := some uptoSmall }

/-- 'caliperlaw05.PositSplits', WHERE WHAT IT READS IS OF BULK AT MOST 1048576: true; the input reads as it did. -/
def positSplitsUptoRow : OpenClaim := { program := "ytfmecakoccnblaadoor", sum := "b2b5a85a55425f978cf1adf74d0d114602f7c79f79eb1cc0a3c92ec4ffe4b267", func := "caliper/caliperlaw05.PositSplits", spec := "positSplits", named := ["math/bits.deBruijn64tab"], apart := false, laid := [("math/bits.deBruijn64tab", laid_math_bits_deBruijn64tab)], narrowed := true }
def PositSplitsUptoSaid : Prop := positSplitsUptoRow.holds Tryd.pinned (OpenSpec.upto positSplitsSpec)

/-- 'caliperlaw05.PositValues', WHERE WHAT IT READS IS OF BULK AT MOST 1048576: true; the input reads as it did. -/
def positValuesUptoRow : OpenClaim := { program := "ytfmecakoccnblaadoor", sum := "b2b5a85a55425f978cf1adf74d0d114602f7c79f79eb1cc0a3c92ec4ffe4b267", func := "caliper/caliperlaw05.PositValues", spec := "positValues", named := ["math/bits.deBruijn64tab"], apart := false, laid := [("math/bits.deBruijn64tab", laid_math_bits_deBruijn64tab)], narrowed := true }
def PositValuesUptoSaid : Prop := positValuesUptoRow.holds Tryd.pinned (OpenSpec.upto positValuesSpec)

/-- 'caliperlaw05.PositRises', WHERE WHAT IT READS IS OF BULK AT MOST 1048576: true; the input reads as it did. -/
def positRisesUptoRow : OpenClaim := { program := "ytfmecakoccnblaadoor", sum := "b2b5a85a55425f978cf1adf74d0d114602f7c79f79eb1cc0a3c92ec4ffe4b267", func := "caliper/caliperlaw05.PositRises", spec := "positRises", named := ["math/bits.deBruijn64tab"], apart := false, laid := [("math/bits.deBruijn64tab", laid_math_bits_deBruijn64tab)], narrowed := true }
def PositRisesUptoSaid : Prop := positRisesUptoRow.holds Tryd.pinned (OpenSpec.upto positRisesSpec)

/-- 'caliperlaw05.PositInverse', WHERE WHAT IT READS IS OF BULK AT MOST 1048576: true; the input reads as it did. -/
def positInverseUptoRow : OpenClaim := { program := "ytfmecakoccnblaadoor", sum := "b2b5a85a55425f978cf1adf74d0d114602f7c79f79eb1cc0a3c92ec4ffe4b267", func := "caliper/caliperlaw05.PositInverse", spec := "positInverse", named := ["math/bits.deBruijn64tab"], apart := false, laid := [("math/bits.deBruijn64tab", laid_math_bits_deBruijn64tab)], narrowed := true }
def PositInverseUptoSaid : Prop := positInverseUptoRow.holds Tryd.pinned (OpenSpec.upto positInverseSpec)

/-- 'caliperlaw05.PositJoins', WHERE WHAT IT READS IS OF BULK AT MOST 1048576: true; the input reads as it did. -/
def positJoinsUptoRow : OpenClaim := { program := "ytfmecakoccnblaadoor", sum := "b2b5a85a55425f978cf1adf74d0d114602f7c79f79eb1cc0a3c92ec4ffe4b267", func := "caliper/caliperlaw05.PositJoins", spec := "positJoins", unfollowed := true, recurses := true, named := ["math/bits.deBruijn64tab"], apart := false, laid := [("math/bits.deBruijn64tab", laid_math_bits_deBruijn64tab)], narrowed := true }
def PositJoinsUptoSaid : Prop := positJoinsUptoRow.holds Tryd.pinned (OpenSpec.upto positJoinsSpec)

/-- 'caliperlaw05.PositBack', WHERE WHAT IT READS IS OF BULK AT MOST 1048576: true; the input reads as it did. -/
def positBackUptoRow : OpenClaim := { program := "ytfmecakoccnblaadoor", sum := "b2b5a85a55425f978cf1adf74d0d114602f7c79f79eb1cc0a3c92ec4ffe4b267", func := "caliper/caliperlaw05.PositBack", spec := "positBack", unfollowed := true, recurses := true, named := ["math/bits.deBruijn64tab"], apart := false, laid := [("math/bits.deBruijn64tab", laid_math_bits_deBruijn64tab)], narrowed := true }
def PositBackUptoSaid : Prop := positBackUptoRow.holds Tryd.pinned (OpenSpec.upto positBackSpec)

/-- 'caliperlaw05.PositDoubles', WHERE WHAT IT READS IS OF BULK AT MOST 1048576: true; the input reads as it did. -/
def positDoublesUptoRow : OpenClaim := { program := "ytfmecakoccnblaadoor", sum := "b2b5a85a55425f978cf1adf74d0d114602f7c79f79eb1cc0a3c92ec4ffe4b267", func := "caliper/caliperlaw05.PositDoubles", spec := "positDoubles", unfollowed := true, recurses := true, named := ["math/bits.deBruijn64tab"], apart := false, laid := [("math/bits.deBruijn64tab", laid_math_bits_deBruijn64tab)], narrowed := true }
def PositDoublesUptoSaid : Prop := positDoublesUptoRow.holds Tryd.pinned (OpenSpec.upto positDoublesSpec)

/-- 'caliperlaw05.PositRegimes', WHERE WHAT IT READS IS OF BULK AT MOST 1048576: true; the input reads as it did. -/
def positRegimesUptoRow : OpenClaim := { program := "ytfmecakoccnblaadoor", sum := "b2b5a85a55425f978cf1adf74d0d114602f7c79f79eb1cc0a3c92ec4ffe4b267", func := "caliper/caliperlaw05.PositRegimes", spec := "positRegimes", unfollowed := true, recurses := true, named := ["math/bits.deBruijn64tab"], apart := false, laid := [("math/bits.deBruijn64tab", laid_math_bits_deBruijn64tab)], narrowed := true }
def PositRegimesUptoSaid : Prop := positRegimesUptoRow.holds Tryd.pinned (OpenSpec.upto positRegimesSpec)

end Rows
end Go.Proofs.YtfmecakoccnblaaDoor

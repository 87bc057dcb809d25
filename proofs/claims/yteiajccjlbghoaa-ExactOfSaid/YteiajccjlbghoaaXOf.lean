/- caliperlaw02.ExactOf walked. Conditions: as the theorem names them. -/
import Derived.Test.YteiajccjlbghoaaXOf1
import Derived.Test.YteiajccjlbghoaaXOf2
import Derived.Test.YteiajccjlbghoaaXOf3
import Derived.Test.YteiajccjlbghoaaXOf4
set_option linter.unusedVariables false
namespace Go.Proofs.Yteiajccjlbghoaa
open Go.RowKit

theorem walk_ExactOf (neg : Bool) (A : Option Addr) (n c : Nat) (F : Nat → Nat) (s f : Int) (cl : Int) (vn : Bool) (m : Nat) (ve : Int) (B : Option Addr) (l d : Nat) (G : Nat → Nat) (k : Int) (w : World) (hA : RdW w A n c F) (hm : m < 18446744073709551616) (hB : RdW w B l d G) (wk : (Lit.int .i64 k).wf = true) :
    Calls Try.prog 4 #[xv neg (.slice A n c) s f, vv cl vn m ve, .slice B l d, .int .i64 k] w fun e w' => e = .returned (.bool true) ∧ Below w.heap.size w w' := by
  have two : (∃ (e1 : Int) (M : Nat), (cl = 1 ∧ e1 = 0 ∧ M = 0) ∨ (cl = 2 ∧ inB ve = true ∧ e1 = ve ∧ M = m)) ∨ (¬ cl = 1 ∧ ¬ (cl = 2 ∧ inB ve = true)) := by
    by_cases h1 : cl = 1
    · exact Or.inl ⟨0, 0, Or.inl ⟨h1, rfl, rfl⟩⟩
    · by_cases h2 : cl = 2 ∧ inB ve = true
      · exact Or.inl ⟨ve, m, Or.inr ⟨h2.1, h2.2, rfl, rfl⟩⟩
      · exact Or.inr ⟨h1, h2⟩
  rcases B with _ | ad <;> rcases two with ⟨e1, M, hy⟩ | hy
  · exact walk_ExactOf1 neg A n c F s f cl vn m ve l d G k w hA hm hB wk e1 M hy
  · exact walk_ExactOf2 neg A n c F s f cl vn m ve l d G k w hA hm hB wk hy
  · exact walk_ExactOf3 neg A n c F s f cl vn m ve ad l d G k w hA hm hB wk e1 M hy
  · exact walk_ExactOf4 neg A n c F s f cl vn m ve ad l d G k w hA hm hB wk hy
end Go.Proofs.Yteiajccjlbghoaa

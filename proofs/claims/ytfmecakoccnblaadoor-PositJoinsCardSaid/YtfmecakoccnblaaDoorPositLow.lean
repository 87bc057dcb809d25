/- What the small functions of the package posit do, each by a walk of its own text. Conditions: as each theorem names them. -/
import Derived.Test.YtfmecakoccnblaaDoorProg
import Derived.Test.YtfmecakoccnblaaDoorNum
import Derived.Deep.QuietTactic
import Derived.BigQuiet
import Derived.Lib.Hide
import Derived.Recover
import Derived.WalkLawsBesides
set_option linter.unusedVariables false
namespace Go.Proofs.YtfmecakoccnblaaDoor
open Go.RowKit

theorem must_ok (err : Int) (w : World) :
    Calls Tryd.prog 28 #[.bool true, .int .i64 err] w fun e w' => e = .returned (.tuple #[]) ∧ w = w' := by
  go_enter Tryd.func28, Tryd.ntmps28
  go_wp2
  go_end0
  exact ⟨rfl, rfl⟩
def ref (err : Int) : Value := .iface 66 (.agg #[.int .i64 err])
theorem must_no (err : Int) (w : World) :
    Calls Tryd.prog 28 #[.bool false, .int .i64 err] w fun e w' => e = .panicked [{ v := ref err, recovered := false }] ∧ w = w' := by
  go_enter Tryd.func28, Tryd.ntmps28
  go_wp2
  exact ⟨rfl, rfl, rfl⟩
theorem wide_ok (n : Int) (w : World) (h1 : 3 ≤ n) (h2 : n ≤ 65) :
    Calls Tryd.prog 27 #[.int .i64 n] w fun e w' => e = .returned (.tuple #[]) ∧ w = w' := by
  go_enter Tryd.func27, Tryd.ntmps27
  go_wp2_with (go_at_call 28; refine (must_ok _ _).mono ?_; rintro e w' ⟨rfl, rfl⟩)
  go_end0
  exact ⟨rfl, rfl⟩
theorem wide_no (n : Int) (w : World) (h : ¬ (3 ≤ n ∧ n ≤ 65)) :
    Calls Tryd.prog 27 #[.int .i64 n] w fun e w' => e = .panicked [{ v := ref 1, recovered := false }] ∧ w = w' := by
  by_cases h1 : 3 ≤ n
  · have h2 : ¬ n ≤ 65 := by omega
    clear h
    go_enter Tryd.func27, Tryd.ntmps27
    go_wp2_with (go_at_call 28; refine (must_no _ _).mono ?_; rintro e w' ⟨rfl, rfl⟩)
    exact ⟨rfl, rfl, rfl⟩
  · clear h
    go_enter Tryd.func27, Tryd.ntmps27
    go_wp2_with (go_at_call 28; refine (must_no _ _).mono ?_; rintro e w' ⟨rfl, rfl⟩)
    exact ⟨rfl, rfl, rfl⟩

theorem caught_idle (p : Addr) (w : World) :
    CallsD Tryd.prog 22 #[.pointer (some p)] .returning w fun e u' w' => e = .returned (.tuple #[]) ∧ u' = .returning ∧ w = w' := by
  refine callsD_of_wpS Tryd.func22 rfl fun c₀ cs hu => ?_
  apply wpS_seq
  apply wpS_region
  simp [wpOpsS, go_sem, recoverD, hu, Tryd.ntmps22, Exit.thenS]
  simp only [Array.replicate_succ, Array.replicate_zero, List.push_toArray, List.append_toArray, List.nil_append, List.cons_append, List.setIfInBounds_toArray, List.set]
  apply wpS_of_wp
  go_wp2
  cases c₀
  simp_all [bodyPostS, results, Tryd.results22]

theorem caught_panicking (p : Addr) (x err : Int) (older : List PanicEntry) (w : World) (hc : w.cell? p = some (.int .i64 x)) (hz : w.frozen? p = false) (hp : p.block < w.heap.size) :
    CallsD Tryd.prog 22 #[.pointer (some p)] (.panicking ({ v := ref err, recovered := false } :: older)) w fun e u' w' => e = .returned (.tuple #[]) ∧ u' = .panicking ({ v := ref err, recovered := true } :: older) ∧ (w.alloc (.cells #[.int .i64 err] 66)).setCell p (.int .i64 err) = w' := by
  have hta : ∀ (e : Int) (w : World), (Instr.typeAssert (.iface 66 (.agg #[.int .i64 e])) 20 66 true).run Tryd.prog w = .ok (.tuple #[.agg #[.int .i64 e], .bool true]) w := fun _ _ => by kernel_rfl
  have hz2 : (w.alloc (Obj.cells #[Value.int IntKind.i64 err] 66)).frozen? p = false := by rw [frozen?_alloc_cells]; exact hz
  refine callsD_of_wpS Tryd.func22 rfl fun c₀ cs hu => ?_
  unfold ref at *
  apply wpS_seq
  apply wpS_region
  simp [wpOpsS, go_sem, recoverD, hu, Tryd.ntmps22, Exit.thenS]
  simp only [Array.replicate_succ, Array.replicate_zero, List.push_toArray, List.append_toArray, List.nil_append, List.cons_append, List.setIfInBounds_toArray, List.set]
  apply wpS_of_wp
  go_wp2
  cases c₀
  simp_all [bodyPostS, results, Tryd.results22]
end Go.Proofs.YtfmecakoccnblaaDoor

/- How an api.Value comes in as an argument. Conditions: as each theorem names them. -/
import Derived.Test.YteiajccjlbghoaaXopen
import Derived.Test.YteiajccjlbghoaaXof
set_option linter.unusedVariables false
namespace Go.Proofs.Yteiajccjlbghoaa
open Go.ChangeShapes Go.WideShapes Go.ChangeAt Go.RowKit Go.Joins

theorem cells_V : Try.prog.cellsOf 37 = 4 := by kernel_rfl
theorem open_V {H : Type} {enc : TypeId × Value → H} {W : World} {hd : Bool} {r : Reach} {b0 : Nat} {v : Value} {d : DataW H} {p : List MemPlace} (hv : Value.okWide Try.prog W r b0 37 v) (h : DataW.Trod enc Try.prog W 0 (fun _ => true) hd 37 v d p) :
    ∃ cl neg m e, v = vv cl neg m e ∧ m < 18446744073709551616 := by
  obtain ⟨c0, c1, c2, c3, y0, y1, y2, y3, k, rfl, rfl, rfl, h0, h1, h2, h3⟩ := open_agg4 Try.underlying37 (by kernel_rfl) cells_V hv h
  obtain ⟨s, e0, _, _⟩ := DataW.trod_int Try.underlying3 h0
  obtain ⟨b, e1, _⟩ := DataW.trod_bool Try.underlying4 h1
  obtain ⟨m, e2, _, hm⟩ := DataW.trod_int Try.underlying35 h2
  obtain ⟨f, e3, _, _⟩ := DataW.trod_int Try.underlying3 h3
  simp at e0 e1 e2 e3
  subst e0 e1 e2 e3
  have x1 : IntKind.u64.min = 0 := rfl
  have x2 : IntKind.u64.max = 18446744073709551615 := rfl
  simp only [Lit.wf, x1, x2, Bool.and_eq_true, decide_eq_true_eq] at hm
  refine ⟨s, b, m.toNat, f, ?_, by omega⟩
  unfold vv
  rw [Int.toNat_of_nonneg hm.1]
end Go.Proofs.Yteiajccjlbghoaa

/- How the arguments of package caliperlaw02's laws come in: an api.Exact, an api.Nat. Conditions: as each theorem names them. -/
import Derived.Test.YteiajccjlbghoaaFresh
import Derived.Test.YteiajccjlbghoaaXcmp
import Derived.WalkKit
import Derived.ProofKit
import Derived.OpenShut
import Derived.Lib.SmallJoins
set_option linter.unusedVariables false
namespace Go.Proofs.Yteiajccjlbghoaa
open Go.ChangeShapes Go.WideShapes Go.ChangeAt Go.RowKit Go.Joins

theorem cells_X : Try.prog.cellsOf 25 = 4 := by kernel_rfl
theorem cells_u : Try.prog.cellsOf 35 = 1 := by kernel_rfl
theorem open_nat {H : Type} {enc : TypeId × Value → H} {W : World} {b : Nat} {hd : Bool} {fuel : Nat} {v : Value} {y : DataW H × List MemPlace} (h : DataW.trod enc Try.prog W b (fun _ => true) hd fuel 23 [v] = some y) :
    ∃ A n c F, v = .slice A n c ∧ RdW W A n c F := by
  rcases open_ints Try.underlying23 Try.underlying35 cells_u h with ⟨h1, _⟩ | ⟨a, len, cap, zs, h1, _, hl, hm, hz, _, hcell, hwf⟩
  · cases h1
    exact ⟨none, 0, 0, fun _ => 0, rfl, (Rd.nil _ _).wide⟩
  · cases h1
    simp only [if_true] at hz
    have hr : ∀ i, i < cap → 0 ≤ zs.getD i 0 ∧ zs.getD i 0 < 18446744073709551616 := by
      intro i hi
      have hm : zs.getD i 0 ∈ zs := by
        rw [List.getD_eq_getElem?_getD, List.getElem?_eq_getElem (by omega)]
        exact List.getElem_mem _
      have := hwf _ hm
      have e1 : IntKind.u64.min = 0 := rfl
      have e2 : IntKind.u64.max = 18446744073709551615 := rfl
      simp only [Lit.wf, e1, e2, Bool.and_eq_true, decide_eq_true_eq] at this
      exact ⟨this.1, by omega⟩
    refine ⟨some a, len, cap, fun i => (zs.getD i 0).toNat, rfl, hl, by unfold maxLen at hm; omega, fun h => by simp at h, fun i hi => ?_, fun h0 => ⟨a, rfl, ?_, fun i hi => ?_⟩⟩
    · have := hr i (by omega)
      show (zs.getD i 0).toNat < 18446744073709551616
      omega
    · have := World.block_lt_of_cell? W _ (hcell 0 (by omega))
      rwa [block_add] at this
    · rw [hcell i (by omega)]
      have := hr i (by omega)
      rw [Int.toNat_of_nonneg this.1]
theorem open_X {H : Type} {enc : TypeId × Value → H} {W : World} {hd : Bool} {r : Reach} {b0 : Nat} {v : Value} {d : DataW H} {p : List MemPlace} (hv : Value.okWide Try.prog W r b0 25 v) (h : DataW.Trod enc Try.prog W 0 (fun _ => true) hd 25 v d p) :
    ∃ neg A n c F s f, v = xv neg (.slice A n c) s f ∧ RdW W A n c F := by
  obtain ⟨c0, c1, c2, c3, y0, y1, y2, y3, m, rfl, rfl, rfl, h0, h1, h2, h3⟩ := open_agg4 Try.underlying25 (by kernel_rfl) cells_X hv h
  obtain ⟨b, e0, _⟩ := DataW.trod_bool Try.underlying4 h0
  obtain ⟨A, n, c, F, e1, hr⟩ := open_nat h1
  obtain ⟨s, e2, _, _⟩ := DataW.trod_int Try.underlying3 h2
  obtain ⟨f, e3, _, _⟩ := DataW.trod_int Try.underlying3 h3
  simp at e0 e2 e3
  subst e0 e1 e2 e3
  exact ⟨b, A, n, c, F, s, f, rfl, hr⟩
theorem open_N {H : Type} {enc : TypeId × Value → H} {W : World} {hd : Bool} {r : Reach} {b0 : Nat} {v : Value} {d : DataW H} {p : List MemPlace} (hv : Value.okWide Try.prog W r b0 23 v) (h : DataW.Trod enc Try.prog W 0 (fun _ => true) hd 23 v d p) :
    ∃ A n c F, v = .slice A n c ∧ RdW W A n c F := by
  obtain ⟨a, l, c, rfl⟩ := okWide_slice Try.underlying23 hv
  obtain ⟨fuel, hf⟩ := h
  exact open_nat (by simpa [Value.cells] using hf)
end Go.Proofs.Yteiajccjlbghoaa

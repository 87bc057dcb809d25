/- caliperlaw02.ExactOf: what its walk is told. Conditions: as each theorem names them. -/
import Derived.Test.YteiajccjlbghoaaXrof
set_option linter.unusedVariables false
namespace Go.Proofs.Yteiajccjlbghoaa
open Go.RowKit

theorem fit_bits1 {N : Nat} (h : fitB N = true) : bitsN N ≤ 8192 := by
  unfold fitB at h
  have h2 : bitsN N ≤ fitE := bitsN_le (of_decide_eq_true h)
  exact Nat.le_trans h2 (by decide)
theorem inB_of {s : Int} (h : -5000 ≤ s ∧ s ≤ 5000) : inB s = true := by unfold inB; simp [h.1, h.2]
theorem fit_of {N b : Nat} (h : N < 2 ^ b) (hb : b ≤ 8192) : fitB N = true := by
  unfold fitB
  exact decide_eq_true (Nat.lt_of_lt_of_le h (Nat.pow_le_pow_right (by decide) hb))
section
variable {P : Program} {md : Region.Mode} {ops : Array Oper} {Q : Exit → Act → World → Prop} {S : World → Prop} {i : Nat} {oi : Oper} {v : Value} {fuel : Nat} {listed : Array Bool} {a : Act} {w : World}
theorem take_p (hi : ops[i]? = some oi) (hs : Region.noSelect ops = true) (hf : Region.free md ops listed i = true) (hr : (Region.ready md ops listed).contains i = true)
    (hQ : ∀ c a w, Q (.panic c) (a.put oi.dst v) w → Q (.panic c) a w) (hw : Region.wanted oi (yielded ops a.tmps) = true) (hy : ∀ w, S w → (execOp a.eval oi).run P w = .ok (.value v) w) (hS : S w)
    (h : wpAnyH P md ops Q S fuel (listed.setIfInBounds i true) (a.put oi.dst v) w) : wpAnyH P md ops Q S (fuel + 1) listed a w := wpAnyH_take hi hs hf hr hQ (Or.inl ⟨hw, hy⟩) hS h
theorem take_u (hi : ops[i]? = some oi) (hs : Region.noSelect ops = true) (hf : Region.free md ops listed i = true) (hr : (Region.ready md ops listed).contains i = true)
    (hQ : ∀ c a w, Q (.panic c) (a.put oi.dst undef) w → Q (.panic c) a w) (hw : Region.wanted oi (yielded ops a.tmps) = false) (hS : S w)
    (h : wpAnyH P md ops Q S fuel (listed.setIfInBounds i true) (a.put oi.dst undef) w) : wpAnyH P md ops Q S (fuel + 1) listed a w := wpAnyH_take hi hs hf hr hQ (Or.inr ⟨hw, rfl⟩) hS h
end
/-- a variable that is an api.Value -/
def VB (w : World) (g : Nat) (cl : Int) (vn : Bool) (m : Nat) (e : Int) : Prop := w.heap[g]? = some (.cells #[.int .i64 cl, .bool vn, .int .u64 m, .int .i64 e] 37 (0, 0))
theorem VB.lt {w : World} {g : Nat} {cl : Int} {vn : Bool} {m : Nat} {e : Int} (h : VB w g cl vn m e) : g < w.heap.size := heap_lt h
theorem VB.below {w w' : World} {g : Nat} {cl : Int} {vn : Bool} {m : Nat} {e : Int} (h : VB w g cl vn m e) (hb : Below w.heap.size w w') : VB w' g cl vn m e := (hb.block g h.lt).trans h
theorem VB.alloc {w : World} {g : Nat} {cl : Int} {vn : Bool} {m : Nat} {e : Int} (h : VB w g cl vn m e) (o : Obj) : VB (w.alloc o) g cl vn m e := (Deep.blk_alloc_lt _ _ _ h.lt).trans h
theorem VB.new (w : World) (cl : Int) (vn : Bool) (m : Nat) (e : Int) : VB (w.alloc (.cells #[.int .i64 cl, .bool vn, .int .u64 m, .int .i64 e] 37)) w.heap.size cl vn m e := Deep.blk_alloc_new _ _
theorem VB.cells {w : World} {g : Nat} {cl : Int} {vn : Bool} {m : Nat} {e : Int} (h : VB w g cl vn m e) :
    w.cell? { block := g, off := 0 } = some (.int .i64 cl) ∧ w.cell? { block := g, off := 1 } = some (.bool vn) ∧ w.cell? { block := g, off := 2 } = some (.int .u64 m) ∧ w.cell? { block := g, off := 3 } = some (.int .i64 e) ∧ g < w.heap.size ∧ g ≠ w.heap.size := by
  have hl := h.lt
  unfold VB at h
  refine ⟨?_, ?_, ?_, ?_, hl, Nat.ne_of_lt hl⟩ <;> simp [World.cell?, h]
/-- a row of the call's own, if it is not empty -/
def Own (b0 : Nat) (w : World) (A : Option Addr) (n : Nat) (G : Nat → Nat) : Prop := 0 < n → ∃ g, A = some ⟨g, 0, none⟩ ∧ b0 ≤ g ∧ Row w g n G
theorem Own.below {b0 : Nat} {w w' : World} {A : Option Addr} {n : Nat} {G : Nat → Nat} (h : Own b0 w A n G) (hb : Below w.heap.size w w') : Own b0 w' A n G := fun h0 => by
  obtain ⟨g, a, b, c⟩ := h h0
  exact ⟨g, a, b, c.below hb⟩
theorem Own.alloc {b0 : Nat} {w : World} {A : Option Addr} {n : Nat} {G : Nat → Nat} (h : Own b0 w A n G) (o : Obj) : Own b0 (w.alloc o) A n G := h.below (bgrow (Below.refl _ _) o)
theorem IsF.alloc {B : Nat} {w : World} {v : Value} {N : Nat} (h : IsF B w v N) (o : Obj) : IsF B (w.alloc o) v N := h.below (bgrow (Below.refl _ _) o)
/-- the two answers of Of, where there is one -/
theorem of_yes (cl : Int) (neg : Bool) (m : Nat) (e e1 : Int) (M : Nat) (w : World) (hm : m < 18446744073709551616) (h : (cl = 1 ∧ e1 = 0 ∧ M = 0) ∨ (cl = 2 ∧ inB e = true ∧ e1 = e ∧ M = m)) :
    Calls Try.prog 21 #[vv cl neg m e] w fun en w' => (∃ A n c, en = .returned (.tuple #[xv neg (.slice A n c) e1 0, .bool true]) ∧ IsN w' (.slice A n c) M) ∧ Below w.heap.size w w' := by
  refine (of_X cl neg m e w hm).mono ?_
  rintro en w' ⟨⟨r, rfl, hr⟩, hb⟩
  refine ⟨?_, hb⟩
  rcases h with ⟨rfl, rfl, rfl⟩ | ⟨rfl, he, rfl, rfl⟩
  · rcases hr with ⟨_, rfl⟩ | ⟨h, _⟩ | ⟨h, _⟩
    · exact ⟨none, 0, 0, rfl, isN_none _⟩
    · exact absurd h (by decide)
    · exact absurd rfl h
  · rcases hr with ⟨h, _⟩ | ⟨_, _, v, hv, rfl⟩ | ⟨_, h, _⟩
    · exact absurd h (by decide)
    · obtain ⟨A, n, c, rfl, -⟩ := nlen hv
      exact ⟨A, n, c, rfl, hv⟩
    · exact absurd ⟨rfl, he⟩ h
theorem of_no (cl : Int) (neg : Bool) (m : Nat) (e : Int) (w : World) (hm : m < 18446744073709551616) (h : ¬ cl = 1 ∧ ¬ (cl = 2 ∧ inB e = true)) :
    Calls Try.prog 21 #[vv cl neg m e] w fun en w' => en = .returned (.tuple #[xv false (.slice none 0 0) 0 0, .bool false]) ∧ Below w.heap.size w w' := by
  refine (of_X cl neg m e w hm).mono ?_
  rintro en w' ⟨⟨r, rfl, hr⟩, hb⟩
  refine ⟨?_, hb⟩
  rcases hr with ⟨h1, _⟩ | ⟨h1, h2, _⟩ | ⟨_, _, rfl⟩
  · exact absurd h1 h.1
  · exact absurd ⟨h1, h2⟩ h.2
  · rfl
theorem rof_yes (cl : Int) (neg : Bool) (m : Nat) (e e1 : Int) (M : Nat) (w : World) (hm : m < 18446744073709551616) (h : (cl = 1 ∧ e1 = 0 ∧ M = 0) ∨ (cl = 2 ∧ inB e = true ∧ e1 = e ∧ M = m)) :
    Calls Try.prog 22 #[vv cl neg m e] w fun en w' => (∃ A n c, en = .returned (.tuple #[xv neg (.slice A n c) e1 0, .bool true]) ∧ IsN w' (.slice A n c) M) ∧ Below w.heap.size w w' := by
  refine (rof_X cl neg m e w hm).mono ?_
  rintro en w' ⟨⟨r, rfl, hr⟩, hb⟩
  refine ⟨?_, hb⟩
  rcases h with ⟨rfl, rfl, rfl⟩ | ⟨rfl, he, rfl, rfl⟩
  · rcases hr with ⟨_, rfl⟩ | ⟨h, _⟩ | ⟨h, _⟩
    · exact ⟨none, 0, 0, rfl, isN_none _⟩
    · exact absurd h (by decide)
    · exact absurd rfl h
  · rcases hr with ⟨h, _⟩ | ⟨_, _, v, hv, rfl⟩ | ⟨_, h, _⟩
    · exact absurd h (by decide)
    · obtain ⟨A, n, c, rfl, -⟩ := nlen hv
      exact ⟨A, n, c, rfl, hv⟩
    · exact absurd ⟨rfl, he⟩ h
theorem rof_no (cl : Int) (neg : Bool) (m : Nat) (e : Int) (w : World) (hm : m < 18446744073709551616) (h : ¬ cl = 1 ∧ ¬ (cl = 2 ∧ inB e = true)) :
    Calls Try.prog 22 #[vv cl neg m e] w fun en w' => en = .returned (.tuple #[xv false (.slice none 0 0) 0 0, .bool false]) ∧ Below w.heap.size w w' := by
  refine (rof_X cl neg m e w hm).mono ?_
  rintro en w' ⟨⟨r, rfl, hr⟩, hb⟩
  refine ⟨?_, hb⟩
  rcases hr with ⟨h1, _⟩ | ⟨h1, h2, _⟩ | ⟨_, _, rfl⟩
  · exact absurd h1 h.1
  · exact absurd ⟨h1, h2⟩ h.2
  · rfl
end Go.Proofs.Yteiajccjlbghoaa

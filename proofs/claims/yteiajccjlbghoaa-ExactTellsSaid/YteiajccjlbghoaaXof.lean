/- package exact's Of, Dec; package nat's Word, Bit. Conditions: as each theorem names them. -/
import Derived.Test.YteiajccjlbghoaaXright
import Derived.Test.YteiajccjlbghoaaFresh
set_option linter.unusedVariables false
namespace Go.Proofs.Yteiajccjlbghoaa
open Go.RowKit

/-- a value's class, its sign, its magnitude, its power -/
def vv (cl : Int) (neg : Bool) (m : Nat) (e : Int) : Value := .agg #[.int .i64 cl, .bool neg, .int .u64 m, .int .i64 e]
def vbox (cl : Int) (neg : Bool) (m : Nat) (e : Int) : Obj := .cells #[.int .i64 cl, .bool neg, .int .u64 m, .int .i64 e] 37
/-- what Of answers -/
def OfIs (cl : Int) (neg : Bool) (m : Nat) (e : Int) (w : World) (r : Value) : Prop :=
  (cl = 1 ∧ r = .tuple #[xv neg (.slice none 0 0) 0 0, .bool true]) ∨
  (cl = 2 ∧ inB e = true ∧ ∃ v, IsN w v m ∧ r = .tuple #[xv neg v e 0, .bool true]) ∨
  (¬ cl = 1 ∧ ¬ (cl = 2 ∧ inB e = true) ∧ r = .tuple #[xv false (.slice none 0 0) 0 0, .bool false])
theorem bset {w a : World} (h : Below w.heap.size w a) {p : Addr} {v : Value} (hp : w.heap.size ≤ p.block) : Below w.heap.size w (a.setCell p v) := h.setCell hp v
/-- a block that may be written -/
def Wr (w : World) (g : Nat) (k : Nat) (t : TypeId) : Prop := ∃ cs : Array Value, cs.size = k ∧ w.heap[g]? = some (.cells cs t (0, 0))
theorem Wr.below {w w' : World} {g k : Nat} {t : TypeId} (h : Wr w g k t) (hb : Below w.heap.size w w') : Wr w' g k t := by
  obtain ⟨cs, hk, h⟩ := h
  refine ⟨cs, hk, ?_⟩
  have hg : g < w.heap.size := by
    rcases Nat.lt_or_ge g w.heap.size with h1 | h1
    · exact h1
    · rw [Array.getElem?_eq_none h1] at h; cases h
  rw [hb.block g hg, h]
theorem Wr.new (w : World) (cs : Array Value) (t : TypeId) (k : Nat) (hk : cs.size = k) : Wr (w.alloc (.cells cs t)) w.heap.size k t := ⟨cs, hk, Deep.blk_alloc_new _ _⟩
theorem Wr.four {w : World} {g : Nat} {t : TypeId} (h : Wr w g 4 t) : ∃ a b c d, (w.cell? { block := g, off := 0 } = some a ∧ w.cell? { block := g, off := 1 } = some b ∧ w.cell? { block := g, off := 2 } = some c ∧ w.cell? { block := g, off := 3 } = some d) ∧ (w.frozen? { block := g, off := 0 } = false ∧ w.frozen? { block := g, off := 1 } = false ∧ w.frozen? { block := g, off := 2 } = false ∧ w.frozen? { block := g, off := 3 } = false) := by
  obtain ⟨cs, hk, h⟩ := h
  rcases cs with ⟨l⟩
  match l, hk with
  | [a, b, c, d], _ =>
    refine ⟨a, b, c, d, ⟨?_, ?_, ?_, ?_⟩, ?_, ?_, ?_, ?_⟩ <;> simp [World.cell?, World.frozen?, h]
theorem of_X (cl : Int) (neg : Bool) (m : Nat) (e : Int) (w : World) (hm : m < 18446744073709551616) :
    Calls Try.prog 21 #[vv cl neg m e] w fun en w' => (∃ r, en = .returned r ∧ OfIs cl neg m e w' r) ∧ Below w.heap.size w w' := by
  have HA := Lib.hid (bgrow (Below.refl w.heap.size w) (vbox cl neg m e))
  have IE := Lib.hid (fun w => in_any e _ w rfl)
  have ON := Lib.hid (fun w => of_F m hm w)
  unfold vv vbox at *
  by_cases h1 : cl = 1
  · subst h1
    go_enter Try.func21, Try.ntmps21
    go_wp2_with fail
    refine bodyPost_ret (v := .tuple #[.agg #[.bool neg, .slice none 0 0, .int .i64 0, .int .i64 0], .bool true]) (by simp [results, Try.results21, go_sem]) rfl ⟨⟨_, rfl, Or.inl ⟨rfl, rfl⟩⟩, ?_⟩
    repeat (first | refine Below.setCell ?_ (by simp) _ | refine Below.alloc ?_ (by simp; try omega) _ | refine bdrewN ?_ _)
    exact Below.refl _ _
  · have t1 : (cl == 1) = false := by simpa using h1
    by_cases h2 : cl = 2
    · subst h2
      cases es : inB e with
      | false =>
        rw [es] at IE
        go_enter Try.func21, Try.ntmps21
        go_wp2_with fail
        with_reducible (refine (IE.out _).mono ?_)
        rintro en w1 ⟨rfl, rfl⟩
        go_wp2_with fail
        refine bodyPost_ret (v := .tuple #[.agg #[.bool false, .slice none 0 0, .int .i64 0, .int .i64 0], .bool false]) (by simp [results, Try.results21, go_sem]) rfl ⟨⟨_, rfl, Or.inr (Or.inr ⟨by decide, by rw [es]; simp, rfl⟩)⟩, ?_⟩
        repeat (first | refine Below.setCell ?_ (by simp) _ | refine Below.alloc ?_ (by simp; try omega) _ | refine bdrewN ?_ _)
        exact Below.refl _ _
      | true =>
        rw [es] at IE
        go_enter Try.func21, Try.ntmps21
        go_wp2_with fail
        with_reducible (refine (IE.out _).mono ?_)
        rintro en w1 ⟨rfl, rfl⟩
        go_wp2_with fail
        generalize hWB : (w.alloc (Obj.cells #[Value.int IntKind.i64 2, Value.bool neg, Value.int IntKind.u64 m, Value.int IntKind.i64 e] 37)).alloc (Obj.cells #[Value.bool false, Value.slice none 0 0, Value.int IntKind.i64 0, Value.int IntKind.i64 0] 25) = WB
        have HB : Hid (Below w.heap.size w WB) := Lib.hid (by rw [← hWB]; exact bgrow (bgrow (Below.refl _ _) _) _)
        have W0 : Wr WB (w.heap.size + 1) 4 25 := by
          rw [← hWB]
          have := Wr.new (w.alloc (Obj.cells #[Value.int IntKind.i64 2, Value.bool neg, Value.int IntKind.u64 m, Value.int IntKind.i64 e] 37)) #[Value.bool false, Value.slice none 0 0, Value.int IntKind.i64 0, Value.int IntKind.i64 0] 25 4 rfl
          simpa using this
        have V0 : WB.cell? { block := w.heap.size, off := 0 } = some (.int .i64 2) ∧ WB.cell? { block := w.heap.size, off := 1 } = some (.bool neg) ∧ WB.cell? { block := w.heap.size, off := 2 } = some (.int .u64 m) ∧ WB.cell? { block := w.heap.size, off := 3 } = some (.int .i64 e) := by
          rw [← hWB]; refine ⟨?_, ?_, ?_, ?_⟩ <;> simp [go_sem]
        have VC : ∀ w', Below WB.heap.size WB w' → w'.cell? { block := w.heap.size, off := 0 } = some (.int .i64 2) ∧ w'.cell? { block := w.heap.size, off := 1 } = some (.bool neg) ∧ w'.cell? { block := w.heap.size, off := 2 } = some (.int .u64 m) ∧ w'.cell? { block := w.heap.size, off := 3 } = some (.int .i64 e) := by
          intro w' hb
          have hg : w.heap.size < WB.heap.size := World.block_lt_of_cell? WB _ V0.1
          exact ⟨(hb.cell hg).trans V0.1, (hb.cell hg).trans V0.2.1, (hb.cell hg).trans V0.2.2.1, (hb.cell hg).trans V0.2.2.2⟩
        have K0 := Lib.hid (fun w' (h : Hid (Below WB.heap.size WB w')) => And.intro (Lib.hid (bthen HB.out h.out)) (VC _ h.out))
        have ON3 := Lib.hid (fun w' (hb : Hid (Below WB.heap.size WB w')) => (ON.out w').mono fun e w'' (h : (∃ A n c, e = Ending.returned (.slice A n c) ∧ IsF w'.heap.size w'' (.slice A n c) m) ∧ Below w'.heap.size w' w'') => And.intro (show ∃ A n c, e = Ending.returned (.slice A n c) ∧ Hid (IsF WB.heap.size w'' (.slice A n c) m) by obtain ⟨⟨A, n, c, h1, h2⟩, _⟩ := h; exact ⟨A, n, c, h1, Lib.hid (h2.mono hb.out.size)⟩) (And.intro (Lib.hid (bthen hb.out h.2)) (W0.below (bthen hb.out h.2)).four))
        obtain ⟨x0, x1, x2, x3, ⟨wc0, wc1, wc2, wc3⟩, wf0, wf1, wf2, wf3⟩ := W0.four
        have KW := Lib.hid (fun (w2 : World) (a b c d : Value) (h : Hid (Below WB.heap.size WB w2)) => show Hid (Below w.heap.size w ((((w2.setCell { block := w.heap.size + 1, off := 0 } a).setCell { block := w.heap.size + 1, off := 1 } b).setCell { block := w.heap.size + 1, off := 2 } c).setCell { block := w.heap.size + 1, off := 3 } d)) ∧ (((((w2.setCell { block := w.heap.size + 1, off := 0 } a).setCell { block := w.heap.size + 1, off := 1 } b).setCell { block := w.heap.size + 1, off := 2 } c).setCell { block := w.heap.size + 1, off := 3 } d).cell? { block := w.heap.size, off := 0 } = some (.int .i64 2) ∧ ((((w2.setCell { block := w.heap.size + 1, off := 0 } a).setCell { block := w.heap.size + 1, off := 1 } b).setCell { block := w.heap.size + 1, off := 2 } c).setCell { block := w.heap.size + 1, off := 3 } d).cell? { block := w.heap.size, off := 1 } = some (.bool neg) ∧ ((((w2.setCell { block := w.heap.size + 1, off := 0 } a).setCell { block := w.heap.size + 1, off := 1 } b).setCell { block := w.heap.size + 1, off := 2 } c).setCell { block := w.heap.size + 1, off := 3 } d).cell? { block := w.heap.size, off := 2 } = some (.int .u64 m) ∧ ((((w2.setCell { block := w.heap.size + 1, off := 0 } a).setCell { block := w.heap.size + 1, off := 1 } b).setCell { block := w.heap.size + 1, off := 2 } c).setCell { block := w.heap.size + 1, off := 3 } d).cell? { block := w.heap.size, off := 3 } = some (.int .i64 e)) from by
          obtain ⟨q0, q1, q2, q3⟩ := VC _ h.out
          refine ⟨Lib.hid (bset (bset (bset (bset (bthen HB.out h.out) (Nat.le_succ _)) (Nat.le_succ _)) (Nat.le_succ _)) (Nat.le_succ _)), ?_, ?_, ?_, ?_⟩ <;> simp [go_sem, q0, q1, q2, q3])
        clear VC W0 hWB IE ON V0 wc1 wc2 wc3 wf0 wf1 wf2 wf3
        go_region_held3 (fun w' => Hid (Below w.heap.size w w') ∧ (w'.cell? { block := w.heap.size, off := 0 } = some (.int .i64 2) ∧ w'.cell? { block := w.heap.size, off := 1 } = some (.bool neg) ∧ w'.cell? { block := w.heap.size, off := 2 } = some (.int .u64 m) ∧ w'.cell? { block := w.heap.size, off := 3 } = some (.int .i64 e)))
          (first | exact K0.out _ (Lib.hid (bdrewN (Below.refl _ _) 1)) | exact K0.out _ (by assumption) | exact KW.out _ _ _ _ _ b1)
          (first | ((go_at_call 38); (refine (ON3.out _ (Lib.hid (bdrewN (Below.refl _ _) 1))).mono ?_); (rintro en w2 ⟨⟨rA, rn, rc, rfl, i1⟩, b1, y0, y1, y2, y3, ⟨d0, d1, d2, d3⟩, f0, f1, f2, f3⟩)))
        go_wp2_with fail
        refine bodyPost_ret (v := .tuple #[.agg #[.bool neg, .slice rA rn rc, .int .i64 e, .int .i64 0], .bool true]) (by simp [results, Try.results21, go_sem, *]) rfl ⟨⟨_, rfl, Or.inr (Or.inl ⟨rfl, es, _, ?_, rfl⟩)⟩, ?_⟩
        · have hsz : w.heap.size + 1 < WB.heap.size := World.block_lt_of_cell? WB _ wc0
          exact ((((i1.out.set _ _ hsz).set _ _ hsz).set _ _ hsz).set _ _ hsz).isn
        · repeat (refine Below.setCell ?_ (Nat.le_succ _) _)
          exact bthen HB.out b1.out
    · have t2 : (cl == 2) = false := by simpa using h2
      go_enter Try.func21, Try.ntmps21
      go_wp2_with fail
      refine bodyPost_ret (v := .tuple #[.agg #[.bool false, .slice none 0 0, .int .i64 0, .int .i64 0], .bool false]) (by simp [results, Try.results21, go_sem]) rfl ⟨⟨_, rfl, Or.inr (Or.inr ⟨h1, fun h => h2 h.1, rfl⟩)⟩, ?_⟩
      repeat (first | refine Below.setCell ?_ (by simp) _ | refine Below.alloc ?_ (by simp; try omega) _ | refine bdrewN ?_ _)
      exact Below.refl _ _
end Go.Proofs.Yteiajccjlbghoaa

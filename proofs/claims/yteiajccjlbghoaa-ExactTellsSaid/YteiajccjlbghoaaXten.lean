/- package caliperlaw02's ten, small. Conditions: as each theorem names them. -/
import Derived.Test.YteiajccjlbghoaaXrs
set_option linter.unusedVariables false
namespace Go.Proofs.Yteiajccjlbghoaa
open Go.RowKit

theorem ten_any (k : Int) (w : World) :
    Calls Try.prog 29 #[.int .i64 k] w fun e w' => (∃ A n c, e = .returned (xv false (.slice A n c) k k) ∧ IsN w' (.slice A n c) 1) ∧ Below w.heap.size w w' := by
  go_enter Try.func29, Try.ntmps29
  go_wp2_with fail
  refine bodyPost_ret (v := .agg #[.bool false, .slice (some { block := w.heap.size + 1, off := 0 }) 1 1, .int .i64 k, .int .i64 k]) (by simp [results, Try.results29, go_sem, *]) rfl ⟨⟨_, _, _, rfl, ?_⟩, bgrow (bgrow (Below.refl _ _) _) _⟩
  refine ⟨_, 1, 1, fun _ => 1, rfl, ?_, Or.inr (by decide), by rw [S_succ, S_zero]; simp⟩
  have := one_row (w.alloc (Obj.cells #[Value.bool false, Value.slice (some { block := w.heap.size + 1, off := 0 }) 1 1, Value.int IntKind.i64 k, Value.int IntKind.i64 k] 25)) (.int .u64 1) 35
  have h2 := Rd.row (F := fun _ => 1) this (by decide) (fun _ _ => by decide)
  simpa using h2

theorem boxed4 {w w2 : World} {gx g : Nat} {x0 x1 x2 x3 : Value} (hb : Below w.heap.size w w2) (hg : w.heap.size ≤ g) (hne : gx ≠ g) (h0 : w2.cell? { block := gx, off := 0 } = some x0) (h1 : w2.cell? { block := gx, off := 1 } = some x1) (h2 : w2.cell? { block := gx, off := 2 } = some x2) (h3 : w2.cell? { block := gx, off := 3 } = some x3) (a b c d : Value) :
    Hid (Below w.heap.size w ((((w2.setCell { block := g, off := 0 } a).setCell { block := g, off := 1 } b).setCell { block := g, off := 2 } c).setCell { block := g, off := 3 } d)) ∧
    ((((w2.setCell { block := g, off := 0 } a).setCell { block := g, off := 1 } b).setCell { block := g, off := 2 } c).setCell { block := g, off := 3 } d).cell? { block := gx, off := 0 } = some x0 ∧
    ((((w2.setCell { block := g, off := 0 } a).setCell { block := g, off := 1 } b).setCell { block := g, off := 2 } c).setCell { block := g, off := 3 } d).cell? { block := gx, off := 1 } = some x1 ∧
    ((((w2.setCell { block := g, off := 0 } a).setCell { block := g, off := 1 } b).setCell { block := g, off := 2 } c).setCell { block := g, off := 3 } d).cell? { block := gx, off := 2 } = some x2 ∧
    ((((w2.setCell { block := g, off := 0 } a).setCell { block := g, off := 1 } b).setCell { block := g, off := 2 } c).setCell { block := g, off := 3 } d).cell? { block := gx, off := 3 } = some x3 := by
  have hne2 : g ≠ gx := Ne.symm hne
  refine ⟨Lib.hid (((((hb.setCell (p := { block := g, off := 0 }) hg _).setCell (p := { block := g, off := 1 }) hg _).setCell (p := { block := g, off := 2 }) hg _).setCell (p := { block := g, off := 3 }) hg _)), ?_, ?_, ?_, ?_⟩
  · rw [World.cell?_setCell_far _ _ _ _ hne2, World.cell?_setCell_far _ _ _ _ hne2, World.cell?_setCell_far _ _ _ _ hne2, World.cell?_setCell_far _ _ _ _ hne2, h0]
  · rw [World.cell?_setCell_far _ _ _ _ hne2, World.cell?_setCell_far _ _ _ _ hne2, World.cell?_setCell_far _ _ _ _ hne2, World.cell?_setCell_far _ _ _ _ hne2, h1]
  · rw [World.cell?_setCell_far _ _ _ _ hne2, World.cell?_setCell_far _ _ _ _ hne2, World.cell?_setCell_far _ _ _ _ hne2, World.cell?_setCell_far _ _ _ _ hne2, h2]
  · rw [World.cell?_setCell_far _ _ _ _ hne2, World.cell?_setCell_far _ _ _ _ hne2, World.cell?_setCell_far _ _ _ _ hne2, World.cell?_setCell_far _ _ _ _ hne2, h3]

set_option maxHeartbeats 4000000 in
theorem small_any (neg : Bool) (A : Option Addr) (n c : Nat) (F : Nat → Nat) (s f : Int) (m m1 : Nat) (s1 f1 : Int) (w : World) (h : RdW w A n c F) (hm : m ≤ 5000) (hm1 : m + 1 = m1) (hs1 : s.tmod m1 = s1) (hf1 : f.tmod m1 = f1) :
    Calls Try.prog 12 #[xv neg (.slice A n c) s f, .int .i64 m] w fun e w' => (∃ A' n' c', e = .returned (xv neg (.slice A' n' c') s1 f1) ∧ IsN w' (.slice A' n' c') (S F (min n 12))) ∧ Below w.heap.size w w' := by
  have HH := Lib.hid h
  obtain ⟨l, hl⟩ : ∃ l, min n 12 = l := ⟨_, rfl⟩
  have hln : l ≤ n := by omega
  have hnc := h.len
  have hlc : l ≤ c := by omega
  have hli : min (n : Int) 12 = (l : Int) := by omega
  have hlci : (l : Int) ≤ (c : Int) := by omega
  have hl0 : (0 : Int) ≤ (l : Int) := by omega
  have hsm := h.small
  have e1 : IntKind.i64.wrap ((m : Int) + 1) = (m1 : Int) := by rw [IntWalk.i64_in _ (by omega)]; omega
  have e2 : ((m1 : Int) == 0) = false := by simp; omega
  have e2a : ¬ ((m1 : Int) = 0) := by omega
  have e2b : ¬ (m1 = 0) := by omega
  have hx : -10000 ≤ s1 ∧ s1 ≤ 10000 ∧ -10000 ≤ f1 ∧ f1 ≤ 10000 := by
    have a1 := Int.natAbs_tmod s m1
    have a2 := Int.natAbs_tmod f m1
    rw [hs1] at a1
    rw [hf1] at a2
    have a3 := Nat.mod_lt s.natAbs (show 0 < (m1 : Int).natAbs by omega)
    have a4 := Nat.mod_lt f.natAbs (show 0 < (m1 : Int).natAbs by omega)
    omega
  have e3 : IntKind.i64.wrap s1 = s1 := IntWalk.i64_in _ (by omega)
  have e4 : IntKind.i64.wrap f1 = f1 := IntWalk.i64_in _ (by omega)
  have HN := Lib.hid (fun w' (hb : Hid (Below w.heap.size w w')) => norm_F A l c F w' ((h.below hb.out).first hln (by omega)))
  rw [hl]
  clear h hx
  unfold xv
  go_enter Try.func12, Try.ntmps12
  go_wp2_with fail
  have HB0 : Hid (Below w.heap.size w ((w.alloc (Obj.cells #[Value.bool neg, Value.slice A n c, Value.int IntKind.i64 s, Value.int IntKind.i64 f] 25)).alloc (Obj.cells #[Value.bool false, Value.slice none 0 0, Value.int IntKind.i64 0, Value.int IntKind.i64 0] 25))) := Lib.hid (bgrow (bgrow (Below.refl _ _) _) _)
  have BX : Bx ((w.alloc (Obj.cells #[Value.bool neg, Value.slice A n c, Value.int IntKind.i64 s, Value.int IntKind.i64 f] 25)).alloc (Obj.cells #[Value.bool false, Value.slice none 0 0, Value.int IntKind.i64 0, Value.int IntKind.i64 0] 25)) w.heap.size neg (.slice A n c) s f := (Bx.made w neg (.slice A n c) s f).below (bgrow (Below.refl _ _) _)
  have W0 : Wr ((w.alloc (Obj.cells #[Value.bool neg, Value.slice A n c, Value.int IntKind.i64 s, Value.int IntKind.i64 f] 25)).alloc (Obj.cells #[Value.bool false, Value.slice none 0 0, Value.int IntKind.i64 0, Value.int IntKind.i64 0] 25)) (w.heap.size + 1) 4 25 := by
    have := Wr.new (w.alloc (Obj.cells #[Value.bool neg, Value.slice A n c, Value.int IntKind.i64 s, Value.int IntKind.i64 f] 25)) #[Value.bool false, Value.slice none 0 0, Value.int IntKind.i64 0, Value.int IntKind.i64 0] 25 4 rfl
    simpa using this
  generalize (w.alloc (Obj.cells #[Value.bool neg, Value.slice A n c, Value.int IntKind.i64 s, Value.int IntKind.i64 f] 25)).alloc (Obj.cells #[Value.bool false, Value.slice none 0 0, Value.int IntKind.i64 0, Value.int IntKind.i64 0] 25) = WB at HB0 BX W0 ⊢
  have K1 := Lib.hid (fun w' (h : Hid (Below WB.heap.size WB w')) => And.intro (Lib.hid (bthen HB0.out h.out)) (BX.below h.out))
  have ON := Lib.hid (fun w' (hb : Hid (Below WB.heap.size WB w')) => (HN.out w' (Lib.hid (bthen HB0.out hb.out))).mono fun e w'' (h : (∃ A n c, e = Ending.returned (.slice A n c) ∧ IsF w'.heap.size w'' (.slice A n c) (S F l)) ∧ Below w'.heap.size w' w'') => And.intro (show ∃ A n c, e = Ending.returned (.slice A n c) ∧ Hid (IsF WB.heap.size w'' (.slice A n c) (S F l)) by obtain ⟨⟨A, n, c, h1, h2⟩, _⟩ := h; exact ⟨A, n, c, h1, Lib.hid (h2.mono hb.out.size)⟩) (And.intro (Lib.hid (bthen hb.out h.2)) (W0.below (bthen hb.out h.2)).four))
  unfold Bx at K1
  have hsz : w.heap.size + 1 < WB.heap.size := by
    obtain ⟨a, b, c, d, ⟨x0, _⟩, _⟩ := W0.four
    exact World.block_lt_of_cell? WB _ x0
  have HSZ := Lib.hid hsz
  clear BX W0 HN hsz
  go_region_held3 (fun w' => Hid (Below w.heap.size w w') ∧ (w'.cell? { block := w.heap.size, off := 0 } = some (.bool neg) ∧ w'.cell? { block := w.heap.size, off := 1 } = some (.slice A n c) ∧ w'.cell? { block := w.heap.size, off := 2 } = some (.int .i64 s) ∧ w'.cell? { block := w.heap.size, off := 3 } = some (.int .i64 f)))
    (first | exact K1.out _ (Lib.hid (bdrewN (Below.refl _ _) 1)) | exact K1.out _ (by assumption) | exact boxed4 (bthen HB0.out b1.out) (Nat.le_succ _) (Nat.ne_of_lt (Nat.lt_succ_self _)) (K1.out _ b1).2.1 (K1.out _ b1).2.2.1 (K1.out _ b1).2.2.2.1 (K1.out _ b1).2.2.2.2 _ _ _ _)
    (first | ((go_at_call 30); (refine (ON.out _ (Lib.hid (bdrewN (Below.refl _ _) 1))).mono ?_); (rintro en w2 ⟨⟨rA, rn, rc, rfl, i1⟩, b1, y0, y1, y2, y3, ⟨d0, d1, d2, d3⟩, f0, f1', f2, f3⟩)))
  all_goals
    go_wp2_with fail
    refine bodyPost_ret (v := .agg #[.bool neg, .slice rA rn rc, .int .i64 s1, .int .i64 f1]) (by simp [results, Try.results12, go_sem, *]) rfl ⟨⟨_, _, _, rfl, ?_⟩, ?_⟩
    · exact ((((i1.out.set _ _ HSZ.out).set _ _ HSZ.out).set _ _ HSZ.out).set _ _ HSZ.out).isn
    · repeat (refine Below.setCell ?_ (Nat.le_succ _) _)
      exact bthen HB0.out b1.out
end Go.Proofs.Yteiajccjlbghoaa

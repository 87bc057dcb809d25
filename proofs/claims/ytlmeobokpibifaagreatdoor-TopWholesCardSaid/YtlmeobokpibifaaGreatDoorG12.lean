/- package round's Limits, of the kind Signed. Conditions: as each theorem names them. package round's Limits of the greatest number. Conditions: as each theorem names them. -/
import Derived.Test.YtlmeobokpibifaaGreatDoorG11
import Derived.BigRegion
section
set_option linter.unusedSimpArgs false
set_option linter.unusedVariables false
set_option linter.unusedVariables false
set_option linter.unusedSimpArgs false
namespace Go.Proofs.YtlmeobokpibifaaGreatDoor
open Go.RowKit

abbrev xcells (w : World) (g : Nat) (neg : Bool) (v : Value) (s f : Int) : Prop := w.heap[g]? = some (.cells #[.bool neg, v, .int .i64 s, .int .i64 f] 41 (0, 0))
theorem xc_far {w : World} {g k : Nat} {neg : Bool} {v : Value} {s f : Int} (h : xcells w g neg v s f) (hne : g ≠ k) (a b c d : Value) : xcells ((((w.setCell { block := k, off := 0 } a).setCell { block := k, off := 1 } b).setCell { block := k, off := 2 } c).setCell { block := k, off := 3 } d) g neg v s f := by
  unfold xcells
  rw [Deep.blk_setCell_other _ _ _ _ hne, Deep.blk_setCell_other _ _ _ _ hne, Deep.blk_setCell_other _ _ _ _ hne, Deep.blk_setCell_other _ _ _ _ hne]
  exact h
theorem isn_put4 {w : World} {u : Value} {N : Nat} (h : IsN w u N) {g : Nat} {neg : Bool} {A : Option Addr} {n c : Nat} {s f : Int} (hx : xcells w g neg (.slice A n c) s f) (a b d e : Value) : IsN ((((w.setCell { block := g, off := 0 } a).setCell { block := g, off := 1 } b).setCell { block := g, off := 2 } d).setCell { block := g, off := 3 } e) u N :=
  IsN.off h hx (by intro x hx z; simp at hx; rcases hx with rfl | rfl | rfl | rfl <;> simp) (by simp) (fun k hk => by rw [Deep.blk_setCell_other _ _ _ _ hk, Deep.blk_setCell_other _ _ _ _ hk, Deep.blk_setCell_other _ _ _ _ hk, Deep.blk_setCell_other _ _ _ _ hk])

section
variable {P : Program} {md : Region.Mode} {ops : Array Oper} {Q : Exit → Act → World → Prop} {S : World → Prop} {i : Nat} {oi : Oper} {v : Value} {fuel : Nat} {listed : Array Bool} {a : Act} {w : World}
theorem take_p (hi : ops[i]? = some oi) (hs : Region.noSelect ops = true) (hf : Region.free md ops listed i = true) (hr : (Region.ready md ops listed).contains i = true)
    (hQ : ∀ c a w, Q (.panic c) (a.put oi.dst v) w → Q (.panic c) a w) (hw : Region.wanted oi (yielded ops a.tmps) = true) (hy : ∀ w, S w → (execOp a.eval oi).run P w = .ok (.value v) w) (hS : S w)
    (h : wpAnyH P md ops Q S fuel (listed.setIfInBounds i true) (a.put oi.dst v) w) : wpAnyH P md ops Q S (fuel + 1) listed a w := wpAnyH_take hi hs hf hr hQ (Or.inl ⟨hw, hy⟩) hS h
theorem take_u (hi : ops[i]? = some oi) (hs : Region.noSelect ops = true) (hf : Region.free md ops listed i = true) (hr : (Region.ready md ops listed).contains i = true)
    (hQ : ∀ c a w, Q (.panic c) (a.put oi.dst undef) w → Q (.panic c) a w) (hw : Region.wanted oi (yielded ops a.tmps) = false) (hS : S w)
    (h : wpAnyH P md ops Q S fuel (listed.setIfInBounds i true) (a.put oi.dst undef) w) : wpAnyH P md ops Q S (fuel + 1) listed a w := wpAnyH_take hi hs hf hr hQ (Or.inr ⟨hw, rfl⟩) hS h
end
theorem at_reg {P : Program} {md : Region.Mode} {ops : Array Oper} {Q : Exit → Act → World → Prop} {S : World → Prop} {fuel : Nat} {listed : Array Bool} {a : Act} {w : World} (h : ∀ w', w' = w → wpAnyH P md ops Q S fuel listed a w') : wpAnyH P md ops Q S fuel listed a w := h w rfl
theorem xc_put {w : World} {g : Nat} {neg : Bool} {v : Value} {s f : Int} (h : xcells w g neg v s f) : xcells ((((w.setCell { block := g, off := 0 } (.bool neg)).setCell { block := g, off := 1 } v).setCell { block := g, off := 2 } (.int .i64 s)).setCell { block := g, off := 3 } (.int .i64 f)) g neg v s f := put4 h
theorem xc_drew {w : World} {g : Nat} {neg : Bool} {v : Value} {s f : Int} (h : xcells w g neg v s f) : xcells w.drew g neg v s f := h
set_option maxRecDepth 100000 in
set_option maxHeartbeats 1000000 in
/-- Limits of a number that is not nought: two boundaries -/
theorem limits_two (n : Nat) (wd mn bs : Int) (tp nf nn m f key p mm1 mm2 : Nat) (neg : Bool) (ee1 ee2 : Int) (w : World) (hn : 1 ≤ n) (hn2 : n < 15) (h : FormAt w n 2 wd mn bs tp nf nn) (hm : NumAt w m 2 f) (hk1 : 1 ≤ key) (hkt : key < tp) (hk : key < 18446744073709551616)
    (KE : Hid (∀ w', Below w.heap.size w w' → Calls Tryz.prog 56 #[.int .i64 n, .int .u64 p] w' fun en w'' => en = .returned (.tuple #[.bool neg, .int .u64 key, .int .i64 0]) ∧ Below w'.heap.size w' w''))
    (B1 : Hid (∀ w', Below w.heap.size w w' → Calls Tryz.prog 57 #[.int .i64 n, .int .u64 ((key - 1 : Nat) : Int)] w' fun en w'' => (∃ A n c, en = .returned (xv false (.slice A n c) ee1 0) ∧ IsN w'' (.slice A n c) mm1) ∧ Below w'.heap.size w' w''))
    (B2 : Hid (∀ w', Below w.heap.size w w' → Calls Tryz.prog 57 #[.int .i64 n, .int .u64 key] w' fun en w'' => (∃ A n c, en = .returned (xv false (.slice A n c) ee2 0) ∧ IsN w'' (.slice A n c) mm2) ∧ Below w'.heap.size w' w'')) :
    Calls Tryz.prog 34 #[.int .i64 n, .int .u64 p] w fun en w' => (∃ A1 n1 c1 A2 n2 c2, en = .returned (.tuple #[xv false (.slice A1 n1 c1) ee1 0, xv false (.slice A2 n2 c2) ee2 0, .bool (decide (key % 2 = 0)), .int .i64 0]) ∧ IsN w' (.slice A1 n1 c1) mm1 ∧ IsN w' (.slice A2 n2 c2) mm2) ∧ Below w.heap.size w w' := by
  have HA := Lib.hid (bgrow (bgrow (Below.refl w.heap.size w) (xbox false (.slice none 0 0) 0 0)) (xbox false (.slice none 0 0) 0 0))
  have X1 : Hid (xcells ((w.alloc (xbox false (.slice none 0 0) 0 0)).alloc (xbox false (.slice none 0 0) 0 0)) w.heap.size false (.slice none 0 0) 0 0) := Lib.hid ((Deep.blk_alloc_lt _ _ _ (by simp)).trans (Deep.blk_alloc_new _ _))
  have X2 : Hid (xcells ((w.alloc (xbox false (.slice none 0 0) 0 0)).alloc (xbox false (.slice none 0 0) 0 0)) (w.heap.size + 1) false (.slice none 0 0) 0 0) := Lib.hid (by
    have := Deep.blk_alloc_new (w.alloc (xbox false (.slice none 0 0) 0 0)) (xbox false (.slice none 0 0) 0 0)
    have e : (w.alloc (xbox false (.slice none 0 0) 0 0)).heap.size = w.heap.size + 1 := by simp
    rw [e] at this
    exact this)
  have FO := Lib.hid (fun w' h1 => form_of n 2 wd mn bs tp nf nn w' hn hn2 h1)
  have MO := Lib.hid (fun w' h1 h2 => most_any n 2 wd mn bs tp nf nn m f neg w' hn hn2 h1 h2 rfl rfl)
  have HF := Lib.hid h
  have HM := Lib.hid hm
  have u1 : ((key : Int) == 0) = false := by simp; omega
  have u2 : decide ((1 : Int) ≤ (key : Int)) = true := decide_eq_true (by omega)
  have u2' : decide (1 ≤ key) = true := decide_eq_true hk1
  have u3 : decide (key < tp) = true := decide_eq_true hkt
  obtain ⟨k1, hk1'⟩ : ∃ k1, key - 1 = k1 := ⟨_, rfl⟩
  have hki : (key : Int) - 1 = (k1 : Int) := by omega
  rw [hk1'] at B1
  have hk1b : k1 < 18446744073709551616 := by omega
  have hand : bits .and .u64 (key : Int) 1 = ((key % 2 : Nat) : Int) := by
    have := bits_and_u64_nat key 1 hk (by decide)
    rw [show ((1 : Nat) : Int) = 1 from rfl] at this
    rw [this, Nat.and_one_is_mod]
  obtain ⟨ev, hev⟩ : ∃ ev, decide (key % 2 = 0) = ev := ⟨_, rfl⟩
  have hev2 : (((key % 2 : Nat) : Int) == 0) = ev := by
    rw [← hev]
    rcases (show key % 2 = 0 ∨ key % 2 = 1 from by omega) with h | h <;> rw [h] <;> rfl
  obtain ⟨r2, hr2⟩ : ∃ r2, key % 2 = r2 := ⟨_, rfl⟩
  rw [hr2] at hand hev2
  rw [hev]
  clear h hm hn hn2 hk1 hkt hk hk1' hev hr2
  unfold xv xbox fv at *
  go_enter Tryz.func34, Tryz.ntmps34
  go_wp2_with fail
  generalize ((w.alloc (.cells #[.bool false, .slice none 0 0, .int .i64 0, .int .i64 0] 41)).alloc (.cells #[.bool false, .slice none 0 0, .int .i64 0, .int .i64 0] 41)) = WB at HA X1 X2 ⊢
  with_reducible (refine (KE.out _ HA.out).mono ?_)
  rintro en w1 ⟨rfl, b1⟩
  have HB1 := Lib.hid (bthen HA.out b1)
  have Y1 := Lib.hid (show xcells w1 _ _ _ _ _ from (b1.block _ (blk_lt X1.out)).trans X1.out)
  have Y2 := Lib.hid (show xcells w1 _ _ _ _ _ from (b1.block _ (blk_lt X2.out)).trans X2.out)
  clear b1 X1 X2 HA
  go_wp2_with fail
  with_reducible (refine (FO.out _ (HF.out.below HB1.out)).mono ?_)
  rintro en w2 ⟨rfl, b2⟩
  have bb : Below w1.heap.size w1 (w2.alloc (fbox 2 wd mn bs tp nf nn)) := bgrow b2 _
  have HB2 := Lib.hid (bthen HB1.out bb)
  have Z1 := Lib.hid (show xcells (w2.alloc (fbox 2 wd mn bs tp nf nn)) _ _ _ _ _ from (bb.block _ (blk_lt Y1.out)).trans Y1.out)
  have Z2 := Lib.hid (show xcells (w2.alloc (fbox 2 wd mn bs tp nf nn)) _ _ _ _ _ from (bb.block _ (blk_lt Y2.out)).trans Y2.out)
  have FX : Hid ((w2.alloc (fbox 2 wd mn bs tp nf nn)).heap[w2.heap.size]? = some (.cells #[.int .i64 2, .int .i64 wd, .int .i64 mn, .int .i64 bs, .int .u64 tp, .int .u64 nf, .int .u64 nn] 56 (0, 0))) := Lib.hid (Deep.blk_alloc_new _ _)
  clear b2 bb Y1 Y2 HB1
  unfold fbox at HB2 Z1 Z2 FX
  go_wp2_with fail
  generalize (w2.alloc (.cells #[.int .i64 2, .int .i64 wd, .int .i64 mn, .int .i64 bs, .int .u64 tp, .int .u64 nf, .int .u64 nn] 56)) = WF at HB2 Z1 Z2 FX ⊢
  with_reducible (refine (MO.out _ (HF.out.below HB2.out) (HM.out.below HB2.out)).mono ?_)
  rintro en w3 ⟨rfl, b3⟩
  have HB3 := Lib.hid (bthen HB2.out b3)
  have Y1 := Lib.hid (show xcells w3 _ _ _ _ _ from (b3.block _ (blk_lt Z1.out)).trans Z1.out)
  have Y2 := Lib.hid (show xcells w3 _ _ _ _ _ from (b3.block _ (blk_lt Z2.out)).trans Z2.out)
  have FX3 := Lib.hid ((b3.block _ (blk_lt FX.out)).trans FX.out)
  clear b3 Z1 Z2 FX HB2
  obtain ⟨g0, g1, g2, g3, g4, g5, g6⟩ := seven_cells FX3.out
  go_wp2_with fail
  with_reducible (refine (B1.out _ HB3.out).mono ?_)
  rintro en w4 ⟨⟨A1, n1, c1, rfl, i1⟩, b4⟩
  have HB4 := Lib.hid (bthen HB3.out b4)
  have Z1 := Lib.hid (show xcells w4 _ _ _ _ _ from (b4.block _ (blk_lt Y1.out)).trans Y1.out)
  have Z2 := Lib.hid (show xcells w4 _ _ _ _ _ from (b4.block _ (blk_lt Y2.out)).trans Y2.out)
  have I1 := Lib.hid i1
  clear b4 i1 Y1 Y2 HB3 g0 g1 g2 g3 g4 g5 g6 FX3
  obtain ⟨d0, d1, d2, d3, f0, f1, f2, f3⟩ := four_free Z1.out
  go_wp2_with fail
  have HB5 := Lib.hid (below4 HB4.out (g := w.heap.size) (Nat.le_refl _) (.bool false) (.slice A1 n1 c1) (.int .i64 ee1) (.int .i64 0))
  have Y1 := Lib.hid (show xcells _ _ false (.slice A1 n1 c1) ee1 0 from put4 (a' := .bool false) (b' := .slice A1 n1 c1) (c' := .int .i64 ee1) (d' := .int .i64 0) Z1.out)
  have Y2 := Lib.hid (xc_far Z2.out (k := w.heap.size) (by omega) (.bool false) (.slice A1 n1 c1) (.int .i64 ee1) (.int .i64 0))
  have I5 := Lib.hid (isn_put4 I1.out Z1.out (.bool false) (.slice A1 n1 c1) (.int .i64 ee1) (.int .i64 0))
  clear d0 d1 d2 d3 f0 f1 f2 f3 Z1 Z2 I1 HB4
  generalize ((((w4.setCell { block := w.heap.size, off := 0 } (.bool false)).setCell { block := w.heap.size, off := 1 } (.slice A1 n1 c1)).setCell { block := w.heap.size, off := 2 } (.int .i64 ee1)).setCell { block := w.heap.size, off := 3 } (.int .i64 0)) = W5 at HB5 Y1 Y2 I5 ⊢
  with_reducible (refine (B2.out _ HB5.out).mono ?_)
  rintro en w6 ⟨⟨A2, n2, c2, rfl, i2⟩, b6⟩
  have HB6 := Lib.hid (bthen HB5.out b6)
  have Z1 := Lib.hid (show xcells w6 _ _ _ _ _ from (b6.block _ (blk_lt Y1.out)).trans Y1.out)
  have Z2 := Lib.hid (show xcells w6 _ _ _ _ _ from (b6.block _ (blk_lt Y2.out)).trans Y2.out)
  have I6 := Lib.hid (I5.out.below b6)
  have J6 := Lib.hid i2
  clear b6 i2 Y1 Y2 HB5 I5
  obtain ⟨d0, d1, d2, d3, f0, f1, f2, f3⟩ := four_free Z2.out
  go_wp2_with fail
  have HB7 := Lib.hid (below4 HB6.out (g := w.heap.size + 1) (by omega) (.bool false) (.slice A2 n2 c2) (.int .i64 ee2) (.int .i64 0))
  have Y2 := Lib.hid (show xcells _ _ false (.slice A2 n2 c2) ee2 0 from put4 (a' := .bool false) (b' := .slice A2 n2 c2) (c' := .int .i64 ee2) (d' := .int .i64 0) Z2.out)
  have Y1 := Lib.hid (xc_far Z1.out (k := w.heap.size + 1) (by omega) (.bool false) (.slice A2 n2 c2) (.int .i64 ee2) (.int .i64 0))
  have I7 := Lib.hid (isn_put4 I6.out Z2.out (.bool false) (.slice A2 n2 c2) (.int .i64 ee2) (.int .i64 0))
  have J7 := Lib.hid (isn_put4 J6.out Z2.out (.bool false) (.slice A2 n2 c2) (.int .i64 ee2) (.int .i64 0))
  clear d0 d1 d2 d3 f0 f1 f2 f3 Z1 Z2 I6 J6 HB6
  generalize ((((w6.setCell { block := w.heap.size + 1, off := 0 } (.bool false)).setCell { block := w.heap.size + 1, off := 1 } (.slice A2 n2 c2)).setCell { block := w.heap.size + 1, off := 2 } (.int .i64 ee2)).setCell { block := w.heap.size + 1, off := 3 } (.int .i64 0)) = W7 at HB7 Y1 Y2 I7 J7 ⊢
  obtain ⟨d0, d1, d2, d3, f0, f1, f2, f3⟩ := four_free Y1.out
  obtain ⟨e0, e1, e2, e3, h0, h1, h2, h3⟩ := four_free Y2.out
  have hne : w.heap.size ≠ w.heap.size + 1 := by omega
  have hne' : w.heap.size + 1 ≠ w.heap.size := by omega
  have PA : Hid (∀ w', xcells w' w.heap.size false (.slice A1 n1 c1) ee1 0 → xcells w' (w.heap.size + 1) false (.slice A2 n2 c2) ee2 0 → (w'.cell? { block := w.heap.size, off := 0 } = some (.bool false) ∧ w'.cell? { block := w.heap.size, off := 1 } = some (.slice A1 n1 c1) ∧ w'.cell? { block := w.heap.size, off := 2 } = some (.int .i64 ee1) ∧ w'.cell? { block := w.heap.size, off := 3 } = some (.int .i64 0)) ∧ (w'.cell? { block := w.heap.size + 1, off := 0 } = some (.bool false) ∧ w'.cell? { block := w.heap.size + 1, off := 1 } = some (.slice A2 n2 c2) ∧ w'.cell? { block := w.heap.size + 1, off := 2 } = some (.int .i64 ee2) ∧ w'.cell? { block := w.heap.size + 1, off := 3 } = some (.int .i64 0))) := Lib.hid (fun w' p q => by
    obtain ⟨a, b, c, d, -⟩ := four_free p
    obtain ⟨a', b', c', d', -⟩ := four_free q
    exact ⟨⟨a, b, c, d⟩, a', b', c', d'⟩)
  refine wp_region_held_drew (S := fun w' => (w'.cell? { block := w.heap.size, off := 0 } = some (.bool false) ∧ w'.cell? { block := w.heap.size, off := 1 } = some (.slice A1 n1 c1) ∧ w'.cell? { block := w.heap.size, off := 2 } = some (.int .i64 ee1) ∧ w'.cell? { block := w.heap.size, off := 3 } = some (.int .i64 0)) ∧ (w'.cell? { block := w.heap.size + 1, off := 0 } = some (.bool false) ∧ w'.cell? { block := w.heap.size + 1, off := 1 } = some (.slice A2 n2 c2) ∧ w'.cell? { block := w.heap.size + 1, off := 2 } = some (.int .i64 ee2) ∧ w'.cell? { block := w.heap.size + 1, off := 3 } = some (.int .i64 0))) (by kernel_rfl) (PA.out _ (xc_drew Y1.out) (xc_drew Y2.out)) (fun hH => ?_)
  refine take_p (i := 0) (oi := ?_) (v := ?_) ?_ ?_ ?_ ?_ ?_ ?_ ?_ hH ?_
  rotate_left 2
  · (simp only [List.getElem?_toArray, List.getElem?_cons_succ, List.getElem?_cons_zero]; rfl)
  · kernel_rfl
  · kernel_rfl
  · kernel_rfl
  · exact fun _ _ _ h => h
  · rfl
  · (intro w hSw; (try dsimp only at hSw); go_simp; all_goals (with_reducible rfl))
  try simp only [Act.put, List.setIfInBounds_toArray, List.set_cons_zero, List.set_cons_succ]
  refine take_p (i := 1) (oi := ?_) (v := ?_) ?_ ?_ ?_ ?_ ?_ ?_ ?_ hH ?_
  rotate_left 2
  · (simp only [List.getElem?_toArray, List.getElem?_cons_succ, List.getElem?_cons_zero]; rfl)
  · kernel_rfl
  · kernel_rfl
  · kernel_rfl
  · exact fun _ _ _ h => h
  · rfl
  · (intro w hSw; (try dsimp only at hSw); go_simp; all_goals (with_reducible rfl))
  try simp only [Act.put, List.setIfInBounds_toArray, List.set_cons_zero, List.set_cons_succ]
  refine take_p (i := 2) (oi := ?_) (v := ?_) ?_ ?_ ?_ ?_ ?_ ?_ ?_ hH ?_
  rotate_left 2
  · (simp only [List.getElem?_toArray, List.getElem?_cons_succ, List.getElem?_cons_zero]; rfl)
  · kernel_rfl
  · kernel_rfl
  · kernel_rfl
  · exact fun _ _ _ h => h
  · rfl
  · (intro w hSw; (try dsimp only at hSw); go_simp; all_goals (with_reducible rfl))
  try simp only [Act.put, List.setIfInBounds_toArray, List.set_cons_zero, List.set_cons_succ]
  refine take_p (i := 3) (oi := ?_) (v := ?_) ?_ ?_ ?_ ?_ ?_ ?_ ?_ hH ?_
  rotate_left 2
  · (simp only [List.getElem?_toArray, List.getElem?_cons_succ, List.getElem?_cons_zero]; rfl)
  · kernel_rfl
  · kernel_rfl
  · kernel_rfl
  · exact fun _ _ _ h => h
  · rfl
  · (intro w hSw; (try dsimp only at hSw); go_simp; all_goals (with_reducible rfl))
  try simp only [Act.put, List.setIfInBounds_toArray, List.set_cons_zero, List.set_cons_succ]
  refine take_p (i := 4) (oi := ?_) (v := ?_) ?_ ?_ ?_ ?_ ?_ ?_ ?_ hH ?_
  rotate_left 2
  · (simp only [List.getElem?_toArray, List.getElem?_cons_succ, List.getElem?_cons_zero]; rfl)
  · kernel_rfl
  · kernel_rfl
  · kernel_rfl
  · exact fun _ _ _ h => h
  · rfl
  · (intro w hSw; (try dsimp only at hSw); go_simp; all_goals (with_reducible rfl))
  try simp only [Act.put, List.setIfInBounds_toArray, List.set_cons_zero, List.set_cons_succ]
  refine wpAnyH_ready (rs := [5]) (by kernel_rfl) (by simp) ?_
  refine AllReadyH.cons rfl (fun K hK => ?_) AllReadyH.nil
  go_simp
  have Y1b := Lib.hid (xc_drew (xc_put Y1.out))
  have Y2b := Lib.hid (xc_drew (xc_far Y2.out hne' (.bool false) (.slice A1 n1 c1) (.int .i64 ee1) (.int .i64 0)))
  refine hK.out _ _ (PA.out _ Y1b.out Y2b.out) (fun hHeld => ?_)
  clear hK K
  replace hH := hHeld
  clear hHeld
  try simp only [Act.put, List.setIfInBounds_toArray, List.set_cons_zero, List.set_cons_succ]
  refine at_reg ?_
  intro W8 hW8
  have HB8 : Hid (Below w.heap.size w W8) := Lib.hid (by rw [hW8]; exact (below4 HB7.out (g := w.heap.size) (Nat.le_refl _) (.bool false) (.slice A1 n1 c1) (.int .i64 ee1) (.int .i64 0)).drew)
  have I8 : Hid (IsN W8 (.slice A1 n1 c1) mm1) := Lib.hid (by rw [hW8]; exact (isn_put4 I7.out Y1.out (.bool false) (.slice A1 n1 c1) (.int .i64 ee1) (.int .i64 0)).drewN 1)
  have J8 : Hid (IsN W8 (.slice A2 n2 c2) mm2) := Lib.hid (by rw [hW8]; exact (isn_put4 J7.out Y1.out (.bool false) (.slice A1 n1 c1) (.int .i64 ee1) (.int .i64 0)).drewN 1)
  have Y1d : Hid (xcells W8 w.heap.size false (.slice A1 n1 c1) ee1 0) := Lib.hid (by rw [hW8]; exact Y1b.out)
  have Y2d : Hid (xcells W8 (w.heap.size + 1) false (.slice A2 n2 c2) ee2 0) := Lib.hid (by rw [hW8]; exact Y2b.out)
  replace hH := PA.out _ Y1d.out Y2d.out
  clear hW8 Y1b Y2b d0 d1 d2 d3 f0 f1 f2 f3 e0 e1 e2 e3 h0 h1 h2 h3 HB7 I7 J7 Y1 Y2
  obtain ⟨d0, d1, d2, d3, f0, f1, f2, f3⟩ := four_free Y1d.out
  obtain ⟨e0, e1, e2, e3, h0, h1, h2, h3⟩ := four_free Y2d.out
  refine wpAnyH_ready (rs := [6]) (by kernel_rfl) (by simp) ?_
  refine AllReadyH.cons rfl (fun K hK => ?_) AllReadyH.nil
  go_simp
  have Y1c := Lib.hid (xc_far Y1d.out hne (.bool false) (.slice A2 n2 c2) (.int .i64 ee2) (.int .i64 0))
  have Y2c := Lib.hid (xc_put Y2d.out)
  refine hK.out _ _ (PA.out _ Y1c.out Y2c.out) (fun hHeld => ?_)
  clear hK K
  replace hH := hHeld
  clear hHeld
  try simp only [Act.put, List.setIfInBounds_toArray, List.set_cons_zero, List.set_cons_succ]
  refine take_p (i := 7) (oi := ?_) (v := ?_) ?_ ?_ ?_ ?_ ?_ ?_ ?_ hH ?_
  rotate_left 2
  · (simp only [List.getElem?_toArray, List.getElem?_cons_succ, List.getElem?_cons_zero]; rfl)
  · kernel_rfl
  · kernel_rfl
  · kernel_rfl
  · exact fun _ _ _ h => h
  · rfl
  · (intro w hSw; (try dsimp only at hSw); go_simp; all_goals (with_reducible rfl))
  try simp only [Act.put, List.setIfInBounds_toArray, List.set_cons_zero, List.set_cons_succ]
  refine take_p (i := 8) (oi := ?_) (v := ?_) ?_ ?_ ?_ ?_ ?_ ?_ ?_ hH ?_
  rotate_left 2
  · (simp only [List.getElem?_toArray, List.getElem?_cons_succ, List.getElem?_cons_zero]; rfl)
  · kernel_rfl
  · kernel_rfl
  · kernel_rfl
  · exact fun _ _ _ h => h
  · rfl
  · (intro w hSw; (try dsimp only at hSw); go_simp; all_goals (with_reducible rfl))
  try simp only [Act.put, List.setIfInBounds_toArray, List.set_cons_zero, List.set_cons_succ]
  refine wpAnyH_done (by kernel_rfl) ?_ _
  have HB9 := Lib.hid (below4 HB8.out (g := w.heap.size + 1) (by omega) (.bool false) (.slice A2 n2 c2) (.int .i64 ee2) (.int .i64 0))
  have I9 := Lib.hid (isn_put4 I8.out Y2d.out (.bool false) (.slice A2 n2 c2) (.int .i64 ee2) (.int .i64 0))
  have J9 := Lib.hid (isn_put4 J8.out Y2d.out (.bool false) (.slice A2 n2 c2) (.int .i64 ee2) (.int .i64 0))
  clear d0 d1 d2 d3 f0 f1 f2 f3 e0 e1 e2 e3 h0 h1 h2 h3 hH
  obtain ⟨d0, d1, d2, d3, -⟩ := four_free Y1c.out
  obtain ⟨e0, e1, e2, e3, -⟩ := four_free Y2c.out
  go_wp2_with fail
  refine bodyPost_ret (v := .tuple #[.agg #[.bool false, .slice A1 n1 c1, .int .i64 ee1, .int .i64 0], .agg #[.bool false, .slice A2 n2 c2, .int .i64 ee2, .int .i64 0], .bool ev, .int .i64 0]) (by simp [results, Tryz.results34, go_sem, d0, d1, d2, d3, e0, e1, e2, e3]) rfl ⟨⟨_, _, _, _, _, _, rfl, I9.out, J9.out⟩, HB9.out⟩
end Go.Proofs.YtlmeobokpibifaaGreatDoor
end

section
set_option linter.unusedSimpArgs false
set_option linter.unusedVariables false
set_option linter.unusedVariables false
set_option linter.unusedSimpArgs false
namespace Go.Proofs.YtlmeobokpibifaaGreatDoor
open Go.RowKit

set_option maxRecDepth 100000 in
set_option maxHeartbeats 1000000 in
/-- Limits of the greatest number, of a form that has nothing above it: one boundary -/
theorem limits_one (n : Nat) (wd mn bs : Int) (m f key p mm1 : Nat) (neg : Bool) (ee1 : Int) (w : World) (hn : 1 ≤ n) (hn2 : n < 15) (h : FormAt w n 2 wd mn bs key 0 0) (hm : NumAt w m 2 f) (hk1 : 1 ≤ key) (hk : key < 18446744073709551616)
    (KE : Hid (∀ w', Below w.heap.size w w' → Calls Tryz.prog 56 #[.int .i64 n, .int .u64 p] w' fun en w'' => en = .returned (.tuple #[.bool neg, .int .u64 key, .int .i64 0]) ∧ Below w'.heap.size w' w''))
    (B1 : Hid (∀ w', Below w.heap.size w w' → Calls Tryz.prog 57 #[.int .i64 n, .int .u64 ((key - 1 : Nat) : Int)] w' fun en w'' => (∃ A n c, en = .returned (xv false (.slice A n c) ee1 0) ∧ IsN w'' (.slice A n c) mm1) ∧ Below w'.heap.size w' w'')) :
    Calls Tryz.prog 34 #[.int .i64 n, .int .u64 p] w fun en w' => (∃ A1 n1 c1, en = .returned (.tuple #[xv false (.slice A1 n1 c1) ee1 0, xv false (.slice none 0 0) 0 0, .bool (decide (key % 2 = 0)), .int .i64 0]) ∧ IsN w' (.slice A1 n1 c1) mm1) ∧ Below w.heap.size w w' := by
  have HA := Lib.hid (bgrow (bgrow (Below.refl w.heap.size w) (xbox false (.slice none 0 0) 0 0)) (xbox false (.slice none 0 0) 0 0))
  have X1 : Hid (xcells ((w.alloc (xbox false (.slice none 0 0) 0 0)).alloc (xbox false (.slice none 0 0) 0 0)) w.heap.size false (.slice none 0 0) 0 0) := Lib.hid ((Deep.blk_alloc_lt _ _ _ (by simp)).trans (Deep.blk_alloc_new _ _))
  have X2 : Hid (xcells ((w.alloc (xbox false (.slice none 0 0) 0 0)).alloc (xbox false (.slice none 0 0) 0 0)) (w.heap.size + 1) false (.slice none 0 0) 0 0) := Lib.hid (by
    have := Deep.blk_alloc_new (w.alloc (xbox false (.slice none 0 0) 0 0)) (xbox false (.slice none 0 0) 0 0)
    have e : (w.alloc (xbox false (.slice none 0 0) 0 0)).heap.size = w.heap.size + 1 := by simp
    rw [e] at this
    exact this)
  have FO := Lib.hid (fun w' h1 => form_of n 2 wd mn bs key 0 0 w' hn hn2 h1)
  have MO := Lib.hid (fun w' h1 h2 => most_any n 2 wd mn bs key 0 0 m f neg w' hn hn2 h1 h2 rfl rfl)
  have HF := Lib.hid h
  have HM := Lib.hid hm
  have u1 : ((key : Int) == 0) = false := by simp; omega
  have u2 : decide ((1 : Int) ≤ (key : Int)) = true := decide_eq_true (by omega)
  have u2' : decide (1 ≤ key) = true := decide_eq_true hk1
  have u3 : decide (key < key) = false := decide_eq_false (by omega)
  obtain ⟨k1, hk1'⟩ : ∃ k1, key - 1 = k1 := ⟨_, rfl⟩
  have hki : (key : Int) - 1 = (k1 : Int) := by omega
  rw [hk1'] at B1
  have hk1b : k1 < 18446744073709551616 := by omega
  have hand : bits .and .u64 (key : Int) 1 = ((key % 2 : Nat) : Int) := by
    have := bits_and_u64_nat key 1 hk (by decide)
    rw [show ((1 : Nat) : Int) = 1 from rfl] at this
    rw [this, Nat.and_one_is_mod]
  obtain ⟨ev, hev⟩ : ∃ ev, decide (key % 2 = 0) = ev := ⟨_, rfl⟩
  have hev2 : (((key % 2 : Nat) : Int) == 0) = ev := by
    rw [← hev]
    rcases (show key % 2 = 0 ∨ key % 2 = 1 from by omega) with h | h <;> rw [h] <;> rfl
  obtain ⟨r2, hr2⟩ : ∃ r2, key % 2 = r2 := ⟨_, rfl⟩
  rw [hr2] at hand hev2
  rw [hev]
  clear h hm hn hn2 hk1 hk hk1' hev hr2
  unfold xv xbox fv at *
  go_enter Tryz.func34, Tryz.ntmps34
  go_wp2_with fail
  generalize ((w.alloc (.cells #[.bool false, .slice none 0 0, .int .i64 0, .int .i64 0] 41)).alloc (.cells #[.bool false, .slice none 0 0, .int .i64 0, .int .i64 0] 41)) = WB at HA X1 X2 ⊢
  with_reducible (refine (KE.out _ HA.out).mono ?_)
  rintro en w1 ⟨rfl, b1⟩
  have HB1 := Lib.hid (bthen HA.out b1)
  have Y1 := Lib.hid (show xcells w1 _ _ _ _ _ from (b1.block _ (blk_lt X1.out)).trans X1.out)
  have Y2 := Lib.hid (show xcells w1 _ _ _ _ _ from (b1.block _ (blk_lt X2.out)).trans X2.out)
  clear b1 X1 X2 HA
  go_wp2_with fail
  with_reducible (refine (FO.out _ (HF.out.below HB1.out)).mono ?_)
  rintro en w2 ⟨rfl, b2⟩
  have bb : Below w1.heap.size w1 (w2.alloc (fbox 2 wd mn bs key 0 0)) := bgrow b2 _
  have HB2 := Lib.hid (bthen HB1.out bb)
  have Z1 := Lib.hid (show xcells (w2.alloc (fbox 2 wd mn bs key 0 0)) _ _ _ _ _ from (bb.block _ (blk_lt Y1.out)).trans Y1.out)
  have Z2 := Lib.hid (show xcells (w2.alloc (fbox 2 wd mn bs key 0 0)) _ _ _ _ _ from (bb.block _ (blk_lt Y2.out)).trans Y2.out)
  have FX : Hid ((w2.alloc (fbox 2 wd mn bs key 0 0)).heap[w2.heap.size]? = some (.cells #[.int .i64 2, .int .i64 wd, .int .i64 mn, .int .i64 bs, .int .u64 key, .int .u64 0, .int .u64 0] 56 (0, 0))) := Lib.hid (Deep.blk_alloc_new _ _)
  have NF : Hid (w.heap.size < w2.heap.size) := Lib.hid (by have := blk_lt Y1.out; have := b2.size; omega)
  clear b2 bb Y1 Y2 HB1
  unfold fbox at HB2 Z1 Z2 FX
  go_wp2_with fail
  generalize (w2.alloc (.cells #[.int .i64 2, .int .i64 wd, .int .i64 mn, .int .i64 bs, .int .u64 key, .int .u64 0, .int .u64 0] 56)) = WF at HB2 Z1 Z2 FX ⊢
  with_reducible (refine (MO.out _ (HF.out.below HB2.out) (HM.out.below HB2.out)).mono ?_)
  rintro en w3 ⟨rfl, b3⟩
  have HB3 := Lib.hid (bthen HB2.out b3)
  have Y1 := Lib.hid (show xcells w3 _ _ _ _ _ from (b3.block _ (blk_lt Z1.out)).trans Z1.out)
  have Y2 := Lib.hid (show xcells w3 _ _ _ _ _ from (b3.block _ (blk_lt Z2.out)).trans Z2.out)
  have FX3 := Lib.hid ((b3.block _ (blk_lt FX.out)).trans FX.out)
  clear b3 Z1 Z2 FX HB2
  obtain ⟨g0, g1, g2, g3, g4, g5, g6⟩ := seven_cells FX3.out
  go_wp2_with fail
  with_reducible (refine (B1.out _ HB3.out).mono ?_)
  rintro en w4 ⟨⟨A1, n1, c1, rfl, i1⟩, b4⟩
  have HB4 := Lib.hid (bthen HB3.out b4)
  have Z1 := Lib.hid (show xcells w4 _ _ _ _ _ from (b4.block _ (blk_lt Y1.out)).trans Y1.out)
  have Z2 := Lib.hid (show xcells w4 _ _ _ _ _ from (b4.block _ (blk_lt Y2.out)).trans Y2.out)
  have I1 := Lib.hid i1
  have FX4 := Lib.hid ((b4.block _ (blk_lt FX3.out)).trans FX3.out)
  have hneF : ¬ w2.heap.size = w.heap.size := by have := NF.out; omega
  have hneF' : ¬ w.heap.size = w2.heap.size := by have := NF.out; omega
  have hneG : ¬ w.heap.size + 1 = w.heap.size := by omega
  have hneG' : ¬ w.heap.size = w.heap.size + 1 := by omega
  clear b4 i1 Y1 Y2 HB3 g0 g1 g2 g3 g4 g5 g6 FX3
  obtain ⟨d0, d1, d2, d3, f0, f1, f2, f3⟩ := four_free Z1.out
  obtain ⟨g0, g1, g2, g3, g4, g5, g6⟩ := seven_cells FX4.out
  go_wp2_with fail
  have HB7 := Lib.hid (below4 HB4.out (g := w.heap.size) (Nat.le_refl _) (.bool false) (.slice A1 n1 c1) (.int .i64 ee1) (.int .i64 0))
  have Y1 := Lib.hid (show xcells _ _ false (.slice A1 n1 c1) ee1 0 from put4 (a' := .bool false) (b' := .slice A1 n1 c1) (c' := .int .i64 ee1) (d' := .int .i64 0) Z1.out)
  have Y2 := Lib.hid (xc_far Z2.out (k := w.heap.size) (by omega) (.bool false) (.slice A1 n1 c1) (.int .i64 ee1) (.int .i64 0))
  have I7 := Lib.hid (isn_put4 I1.out Z1.out (.bool false) (.slice A1 n1 c1) (.int .i64 ee1) (.int .i64 0))
  clear d0 d1 d2 d3 f0 f1 f2 f3 Z1 Z2 I1 HB4 g0 g1 g2 g3 g4 g5 g6 FX4 hneF hneF' hneG hneG'
  generalize ((((w4.setCell { block := w.heap.size, off := 0 } (.bool false)).setCell { block := w.heap.size, off := 1 } (.slice A1 n1 c1)).setCell { block := w.heap.size, off := 2 } (.int .i64 ee1)).setCell { block := w.heap.size, off := 3 } (.int .i64 0)) = W7 at HB7 Y1 Y2 I7 ⊢
  obtain ⟨d0, d1, d2, d3, f0, f1, f2, f3⟩ := four_free Y1.out
  obtain ⟨e0, e1, e2, e3, h0, h1, h2, h3⟩ := four_free Y2.out
  have hne : w.heap.size ≠ w.heap.size + 1 := by omega
  have hne' : w.heap.size + 1 ≠ w.heap.size := by omega
  have PA : Hid (∀ w', xcells w' w.heap.size false (.slice A1 n1 c1) ee1 0 → xcells w' (w.heap.size + 1) false (.slice none 0 0) 0 0 → (w'.cell? { block := w.heap.size, off := 0 } = some (.bool false) ∧ w'.cell? { block := w.heap.size, off := 1 } = some (.slice A1 n1 c1) ∧ w'.cell? { block := w.heap.size, off := 2 } = some (.int .i64 ee1) ∧ w'.cell? { block := w.heap.size, off := 3 } = some (.int .i64 0)) ∧ (w'.cell? { block := w.heap.size + 1, off := 0 } = some (.bool false) ∧ w'.cell? { block := w.heap.size + 1, off := 1 } = some (.slice none 0 0) ∧ w'.cell? { block := w.heap.size + 1, off := 2 } = some (.int .i64 0) ∧ w'.cell? { block := w.heap.size + 1, off := 3 } = some (.int .i64 0))) := Lib.hid (fun w' p q => by
    obtain ⟨a, b, c, d, -⟩ := four_free p
    obtain ⟨a', b', c', d', -⟩ := four_free q
    exact ⟨⟨a, b, c, d⟩, a', b', c', d'⟩)
  refine wp_region_held_drew (S := fun w' => (w'.cell? { block := w.heap.size, off := 0 } = some (.bool false) ∧ w'.cell? { block := w.heap.size, off := 1 } = some (.slice A1 n1 c1) ∧ w'.cell? { block := w.heap.size, off := 2 } = some (.int .i64 ee1) ∧ w'.cell? { block := w.heap.size, off := 3 } = some (.int .i64 0)) ∧ (w'.cell? { block := w.heap.size + 1, off := 0 } = some (.bool false) ∧ w'.cell? { block := w.heap.size + 1, off := 1 } = some (.slice none 0 0) ∧ w'.cell? { block := w.heap.size + 1, off := 2 } = some (.int .i64 0) ∧ w'.cell? { block := w.heap.size + 1, off := 3 } = some (.int .i64 0))) (by kernel_rfl) (PA.out _ (xc_drew Y1.out) (xc_drew Y2.out)) (fun hH => ?_)
  refine take_p (i := 0) (oi := ?_) (v := ?_) ?_ ?_ ?_ ?_ ?_ ?_ ?_ hH ?_
  rotate_left 2
  · (simp only [List.getElem?_toArray, List.getElem?_cons_succ, List.getElem?_cons_zero]; rfl)
  · kernel_rfl
  · kernel_rfl
  · kernel_rfl
  · exact fun _ _ _ h => h
  · rfl
  · (intro w hSw; (try dsimp only at hSw); go_simp; all_goals (with_reducible rfl))
  try simp only [Act.put, List.setIfInBounds_toArray, List.set_cons_zero, List.set_cons_succ]
  refine take_p (i := 1) (oi := ?_) (v := ?_) ?_ ?_ ?_ ?_ ?_ ?_ ?_ hH ?_
  rotate_left 2
  · (simp only [List.getElem?_toArray, List.getElem?_cons_succ, List.getElem?_cons_zero]; rfl)
  · kernel_rfl
  · kernel_rfl
  · kernel_rfl
  · exact fun _ _ _ h => h
  · rfl
  · (intro w hSw; (try dsimp only at hSw); go_simp; all_goals (with_reducible rfl))
  try simp only [Act.put, List.setIfInBounds_toArray, List.set_cons_zero, List.set_cons_succ]
  refine take_p (i := 2) (oi := ?_) (v := ?_) ?_ ?_ ?_ ?_ ?_ ?_ ?_ hH ?_
  rotate_left 2
  · (simp only [List.getElem?_toArray, List.getElem?_cons_succ, List.getElem?_cons_zero]; rfl)
  · kernel_rfl
  · kernel_rfl
  · kernel_rfl
  · exact fun _ _ _ h => h
  · rfl
  · (intro w hSw; (try dsimp only at hSw); go_simp; all_goals (with_reducible rfl))
  try simp only [Act.put, List.setIfInBounds_toArray, List.set_cons_zero, List.set_cons_succ]
  refine take_p (i := 3) (oi := ?_) (v := ?_) ?_ ?_ ?_ ?_ ?_ ?_ ?_ hH ?_
  rotate_left 2
  · (simp only [List.getElem?_toArray, List.getElem?_cons_succ, List.getElem?_cons_zero]; rfl)
  · kernel_rfl
  · kernel_rfl
  · kernel_rfl
  · exact fun _ _ _ h => h
  · rfl
  · (intro w hSw; (try dsimp only at hSw); go_simp; all_goals (with_reducible rfl))
  try simp only [Act.put, List.setIfInBounds_toArray, List.set_cons_zero, List.set_cons_succ]
  refine take_p (i := 4) (oi := ?_) (v := ?_) ?_ ?_ ?_ ?_ ?_ ?_ ?_ hH ?_
  rotate_left 2
  · (simp only [List.getElem?_toArray, List.getElem?_cons_succ, List.getElem?_cons_zero]; rfl)
  · kernel_rfl
  · kernel_rfl
  · kernel_rfl
  · exact fun _ _ _ h => h
  · rfl
  · (intro w hSw; (try dsimp only at hSw); go_simp; all_goals (with_reducible rfl))
  try simp only [Act.put, List.setIfInBounds_toArray, List.set_cons_zero, List.set_cons_succ]
  refine wpAnyH_ready (rs := [5]) (by kernel_rfl) (by simp) ?_
  refine AllReadyH.cons rfl (fun K hK => ?_) AllReadyH.nil
  go_simp
  have Y1b := Lib.hid (xc_drew (xc_put Y1.out))
  have Y2b := Lib.hid (xc_drew (xc_far Y2.out hne' (.bool false) (.slice A1 n1 c1) (.int .i64 ee1) (.int .i64 0)))
  refine hK.out _ _ (PA.out _ Y1b.out Y2b.out) (fun hHeld => ?_)
  clear hK K
  replace hH := hHeld
  clear hHeld
  try simp only [Act.put, List.setIfInBounds_toArray, List.set_cons_zero, List.set_cons_succ]
  refine at_reg ?_
  intro W8 hW8
  have HB8 : Hid (Below w.heap.size w W8) := Lib.hid (by rw [hW8]; exact (below4 HB7.out (g := w.heap.size) (Nat.le_refl _) (.bool false) (.slice A1 n1 c1) (.int .i64 ee1) (.int .i64 0)).drew)
  have I8 : Hid (IsN W8 (.slice A1 n1 c1) mm1) := Lib.hid (by rw [hW8]; exact (isn_put4 I7.out Y1.out (.bool false) (.slice A1 n1 c1) (.int .i64 ee1) (.int .i64 0)).drewN 1)
  have Y1d : Hid (xcells W8 w.heap.size false (.slice A1 n1 c1) ee1 0) := Lib.hid (by rw [hW8]; exact Y1b.out)
  have Y2d : Hid (xcells W8 (w.heap.size + 1) false (.slice none 0 0) 0 0) := Lib.hid (by rw [hW8]; exact Y2b.out)
  replace hH := PA.out _ Y1d.out Y2d.out
  clear hW8 Y1b Y2b d0 d1 d2 d3 f0 f1 f2 f3 e0 e1 e2 e3 h0 h1 h2 h3 HB7 I7 Y1 Y2
  obtain ⟨d0, d1, d2, d3, f0, f1, f2, f3⟩ := four_free Y1d.out
  obtain ⟨e0, e1, e2, e3, h0, h1, h2, h3⟩ := four_free Y2d.out
  refine wpAnyH_ready (rs := [6]) (by kernel_rfl) (by simp) ?_
  refine AllReadyH.cons rfl (fun K hK => ?_) AllReadyH.nil
  go_simp
  have Y1c := Lib.hid (xc_far Y1d.out hne (.bool false) (.slice none 0 0) (.int .i64 0) (.int .i64 0))
  have Y2c := Lib.hid (xc_put Y2d.out)
  refine hK.out _ _ (PA.out _ Y1c.out Y2c.out) (fun hHeld => ?_)
  clear hK K
  replace hH := hHeld
  clear hHeld
  try simp only [Act.put, List.setIfInBounds_toArray, List.set_cons_zero, List.set_cons_succ]
  refine take_p (i := 7) (oi := ?_) (v := ?_) ?_ ?_ ?_ ?_ ?_ ?_ ?_ hH ?_
  rotate_left 2
  · (simp only [List.getElem?_toArray, List.getElem?_cons_succ, List.getElem?_cons_zero]; rfl)
  · kernel_rfl
  · kernel_rfl
  · kernel_rfl
  · exact fun _ _ _ h => h
  · rfl
  · (intro w hSw; (try dsimp only at hSw); go_simp; all_goals (with_reducible rfl))
  try simp only [Act.put, List.setIfInBounds_toArray, List.set_cons_zero, List.set_cons_succ]
  refine take_p (i := 8) (oi := ?_) (v := ?_) ?_ ?_ ?_ ?_ ?_ ?_ ?_ hH ?_
  rotate_left 2
  · (simp only [List.getElem?_toArray, List.getElem?_cons_succ, List.getElem?_cons_zero]; rfl)
  · kernel_rfl
  · kernel_rfl
  · kernel_rfl
  · exact fun _ _ _ h => h
  · rfl
  · (intro w hSw; (try dsimp only at hSw); go_simp; all_goals (with_reducible rfl))
  try simp only [Act.put, List.setIfInBounds_toArray, List.set_cons_zero, List.set_cons_succ]
  refine wpAnyH_done (by kernel_rfl) ?_ _
  have HB9 := Lib.hid (below4 HB8.out (g := w.heap.size + 1) (by omega) (.bool false) (.slice none 0 0) (.int .i64 0) (.int .i64 0))
  have I9 := Lib.hid (isn_put4 I8.out Y2d.out (.bool false) (.slice none 0 0) (.int .i64 0) (.int .i64 0))
  clear d0 d1 d2 d3 f0 f1 f2 f3 e0 e1 e2 e3 h0 h1 h2 h3 hH
  obtain ⟨d0, d1, d2, d3, -⟩ := four_free Y1c.out
  obtain ⟨e0, e1, e2, e3, -⟩ := four_free Y2c.out
  go_wp2_with fail
  refine bodyPost_ret (v := .tuple #[.agg #[.bool false, .slice A1 n1 c1, .int .i64 ee1, .int .i64 0], .agg #[.bool false, .slice none 0 0, .int .i64 0, .int .i64 0], .bool ev, .int .i64 0]) (by simp [results, Tryz.results34, go_sem, d0, d1, d2, d3, e0, e1, e2, e3]) rfl ⟨⟨_, _, _, rfl, I9.out⟩, HB9.out⟩
end Go.Proofs.YtlmeobokpibifaaGreatDoor
end

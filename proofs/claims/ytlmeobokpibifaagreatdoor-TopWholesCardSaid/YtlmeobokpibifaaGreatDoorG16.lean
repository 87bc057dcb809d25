/- package short's Short. Conditions: as each theorem names them. package print's told and Print. Conditions: as each theorem names them. package print's told of nought. Conditions: as each theorem names them. What the listed variables hold when a call begins, as the row's condition gives it: the forms, the ways of all kinds, the words, the table of trailing zeros. Conditions: as each theorem names them. -/
import Derived.Test.YtlmeobokpibifaaGreatDoorG14
import Derived.Test.YtlmeobokpibifaaGreatDoorG15
import Derived.Test.YtlmeobokpibifaaGreatDoorG13
import Derived.Test.YtlmeobokpibifaaGreatDoorRows
import Derived.ProofKit
import Derived.LaidMore
import Derived.OpenShut
import Derived.Maps.Keyed
import Derived.WideKeyElems2
import Derived.Lib.LaidTab
section
set_option linter.unusedSimpArgs false
set_option linter.unusedVariables false
set_option linter.unusedVariables false
namespace Go.Proofs.YtlmeobokpibifaaGreatDoor
open Go.RowKit

theorem al3 (w : World) (o1 o2 o3 : Obj) : (((w.alloc o1).alloc o2).alloc o3).heap[w.heap.size]? = some o1 ∧ (((w.alloc o1).alloc o2).alloc o3).heap[w.heap.size + 1]? = some o2 ∧ (((w.alloc o1).alloc o2).alloc o3).heap[w.heap.size + 1 + 1]? = some o3 := by
  have e1 : (w.alloc o1).heap.size = w.heap.size + 1 := by simp
  have e2 : ((w.alloc o1).alloc o2).heap.size = w.heap.size + 1 + 1 := by simp
  refine ⟨?_, ?_, ?_⟩
  · exact (Deep.blk_alloc_lt _ _ _ (by omega)).trans ((Deep.blk_alloc_lt _ _ _ (by omega)).trans (Deep.blk_alloc_new _ _))
  · rw [← e1]; exact (Deep.blk_alloc_lt _ _ _ (by omega)).trans (Deep.blk_alloc_new _ _)
  · rw [← e2]; exact Deep.blk_alloc_new _ _
theorem nine_far {w : World} {g k : Nat} {o : Obj} (h : w.heap[g]? = some o) (hne : g ≠ k) (a b c d e f i j l : Value) : (((((((((w.setCell { block := k, off := 0 } a).setCell { block := k, off := 1 } b).setCell { block := k, off := 2 } c).setCell { block := k, off := 3 } d).setCell { block := k, off := 4 } e).setCell { block := k, off := 5 } f).setCell { block := k, off := 6 } i).setCell { block := k, off := 7 } j).setCell { block := k, off := 8 } l).heap[g]? = some o := by
  rw [Deep.blk_setCell_other _ _ _ _ hne, Deep.blk_setCell_other _ _ _ _ hne, Deep.blk_setCell_other _ _ _ _ hne, Deep.blk_setCell_other _ _ _ _ hne, Deep.blk_setCell_other _ _ _ _ hne, Deep.blk_setCell_other _ _ _ _ hne, Deep.blk_setCell_other _ _ _ _ hne, Deep.blk_setCell_other _ _ _ _ hne, Deep.blk_setCell_other _ _ _ _ hne]
  exact h
theorem nine_put {w : World} {g : Nat} {a b c d e f i j l a' b' c' d' e' f' i' j' l' : Value} {t : TypeId} (hb : w.heap[g]? = some (.cells #[a, b, c, d, e, f, i, j, l] t (0, 0))) : (((((((((w.setCell { block := g, off := 0 } a').setCell { block := g, off := 1 } b').setCell { block := g, off := 2 } c').setCell { block := g, off := 3 } d').setCell { block := g, off := 4 } e').setCell { block := g, off := 5 } f').setCell { block := g, off := 6 } i').setCell { block := g, off := 7 } j').setCell { block := g, off := 8 } l').heap[g]? = some (.cells #[a', b', c', d', e', f', i', j', l'] t (0, 0)) := by
  simp [World.setCell, Array.getElem?_modify, hb]
theorem below9 {B : Nat} {a w : World} (h : Below B a w) {g : Nat} (hg : B ≤ g) (x0 x1 x2 x3 x4 x5 x6 x7 x8 : Value) : Below B a (((((((((w.setCell { block := g, off := 0 } x0).setCell { block := g, off := 1 } x1).setCell { block := g, off := 2 } x2).setCell { block := g, off := 3 } x3).setCell { block := g, off := 4 } x4).setCell { block := g, off := 5 } x5).setCell { block := g, off := 6 } x6).setCell { block := g, off := 7 } x7).setCell { block := g, off := 8 } x8) :=
  ((((((((h.setCell (p := { block := g, off := 0 }) hg x0).setCell (p := { block := g, off := 1 }) hg x1).setCell (p := { block := g, off := 2 }) hg x2).setCell (p := { block := g, off := 3 }) hg x3).setCell (p := { block := g, off := 4 }) hg x4).setCell (p := { block := g, off := 5 }) hg x5).setCell (p := { block := g, off := 6 }) hg x6).setCell (p := { block := g, off := 7 }) hg x7).setCell (p := { block := g, off := 8 }) hg x8
theorem isn_put9 {w : World} {u : Value} {N : Nat} (h : IsN w u N) {g : Nat} {na nb ev : Bool} {A B : Option Addr} {n c n' c' : Nat} {k1 k2 k3 k4 : Int} (hx : w.heap[g]? = some (.cells #[.bool na, .slice A n c, .int .i64 k1, .int .i64 k2, .bool nb, .slice B n' c', .int .i64 k3, .int .i64 k4, .bool ev] 91 (0, 0))) (x0 x1 x2 x3 x4 x5 x6 x7 x8 : Value) : IsN (((((((((w.setCell { block := g, off := 0 } x0).setCell { block := g, off := 1 } x1).setCell { block := g, off := 2 } x2).setCell { block := g, off := 3 } x3).setCell { block := g, off := 4 } x4).setCell { block := g, off := 5 } x5).setCell { block := g, off := 6 } x6).setCell { block := g, off := 7 } x7).setCell { block := g, off := 8 } x8) u N :=
  IsN.off h hx (by intro x hx z; simp at hx; rcases hx with rfl | rfl | rfl | rfl | rfl | rfl | rfl | rfl | rfl <;> simp) (by simp) (fun k hk => by iterate 9 rw [Deep.blk_setCell_other _ _ _ _ hk])
theorem nine_free {w : World} {g : Nat} {a b c d e f h i j : Value} {t : TypeId} (hb : w.heap[g]? = some (.cells #[a, b, c, d, e, f, h, i, j] t (0, 0))) :
    w.cell? { block := g, off := 0 } = some a ∧ w.cell? { block := g, off := 1 } = some b ∧ w.cell? { block := g, off := 2 } = some c ∧ w.cell? { block := g, off := 3 } = some d ∧ w.cell? { block := g, off := 4 } = some e ∧ w.cell? { block := g, off := 5 } = some f ∧ w.cell? { block := g, off := 6 } = some h ∧ w.cell? { block := g, off := 7 } = some i ∧ w.cell? { block := g, off := 8 } = some j
    ∧ w.frozen? { block := g, off := 0 } = false ∧ w.frozen? { block := g, off := 1 } = false ∧ w.frozen? { block := g, off := 2 } = false ∧ w.frozen? { block := g, off := 3 } = false ∧ w.frozen? { block := g, off := 4 } = false ∧ w.frozen? { block := g, off := 5 } = false ∧ w.frozen? { block := g, off := 6 } = false ∧ w.frozen? { block := g, off := 7 } = false ∧ w.frozen? { block := g, off := 8 } = false := by
  refine ⟨?_, ?_, ?_, ?_, ?_, ?_, ?_, ?_, ?_, ?_, ?_, ?_, ?_, ?_, ?_, ?_, ?_, ?_⟩ <;> simp [World.cell?, World.frozen?, hb]
set_option maxRecDepth 100000 in
set_option maxHeartbeats 1000000 in
theorem short_of (n p mm N1 N2 D : Nat) (ee ee1 ee2 k0 kf : Int) (neg ev : Bool) (w : World) (hm : 0 < mm) (hb : bitsN mm ≤ 9000) (he : -6000 ≤ ee ∧ ee ≤ 6000) (hL : Lg mm ee 0 k0) (hkf : kf ≤ k0) (hD : D < 2 ^ 200) (h10 : D % 10 ≠ 0) (hk5 : -5000 ≤ kf ∧ k0 ≤ 5000)
    (FI : Hid (∀ w', Below w.heap.size w w' → Calls Tryz.prog 33 #[.int .i64 n, .int .u64 p] w' fun en w'' => (∃ A n c, en = .returned (.tuple #[.agg #[.int .i64 2, .bool neg, .int .u64 mm, .int .i64 ee], xv false (.slice A n c) ee 0, .int .i64 0]) ∧ IsN w'' (.slice A n c) mm) ∧ Below w'.heap.size w' w''))
    (LI : Hid (∀ w', Below w.heap.size w w' → Calls Tryz.prog 34 #[.int .i64 n, .int .u64 p] w' fun en w'' => (∃ A1 n1 c1 A2 n2 c2, en = .returned (.tuple #[xv false (.slice A1 n1 c1) ee1 0, xv false (.slice A2 n2 c2) ee2 0, .bool ev, .int .i64 0]) ∧ IsN w'' (.slice A1 n1 c1) N1 ∧ IsN w'' (.slice A2 n2 c2) N2) ∧ Below w'.heap.size w' w''))
    (NR : Hid (∀ A1 n1 c1 A2 n2 c2 Av nv cv j w', Below w.heap.size w w' → IsN w' (.slice A1 n1 c1) N1 → IsN w' (.slice A2 n2 c2) N2 → IsN w' (.slice Av nv cv) mm → kf ≤ j → j ≤ k0 →
      Calls Tryz.prog 36 #[ivv A1 n1 c1 ee1 A2 n2 c2 ee2 ev, xv false (.slice Av nv cv) ee 0, .int .i64 j] w' fun en w'' => (∃ A n c, en = .returned (.tuple #[.slice A n c, .bool (decide (j = kf))]) ∧ (j = kf → IsN w'' (.slice A n c) D)) ∧ Below w'.heap.size w' w'')) :
    Calls Tryz.prog 15 #[.int .i64 n, .int .u64 p] w fun en w' => (∃ A n c, en = .returned (.tuple #[.agg #[.bool neg, .slice A n c, .int .i64 kf], .int .i64 0]) ∧ IsN w' (.slice A n c) D) ∧ Below w.heap.size w w' := by
  have HA := Lib.hid (bgrow (Below.refl w.heap.size w) (dbox false (.slice none 0 0) 0))
  have BX : Hid ((w.alloc (dbox false (.slice none 0 0) 0)).heap[w.heap.size]? = some (.cells #[.bool false, .slice none 0 0, .int .i64 0] 84 (0, 0))) := Lib.hid (Deep.blk_alloc_new _ _)
  have HK := Lib.hid (And.intro hL (And.intro hkf (And.intro hk5 (And.intro hm (And.intro hb he)))))
  have DG := Lib.hid (fun v w' q => digits_one neg v kf D w' q hD h10)
  have LG := Lib.hid (fun v w' (q : IsN w' v mm) => log_pos false v ee 0 mm w' ⟨q, by omega, by omega, by omega, by decide, by decide⟩ hm he (by decide) hb)
  clear hm hb he hL hkf hD h10 hk5
  unfold ivv xv dbox at *
  go_enter Tryz.func15, Tryz.ntmps15
  go_wp2_with fail
  generalize (w.alloc (.cells #[.bool false, .slice none 0 0, .int .i64 0] 84)) = WB at HA BX ⊢
  with_reducible (refine (FI.out _ HA.out).mono ?_)
  rintro en w1 ⟨⟨Av, nv, cv, rfl, hv⟩, b1⟩
  have HB1 := Lib.hid (bthen HA.out b1)
  have BX1 := Lib.hid ((b1.block _ (blk_lt BX.out)).trans BX.out)
  have HV1 := Lib.hid hv
  have N1' : Hid (w.heap.size < w1.heap.size) := Lib.hid (by have := blk_lt BX.out; have := b1.size; omega)
  clear b1 hv BX HA
  go_wp2_with fail
  have bb : Below w1.heap.size w1 (((w1.alloc (.cells #[.int .i64 2, .bool neg, .int .u64 mm, .int .i64 ee] 31)).alloc (.cells #[.bool false, .slice Av nv cv, .int .i64 ee, .int .i64 0] 41)).alloc (.cells #[.bool false, .slice none 0 0, .int .i64 0, .int .i64 0, .bool false, .slice none 0 0, .int .i64 0, .int .i64 0, .bool false] 91)) := bgrow (bgrow (bgrow (Below.refl _ _) _) _) _
  have HB2 := Lib.hid (bthen HB1.out bb)
  have BX2 := Lib.hid ((bb.block _ (blk_lt BX1.out)).trans BX1.out)
  have HV2 := Lib.hid (HV1.out.below bb)
  have V6 : Hid (vcells (((w1.alloc (.cells #[.int .i64 2, .bool neg, .int .u64 mm, .int .i64 ee] 31)).alloc (.cells #[.bool false, .slice Av nv cv, .int .i64 ee, .int .i64 0] 41)).alloc (.cells #[.bool false, .slice none 0 0, .int .i64 0, .int .i64 0, .bool false, .slice none 0 0, .int .i64 0, .int .i64 0, .bool false] 91)) w1.heap.size 2 neg mm ee) := Lib.hid (al3 _ _ _ _).1
  have X7 : Hid (xcells (((w1.alloc (.cells #[.int .i64 2, .bool neg, .int .u64 mm, .int .i64 ee] 31)).alloc (.cells #[.bool false, .slice Av nv cv, .int .i64 ee, .int .i64 0] 41)).alloc (.cells #[.bool false, .slice none 0 0, .int .i64 0, .int .i64 0, .bool false, .slice none 0 0, .int .i64 0, .int .i64 0, .bool false] 91)) (w1.heap.size + 1) false (.slice Av nv cv) ee 0) := Lib.hid (al3 _ _ _ _).2.1
  have I9 : Hid ((((w1.alloc (.cells #[.int .i64 2, .bool neg, .int .u64 mm, .int .i64 ee] 31)).alloc (.cells #[.bool false, .slice Av nv cv, .int .i64 ee, .int .i64 0] 41)).alloc (.cells #[.bool false, .slice none 0 0, .int .i64 0, .int .i64 0, .bool false, .slice none 0 0, .int .i64 0, .int .i64 0, .bool false] 91)).heap[w1.heap.size + 1 + 1]? = some (.cells #[.bool false, .slice none 0 0, .int .i64 0, .int .i64 0, .bool false, .slice none 0 0, .int .i64 0, .int .i64 0, .bool false] 91 (0, 0))) := Lib.hid (al3 _ _ _ _).2.2
  clear bb HB1 BX1 HV1
  generalize (((w1.alloc (.cells #[.int .i64 2, .bool neg, .int .u64 mm, .int .i64 ee] 31)).alloc (.cells #[.bool false, .slice Av nv cv, .int .i64 ee, .int .i64 0] 41)).alloc (.cells #[.bool false, .slice none 0 0, .int .i64 0, .int .i64 0, .bool false, .slice none 0 0, .int .i64 0, .int .i64 0, .bool false] 91)) = W2 at HB2 BX2 HV2 V6 X7 I9 ⊢
  with_reducible (refine (LI.out _ HB2.out).mono ?_)
  rintro en w3 ⟨⟨A1, n1, c1, A2, n2, c2, rfl, p1, p2⟩, b1⟩
  have HB3 := Lib.hid (bthen HB2.out b1)
  have BX3 := Lib.hid ((b1.block _ (blk_lt BX2.out)).trans BX2.out)
  have HV3 := Lib.hid (HV2.out.below b1)
  have V6b := Lib.hid (show vcells w3 _ _ _ _ _ from (b1.block _ (blk_lt V6.out)).trans V6.out)
  have X7b := Lib.hid (show xcells w3 _ _ _ _ _ from (b1.block _ (blk_lt X7.out)).trans X7.out)
  have I9b := Lib.hid ((b1.block _ (blk_lt I9.out)).trans I9.out)
  have P1 := Lib.hid p1
  have P2 := Lib.hid p2
  clear b1 p1 p2 HB2 BX2 HV2 V6 X7 I9
  obtain ⟨d0, d1, d2, d3, d4, d5, d6, d7, d8, f0, f1, f2, f3, f4, f5, f6, f7, f8⟩ := nine_free I9b.out
  obtain ⟨e0, e1, e2, e3, -⟩ := four_free X7b.out
  have hne : ¬ w1.heap.size + 1 = w1.heap.size + 1 + 1 := by omega
  go_wp2_with fail
  have I9c := Lib.hid (nine_put (a' := .bool false) (b' := .slice A1 n1 c1) (c' := .int .i64 ee1) (d' := .int .i64 0) (e' := .bool false) (f' := .slice A2 n2 c2) (i' := .int .i64 ee2) (j' := .int .i64 0) (l' := .bool ev) I9b.out)
  have X7c := Lib.hid (show xcells _ _ _ _ _ _ from nine_far X7b.out (k := w1.heap.size + 1 + 1) (by omega) (.bool false) (.slice A1 n1 c1) (.int .i64 ee1) (.int .i64 0) (.bool false) (.slice A2 n2 c2) (.int .i64 ee2) (.int .i64 0) (.bool ev))
  have V6c := Lib.hid (show vcells _ _ _ _ _ _ from nine_far V6b.out (k := w1.heap.size + 1 + 1) (by omega) (.bool false) (.slice A1 n1 c1) (.int .i64 ee1) (.int .i64 0) (.bool false) (.slice A2 n2 c2) (.int .i64 ee2) (.int .i64 0) (.bool ev))
  have BX4 := Lib.hid (nine_far BX3.out (k := w1.heap.size + 1 + 1) (by have := N1'.out; omega) (.bool false) (.slice A1 n1 c1) (.int .i64 ee1) (.int .i64 0) (.bool false) (.slice A2 n2 c2) (.int .i64 ee2) (.int .i64 0) (.bool ev))
  have HB4 := Lib.hid (below9 HB3.out (g := w1.heap.size + 1 + 1) (by have := N1'.out; omega) (.bool false) (.slice A1 n1 c1) (.int .i64 ee1) (.int .i64 0) (.bool false) (.slice A2 n2 c2) (.int .i64 ee2) (.int .i64 0) (.bool ev))
  have HV4 := Lib.hid (isn_put9 HV3.out I9b.out (.bool false) (.slice A1 n1 c1) (.int .i64 ee1) (.int .i64 0) (.bool false) (.slice A2 n2 c2) (.int .i64 ee2) (.int .i64 0) (.bool ev))
  have P1b := Lib.hid (isn_put9 P1.out I9b.out (.bool false) (.slice A1 n1 c1) (.int .i64 ee1) (.int .i64 0) (.bool false) (.slice A2 n2 c2) (.int .i64 ee2) (.int .i64 0) (.bool ev))
  have P2b := Lib.hid (isn_put9 P2.out I9b.out (.bool false) (.slice A1 n1 c1) (.int .i64 ee1) (.int .i64 0) (.bool false) (.slice A2 n2 c2) (.int .i64 ee2) (.int .i64 0) (.bool ev))
  clear d0 d1 d2 d3 d4 d5 d6 d7 d8 f0 f1 f2 f3 f4 f5 f6 f7 f8 e0 e1 e2 e3 hne I9b X7b V6b BX3 HB3 HV3 P1 P2
  generalize (((((((((w3.setCell { block := w1.heap.size + 1 + 1, off := 0 } (.bool false)).setCell { block := w1.heap.size + 1 + 1, off := 1 } (.slice A1 n1 c1)).setCell { block := w1.heap.size + 1 + 1, off := 2 } (.int .i64 ee1)).setCell { block := w1.heap.size + 1 + 1, off := 3 } (.int .i64 0)).setCell { block := w1.heap.size + 1 + 1, off := 4 } (.bool false)).setCell { block := w1.heap.size + 1 + 1, off := 5 } (.slice A2 n2 c2)).setCell { block := w1.heap.size + 1 + 1, off := 6 } (.int .i64 ee2)).setCell { block := w1.heap.size + 1 + 1, off := 7 } (.int .i64 0)).setCell { block := w1.heap.size + 1 + 1, off := 8 } (.bool ev)) = W5 at I9c X7c V6c BX4 HB4 HV4 P1b P2b ⊢
  with_reducible (refine (LG.out _ _ HV4.out).mono ?_)
  rintro en w6 ⟨⟨kk, rfl, hlg⟩, b1⟩
  have hkk : kk = k0 := hlg.uniq HK.out.1 rfl Iff.rfl
  subst hkk
  obtain ⟨G6, hG6⟩ : ∃ g, w1.heap.size = g := ⟨_, rfl⟩
  rw [hG6] at I9c X7c V6c ⊢
  have NG : Hid (w.heap.size < G6) := Lib.hid (hG6 ▸ N1'.out)
  have HB6 := Lib.hid (bthen HB4.out b1)
  have BX6 := Lib.hid ((b1.block _ (blk_lt BX4.out)).trans BX4.out)
  have HV6 := Lib.hid (HV4.out.below b1)
  have V6d := Lib.hid (show vcells w6 _ _ _ _ _ from (b1.block _ (blk_lt V6c.out)).trans V6c.out)
  have X7d := Lib.hid (show xcells w6 _ _ _ _ _ from (b1.block _ (blk_lt X7c.out)).trans X7c.out)
  have I9d := Lib.hid ((b1.block _ (blk_lt I9c.out)).trans I9c.out)
  have P1c := Lib.hid (P1b.out.below b1)
  have P2c := Lib.hid (P2b.out.below b1)
  clear hlg b1 I9c X7c V6c BX4 HB4 HV4 P1b P2b LG hG6 N1' FI LI
  go_wp2_with fail
  go_loopw [10] (fun d wr => ∃ j : Int, d = .int .i64 j ∧ kf ≤ j ∧ j ≤ kk ∧ Hid (Below w.heap.size w wr) ∧ Hid (Below w6.heap.size w6 wr)) (fun d _ => (intOf d - kf).toNat)
  case atStart => exact ⟨_, rfl, HK.out.2.1, Int.le_refl _, HB6, Lib.hid (Below.refl _ _)⟩
  case round =>
    obtain ⟨j, rfl, hj1, hj2, HBr, HB7⟩ := hrel
    have HVr := Lib.hid (HV6.out.below HB7.out)
    have BXr := Lib.hid ((HB7.out.block _ (blk_lt BX6.out)).trans BX6.out)
    have V6r := Lib.hid (show vcells wr _ _ _ _ _ from (HB7.out.block _ (blk_lt V6d.out)).trans V6d.out)
    have X7r := Lib.hid (show xcells wr _ _ _ _ _ from (HB7.out.block _ (blk_lt X7d.out)).trans X7d.out)
    have I9r := Lib.hid ((HB7.out.block _ (blk_lt I9d.out)).trans I9d.out)
    have P1r := Lib.hid (P1c.out.below HB7.out)
    have P2r := Lib.hid (P2c.out.below HB7.out)
    have HJ := Lib.hid (And.intro hj1 hj2)
    have m1 : IntKind.i64.wrap (j - 1) = j - 1 := IntWalk.i64_in _ (by have := HK.out.2.2.1; omega)
    obtain ⟨d0, d1, d2, d3, d4, d5, d6, d7, d8, -⟩ := nine_free I9r.out
    obtain ⟨e0, e1, e2, e3, -⟩ := four_free X7r.out
    clear hj1 hj2 BX6 V6d X7d I9d
    go_wp2_with fail
    with_reducible (refine (NR.out _ _ _ _ _ _ _ _ _ _ _ HBr.out P1r.out P2r.out HVr.out HJ.out.1 HJ.out.2).mono ?_)
    rintro en w8 ⟨⟨A3, n3, c3, rfl, hd⟩, b1⟩
    have HB8 := Lib.hid (bthen HBr.out b1)
    have HB9 := Lib.hid (bthen HB7.out b1)
    have BX8 := Lib.hid ((b1.block _ (blk_lt BXr.out)).trans BXr.out)
    have V68 := Lib.hid (show vcells w8 _ _ _ _ _ from (b1.block _ (blk_lt V6r.out)).trans V6r.out)
    have HD := Lib.hid hd
    clear b1 hd d0 d1 d2 d3 d4 d5 d6 d7 d8 e0 e1 e2 e3 BXr V6r X7r I9r
    by_cases hjk : j = kf
    · subst hjk
      have HDD := Lib.hid (HD.out rfl)
      obtain ⟨e0, e1, e2, e3, -⟩ := four_free V68.out
      go_wp2_with fail
      with_reducible (refine (DG.out _ _ HDD.out).mono ?_)
      rintro en w9 ⟨⟨A4, n4, c4, rfl, hd⟩, b1⟩
      have HBa := Lib.hid (bthen HB8.out b1)
      have BXa := Lib.hid ((b1.block _ (blk_lt BX8.out)).trans BX8.out)
      have HDa := Lib.hid hd
      clear b1 hd e0 e1 e2 e3 BX8 V68 HB8 HB9
      obtain ⟨d0, d1, d2, f0, f1, f2⟩ := three_free BXa.out
      go_wp2_with fail
      have P3 := put3' (a' := .bool neg) (b' := .slice A4 n4 c4) (c' := .int .i64 j) BXa.out
      have HB3 := Lib.hid (below3 HBa.out (g := w.heap.size) (Nat.le_refl _) (.bool neg) (.slice A4 n4 c4) (.int .i64 j))
      have H3 := Lib.hid (isn_put3 HDa.out BXa.out (.bool neg) (.slice A4 n4 c4) (.int .i64 j))
      clear d0 d1 d2 f0 f1 f2
      obtain ⟨d0, d1, d2, -⟩ := three_free P3
      refine bodyPost_ret (v := .tuple #[.agg #[.bool neg, .slice A4 n4 c4, .int .i64 j], .int .i64 0]) (by simp [results, Tryz.results15, go_sem, d0, d1, d2]) rfl ⟨⟨_, _, _, rfl, H3.out⟩, HB3.out⟩
    · have t1 : decide (j = kf) = false := decide_eq_false hjk
      have HJK := Lib.hid hjk
      clear hjk
      go_wp2_with fail
      go_roundw
      case rel => exact ⟨j - 1, rfl, by have := HJ.out; have := HJK.out; omega, by have := HJ.out; omega, HB8, HB9⟩
      case measure => have := HJ.out; have := HJK.out; simp [intOf]; omega
end Go.Proofs.YtlmeobokpibifaaGreatDoor
end

section
set_option linter.unusedSimpArgs false
set_option linter.unusedVariables false
set_option linter.unusedVariables false
namespace Go.Proofs.YtlmeobokpibifaaGreatDoor
open Go.RowKit

set_option maxRecDepth 100000 in
set_option maxHeartbeats 1000000 in
theorem told_fin (n p mm D : Nat) (neg : Bool) (ee kf : Int) (out : List UInt8) (w : World)
    (DE : Hid (∀ w', Below w.heap.size w w' → Calls Tryz.prog 9 #[.int .i64 n, .int .u64 p] w' fun e w'' => e = .returned (.tuple #[.agg #[.int .i64 2, .bool neg, .int .u64 mm, .int .i64 ee], .int .i64 0]) ∧ Below w'.heap.size w' w''))
    (SH : Hid (∀ w', Below w.heap.size w w' → Calls Tryz.prog 15 #[.int .i64 n, .int .u64 p] w' fun en w'' => (∃ A n c, en = .returned (.tuple #[.agg #[.bool neg, .slice A n c, .int .i64 kf], .int .i64 0]) ∧ IsN w'' (.slice A n c) D) ∧ Below w'.heap.size w' w''))
    (LA : Hid (∀ v w', IsN w' v D → Calls Tryz.prog 32 #[.agg #[.bool neg, v, .int .i64 kf]] w' fun e w'' => e = .returned (tv out) ∧ Below w'.heap.size w' w'')) :
    Calls Tryz.prog 14 #[.int .i64 n, .int .u64 p, .func (.func 15) #[] #[]] w fun e w' => e = .returned (.tuple #[tv out, .int .i64 0]) ∧ Below w.heap.size w w' := by
  have HA := Lib.hid (Below.refl w.heap.size w)
  go_enter Tryz.func14, Tryz.ntmps14
  go_wp2_with fail
  with_reducible (refine (DE.out _ HA.out).mono ?_)
  rintro en w1 ⟨rfl, b1⟩
  have HB1 := Lib.hid (bgrow (bthen HA.out b1) (.cells #[.int .i64 2, .bool neg, .int .u64 mm, .int .i64 ee] 31))
  clear b1
  go_wp2_with fail
  generalize (w1.alloc (.cells #[.int .i64 2, .bool neg, .int .u64 mm, .int .i64 ee] 31)) = W2 at HB1 ⊢
  with_reducible (refine (SH.out _ HB1.out).mono ?_)
  rintro en w3 ⟨⟨A, n3, c, rfl, hd⟩, b3⟩
  have HB3 := Lib.hid (bgrow (bthen HB1.out b3) (.cells #[.bool neg, .slice A n3 c, .int .i64 kf] 84))
  have HD := Lib.hid (hd.alloc (.cells #[.bool neg, .slice A n3 c, .int .i64 kf] 84))
  clear b3 hd
  go_wp2_with fail
  generalize (w3.alloc (.cells #[.bool neg, .slice A n3 c, .int .i64 kf] 84)) = W4 at HB3 HD ⊢
  with_reducible (refine (LA.out _ _ HD.out).mono ?_)
  rintro en w5 ⟨rfl, b5⟩
  have HB5 := Lib.hid (bthen HB3.out b5)
  clear b5
  go_wp2_with fail
  go_ret2
  exact ⟨rfl, HB5.out⟩

theorem print_fin (n p : Nat) (out : List UInt8) (w : World)
    (TO : Hid (Calls Tryz.prog 14 #[.int .i64 n, .int .u64 p, .func (.func 15) #[] #[]] w fun e w' => e = .returned (.tuple #[tv out, .int .i64 0]) ∧ Below w.heap.size w w')) :
    Calls Tryz.prog 7 #[.int .i64 n, .int .u64 p] w fun e w' => e = .returned (.tuple #[tv out, .int .i64 0]) ∧ Below w.heap.size w w' := by
  go_enter Tryz.func7, Tryz.ntmps7
  go_wp2_with fail
  with_reducible (refine TO.out.mono ?_)
  rintro en w5 ⟨rfl, b5⟩
  have HB5 := Lib.hid b5
  clear b5
  go_wp2_with fail
  go_ret2
  exact ⟨rfl, HB5.out⟩
end Go.Proofs.YtlmeobokpibifaaGreatDoor
end

section
set_option linter.unusedSimpArgs false
set_option linter.unusedVariables false
set_option linter.unusedVariables false
namespace Go.Proofs.YtlmeobokpibifaaGreatDoor
open Go.RowKit

/-- where the words of what is told without digits lie, and the word of nought -/
def WordAt (w : World) (m : Nat) : Prop := 1 < w.heap.size ∧ m < w.heap.size ∧ w.cell? { block := 1, off := 0 } = some (.map (some m)) ∧ ∀ w', w'.heap[m]? = w.heap[m]? → (Instr.lookup 87 (.map (some m)) (.int .i64 1) false).run Tryz.prog w' = .ok (tv [48]) w'
theorem WordAt.below {w w' : World} {m : Nat} (h : WordAt w m) (hb : Below w.heap.size w w') : WordAt w' m := by
  obtain ⟨a, b, c, d⟩ := h
  exact ⟨Nat.lt_of_lt_of_le a hb.size, Nat.lt_of_lt_of_le b hb.size, (hb.cell a).trans c, fun w2 e => d w2 (e.trans (hb.block m b))⟩

set_option maxRecDepth 100000 in
set_option maxHeartbeats 1000000 in
theorem told_zero (n p m : Nat) (k wd mn bs : Int) (tp nf nn : Nat) (neg : Bool) (w : World) (hn : 1 ≤ n) (hn2 : n < 15) (hF : FormAt w n k wd mn bs tp nf nn) (hW : WordAt w m)
    (DE : Hid (∀ w', Below w.heap.size w w' → Calls Tryz.prog 9 #[.int .i64 n, .int .u64 p] w' fun e w'' => e = .returned (.tuple #[.agg #[.int .i64 1, .bool neg, .int .u64 0, .int .i64 0], .int .i64 0]) ∧ Below w'.heap.size w' w'')) :
    Calls Tryz.prog 14 #[.int .i64 n, .int .u64 p, .func (.func 15) #[] #[]] w fun e w' => e = .returned (.tuple #[tv (sgl neg [48]), .int .i64 0]) ∧ Below w.heap.size w w' := by
  have HA := Lib.hid (Below.refl w.heap.size w)
  have FO := Lib.hid (fun w' h => form_of n k wd mn bs tp nf nn w' hn hn2 h)
  have HF := Lib.hid hF
  have HW := Lib.hid hW
  clear hF hn hn2 hW
  unfold fv at *
  go_enter Tryz.func14, Tryz.ntmps14
  go_wp2_with fail
  with_reducible (refine (DE.out _ HA.out).mono ?_)
  rintro en w1 ⟨rfl, b1⟩
  have HB1 := Lib.hid (bgrow (bthen HA.out b1) (.cells #[.int .i64 1, .bool neg, .int .u64 0, .int .i64 0] 31))
  have V1 : Hid (vcells (w1.alloc (.cells #[.int .i64 1, .bool neg, .int .u64 0, .int .i64 0] 31)) w1.heap.size 1 neg 0 0) := Lib.hid (Deep.blk_alloc_new _ _)
  clear b1
  unfold vcells at V1
  go_wp2_with fail
  generalize (w1.alloc (.cells #[.int .i64 1, .bool neg, .int .u64 0, .int .i64 0] 31)) = W2 at HB1 V1 ⊢
  with_reducible (refine (FO.out _ (HF.out.below HB1.out)).mono ?_)
  rintro en w3 ⟨rfl, b3⟩
  have bb : Below W2.heap.size W2 (w3.alloc (fbox k wd mn bs tp nf nn)) := bgrow b3 _
  have HB3 := Lib.hid (bthen HB1.out bb)
  have V3 := Lib.hid ((bb.block _ (blk_lt V1.out)).trans V1.out)
  unfold fbox at HB3 V3
  obtain ⟨l3, lm, c3, lk⟩ := HW.out.below HB3.out
  have LK := lk _ rfl
  obtain ⟨d0, d1, d2, d3, -⟩ := four_free V3.out
  clear b3 bb V1 l3 lm
  cases neg
  all_goals
    go_wp2_with fail
    go_ret2
    exact ⟨rfl, HB3.out⟩
end Go.Proofs.YtlmeobokpibifaaGreatDoor
end

section
set_option linter.unusedSimpArgs false
set_option linter.unusedVariables false
set_option linter.unusedVariables false
namespace Go.Proofs.YtlmeobokpibifaaGreatDoor
open Go.RowKit

theorem gForms : Tryz.prog.globalNamed "caliper/forms.forms" = some 2 := by kernel_rfl
theorem tForms : (Tryz.prog.globals[2]?).map (·.type) = some 98 := by kernel_rfl
theorem gNums : Tryz.prog.globalNamed "caliper/value.numbers" = some 3 := by kernel_rfl
theorem tNums : (Tryz.prog.globals[3]?).map (·.type) = some 110 := by kernel_rfl
theorem gWords : Tryz.prog.globalNamed "caliper/print.words" = some 1 := by kernel_rfl
theorem tWords : (Tryz.prog.globals[1]?).map (·.type) = some 87 := by kernel_rfl
theorem cForm : Tryz.prog.cellsOf 56 = 7 := by kernel_rfl
theorem cInt : Tryz.prog.cellsOf 3 = 1 := by kernel_rfl
theorem cWord : Tryz.prog.cellsOf 22 = 1 := by kernel_rfl
theorem gTz : Tryz.prog.globalNamed "math/bits.deBruijn64tab" = some 12 := by kernel_rfl
theorem tTz : (Tryz.prog.globals[12]?).map (·.type) = some 217 := by kernel_rfl

/-- a listed variable, and what it reads as -/
def Lies (P : Program) (w : World) (n : String) (d : DataW Unit) : Prop :=
  ∃ g t cs fuel p, P.globalNamed n = some g ∧ (P.globals[g]?).map (·.type) = some t ∧ w.var? P n = some cs ∧ DataW.trod (fun _ => ()) P w 0 (fun _ => true) false fuel t cs.toList = some (d, p)
theorem lies_of {P : Program} {w : World} {n : String} {d : DataW Unit} : ∀ {l : List (String × DataW Unit)} {ps : List MemPlace}, DataW.LaidVars P w l ps → (n, d) ∈ l → Lies P w n d
  | [], _, _, hm => nomatch hm
  | (m, e) :: r, ps, h, hm => by
    obtain ⟨g, t, cs, fuel, p, q, h1, h2, h3, h4, h5, h6⟩ := h
    cases hm with
    | head => exact ⟨g, t, cs, fuel, p, h1, h2, h3, h4⟩
    | tail _ hm => exact lies_of h5 hm
theorem cell_lt {w : World} {a : Addr} {v : Value} (h : w.cell? a = some v) : a.block < w.heap.size := by
  rcases Nat.lt_or_ge a.block w.heap.size with h1 | h1
  · exact h1
  · unfold World.cell? at h
    rw [Array.getElem?_eq_none h1] at h
    simp at h
section
variable {H : Type} {enc : TypeId × Value → H} {P : Program} {w : World} {base : Nat} {sp : Nat → Bool} {held : Bool}
/-- a field, a number, of an element of an array -/
theorem field_at {t e : TypeId} {n c o : Nat} {fs : Array Field} {cs : List Value} {ds gs : List (DataW H)} {p : List MemPlace} {fuel : Nat} (ht : P.underlying t = some (.array n e)) (he : P.underlying e = some (.struct fs)) (h : DataW.trod enc P w base sp held fuel t cs = some (.agg ds, p)) (ce : P.cellsOf e = c)
    (i j : Nat) (hi : i < n) (hd : ds[i]? = some (.agg gs)) (f : Field) (hf : fs[j]? = some f) {k : IntKind} (hu : P.underlying f.type = some (.int k)) (hc : P.cellsOf f.type = 1) (ho : f.offset = o) (hoc : o < c) {z : Int} (hg : gs[j]? = some (.lit (.int k z))) : cs[i * c + o]? = some (.int k z) := by
  obtain ⟨xs, m, rfl, hx, hl, hxl, hall⟩ := DataW.trod_array ht h
  simp only [Prod.mk.injEq, DataW.agg.injEq] at hx
  obtain ⟨rfl, -⟩ := hx
  have h1 := hall i hi
  rw [List.getElem?_map] at hd
  obtain ⟨x, hxi, hx1⟩ := Option.map_eq_some_iff.1 hd
  rw [hxi, ce] at h1
  obtain ⟨ys, m2, rfl, hy, hl2, hyl, hall2⟩ := DataW.trod_struct he h1
  rw [hy] at hx1
  simp only [DataW.agg.injEq] at hx1
  subst hx1
  have h2 := hall2 j f hf
  rw [List.getElem?_map] at hg
  obtain ⟨y, hyi, hy1⟩ := Option.map_eq_some_iff.1 hg
  rw [hyi, ho, hc] at h2
  obtain ⟨z', hcz, hyz, _⟩ := DataW.trod_int hu h2
  rw [hyz] at hy1
  simp only [DataW.lit.injEq, Lit.int.injEq, true_and] at hy1
  subst hy1
  have h3 := congrArg (·[0]?) hcz
  simp only [List.getElem?_take, List.getElem?_drop] at h3
  simpa [hoc] using h3
theorem elem_func {e : TypeId} {ps rs : Array TypeId} {va : Bool} {n : Nat} {v : Value} {b : UInt8} {r : List UInt8} {f0 : FuncId} {z : DataW (List UInt8) × List MemPlace} (ht : P.underlying e = some (.func ps rs va)) (hone : ((List.range P.funcs.size).filter fun f => (P.funcs[f]?).any (·.name.toUTF8.data.toList == b :: r)) = [f0])
    (h : WideElems.elemAt (funcToken P) P w base sp true n e v = some z) (hz : z.1 = .held (b :: r)) : v = .func (.func f0) #[] #[] := by
  obtain ⟨z1, q⟩ := z
  simp only at hz
  subst hz
  unfold WideElems.elemAt at h
  split at h
  · rename_i hf
    have hv : v.cells.toList = [v] := by
      cases v <;> simp [Value.formed, ht, Value.cells] at hf ⊢
    rw [hv] at h
    exact func_of_trod ht hone h
  · cases h
theorem elem_string {e : TypeId} {n : Nat} {v : Value} {l : List UInt8} {z : DataW H × List MemPlace} (ht : P.underlying e = some .string) (h : WideElems.elemAt enc P w base sp held n e v = some z) (hz : z.1 = .lit (.string l)) : v = .string ⟨l.toArray⟩ := by
  obtain ⟨z1, q⟩ := z
  simp only at hz
  subst hz
  unfold WideElems.elemAt at h
  split at h
  · rename_i hf
    have hv : v.cells.toList = [v] := by
      cases v <;> simp [Value.formed, ht, Value.cells] at hf ⊢
    rw [hv] at h
    cases n with
    | zero => simp [DataW.trod] at h
    | succ n =>
      cases v <;> simp [DataW.trod, ht] at h
      obtain ⟨-, h, -⟩ := h
      subst h
      simp
  · cases h
end

abbrev Cond (W : World) : Prop := laidMetH Tryz.prog Rows.topNamesRow.laid W
theorem cond_forms {W : World} (h : Cond W) {n : String} {d : DataW Unit} (hm : (n, d) ∈ Rows.topNamesRow.laid.filter fun x => x.2.handleName?.isNone) : Lies Tryz.prog W n d := by
  have h1 : laidMet Tryz.prog (Rows.topNamesRow.laid.filter fun x => x.2.handleName?.isNone) W := by
    unfold Cond laidMetH at h
    split at h
    · rename_i e
      have e2 : (Rows.topNamesRow.laid.filter fun x => x.2.handleName?.isSome).length = 1 := by kernel_rfl
      rw [e] at e2
      cases e2
    · exact h.1
  obtain ⟨ps, hv, -⟩ := h1
  exact lies_of hv hm
def formsD : List (DataW Unit) := match Rows.laid_caliper_forms_forms (H := Unit) with | .agg l => l | _ => []
theorem laid_plain : Rows.topNamesRow.laid.filter (fun x => x.2.handleName?.isNone) = [("math/bits.deBruijn32tab", Rows.laid_math_bits_deBruijn32tab), ("math/bits.deBruijn64tab", Rows.laid_math_bits_deBruijn64tab), ("internal/strconv.uint64pow10", Rows.laid_internal_strconv_uint64pow10), ("unicode/utf8.acceptRanges", Rows.laid_unicode_utf8_acceptRanges), ("strconv.ErrRange", Rows.laid_strconv_ErrRange), ("strconv.ErrSyntax", Rows.laid_strconv_ErrSyntax), ("caliper/forms.forms", Rows.laid_caliper_forms_forms), ("caliper/print.words", Rows.laid_caliper_print_words), ("unicode/utf8.first", Rows.laid_unicode_utf8_first)] := by kernel_rfl
theorem form_at {W : World} (h : Cond W) (n : Nat) (hn : n < 15) (k wd mn bs : Int) (tp nf nn : Nat) (hd : formsD[n]? = some (.agg [.lit (.int .i64 k), .lit (.int .i64 wd), .lit (.int .i64 mn), .lit (.int .i64 bs), .lit (.int .u64 tp), .lit (.int .u64 nf), .lit (.int .u64 nn)])) : FormAt W n k wd mn bs tp nf nn := by
  obtain ⟨g, t, cs, fuel, p, hg, ht, hv, hd0⟩ := cond_forms h (n := "caliper/forms.forms") (d := Rows.laid_caliper_forms_forms) (by rw [laid_plain]; simp)
  obtain rfl := Option.some.inj (gForms.symm.trans hg)
  obtain rfl := Option.some.inj (tForms.symm.trans ht)
  have hd1 : DataW.trod (fun _ => ()) Tryz.prog W 0 (fun _ => true) false fuel 98 cs.toList = some (.agg formsD, p) := hd0
  have C := World.var?_cell hg hv
  have a0 := field_at Tryz.underlying98 Tryz.underlying56 hd1 cForm n 0 hn hd _ rfl Tryz.underlying3 cInt rfl (by decide) rfl
  have a1 := field_at Tryz.underlying98 Tryz.underlying56 hd1 cForm n 1 hn hd _ rfl Tryz.underlying3 cInt rfl (by decide) rfl
  have a2 := field_at Tryz.underlying98 Tryz.underlying56 hd1 cForm n 2 hn hd _ rfl Tryz.underlying3 cInt rfl (by decide) rfl
  have a3 := field_at Tryz.underlying98 Tryz.underlying56 hd1 cForm n 3 hn hd _ rfl Tryz.underlying3 cInt rfl (by decide) rfl
  have a4 := field_at Tryz.underlying98 Tryz.underlying56 hd1 cForm n 4 hn hd _ rfl Tryz.underlying22 cWord rfl (by decide) rfl
  have a5 := field_at Tryz.underlying98 Tryz.underlying56 hd1 cForm n 5 hn hd _ rfl Tryz.underlying22 cWord rfl (by decide) rfl
  have a6 := field_at Tryz.underlying98 Tryz.underlying56 hd1 cForm n 6 hn hd _ rfl Tryz.underlying22 cWord rfl (by decide) rfl
  rw [Array.getElem?_toList] at a0 a1 a2 a3 a4 a5 a6
  have b0 := (C _).trans a0
  exact ⟨cell_lt b0, b0, (C _).trans a1, (C _).trans a2, (C _).trans a3, (C _).trans a4, (C _).trans a5, (C _).trans a6⟩

def numsD : DataW Unit := match Rows.laid_caliper_value_numbers (H := Unit) with | .iface _ d => d | d => d
theorem num_at {W : World} (h : Cond W) : ∃ m, ∀ (k : Int) (f : FuncId) (b : UInt8) (r : List UInt8), -9223372036854775808 ≤ k ∧ k ≤ 9223372036854775807 → ((List.range Tryz.prog.funcs.size).filter fun f => (Tryz.prog.funcs[f]?).any (·.name.toUTF8.data.toList == b :: r)) = [f] →
    (numsD.funcsOut).atKey (.int .i64 k) .nil = .held (b :: r) → NumAt W m k f := by
  obtain ⟨g, t, cs, fuel, p, hg, ht, hv, hd⟩ := h.funcs (n := "caliper/value.numbers") (d := numsD) (by simp [Rows.topNamesRow, numsD, Rows.laid_caliper_value_numbers])
  obtain rfl := Option.some.inj (gNums.symm.trans hg)
  obtain rfl := Option.some.inj (tNums.symm.trans ht)
  rcases WideElems.open_map Tryz.underlying110 hd with ⟨_, hx⟩ | ⟨bm, es, clock, m, rfl, hcs, hb, _, F, hx⟩
  · exact absurd (congrArg Prod.fst hx) (by intro e; cases e)
  have hx1 := congrArg Prod.fst hx
  simp only at hx1
  have hcell : W.cell? ⟨3, 0, none⟩ = some (.map (some bm)) := by
    have := World.var?_cell hg hv 0
    rw [Array.eq_one_of_toList hcs] at this
    simpa using this
  refine ⟨bm, fun k f b r hk hone hat => ⟨cell_lt hcell, blk_lt hb, hcell, fun w' hw' => ?_⟩⟩
  have hz : (zeroValue 68).run Tryz.prog w' = .ok .nilFunc w' := by kernel_rfl
  rcases Maps.fit_look (w := w') false (Maps.int_keyed Tryz.underlying3) Tryz.underlying110 hz (hw'.trans hb) F (Maps.keyOf_int_mk Tryz.underlying3 (a := k) (WalkArith.wf_i64 hk)) with ⟨_, _, h3⟩ | ⟨e0, y, _, _, h3, h4, h5, _⟩
  · have := h3 .nil
    rw [← hx1, hat] at this
    cases this
  · have h6 := h5 .nil
    rw [← hx1, hat] at h6
    rw [h3, elem_func Tryz.underlying68 hone h4 h6.symm]
    rfl
theorem word_at {W : World} (h : Cond W) : ∃ m, WordAt W m := by
  obtain ⟨g, t, cs, fuel, p, hg, ht, hv, hd⟩ := cond_forms h (n := "caliper/print.words") (d := Rows.laid_caliper_print_words) (by rw [laid_plain]; simp)
  obtain rfl := Option.some.inj (gWords.symm.trans hg)
  obtain rfl := Option.some.inj (tWords.symm.trans ht)
  rcases WideElems.open_map Tryz.underlying87 hd with ⟨_, hx⟩ | ⟨bm, es, clock, m, rfl, hcs, hb, _, F, hx⟩
  · exact absurd (congrArg Prod.fst hx) (by intro e; cases e)
  have hx1 := congrArg Prod.fst hx
  simp only at hx1
  have hcell : W.cell? ⟨1, 0, none⟩ = some (.map (some bm)) := by
    have := World.var?_cell hg hv 0
    rw [Array.eq_one_of_toList hcs] at this
    simpa using this
  refine ⟨bm, cell_lt hcell, blk_lt hb, hcell, fun w' hw' => ?_⟩
  have hz : (zeroValue 9).run Tryz.prog w' = .ok (.string ⟨#[]⟩) w' := by kernel_rfl
  have hat : (Rows.laid_caliper_print_words (H := Unit)).atKey (.int .i64 1) .nil = .lit (.string [48]) := by kernel_rfl
  rcases Maps.fit_look (w := w') false (Maps.int_keyed Tryz.underlying3) Tryz.underlying87 hz (hw'.trans hb) F (Maps.keyOf_int_mk Tryz.underlying3 (a := 1) (by decide)) with ⟨_, _, h3⟩ | ⟨e0, y, _, _, h3, h4, h5, _⟩
  · have := h3 .nil
    rw [← hx1, hat] at this
    cases this
  · have h6 := h5 .nil
    rw [← hx1, hat] at h6
    rw [h3, elem_string Tryz.underlying9 h4 h6.symm]
    rfl
theorem tab_at {W : World} (h : Cond W) : Tab W := by
  obtain ⟨g, t, cs, fuel, p, hg, ht, hv, hd⟩ := cond_forms h (n := "math/bits.deBruijn64tab") (d := Rows.laid_math_bits_deBruijn64tab) (by rw [laid_plain]; simp)
  obtain rfl := Option.some.inj (gTz.symm.trans hg)
  obtain rfl := Option.some.inj (tTz.symm.trans ht)
  have e : (Rows.laid_math_bits_deBruijn64tab (H := Unit)) = Lib.tabData .u8 (Lib.deBruijn64tab.map Int.ofNat) := by kernel_rfl
  rw [e] at hd
  have hc := Lib.cells_of_tab Tryz.underlying217 Tryz.underlying5 (by kernel_rfl) (by kernel_rfl) hd
  intro j hj
  rw [World.var?_cell hg hv j, ← Array.getElem?_toList, hc, List.getElem?_map, List.getElem?_map, List.getElem?_eq_getElem hj, List.getD_eq_getElem?_getD, List.getElem?_eq_getElem hj]
  rfl
end Go.Proofs.YtlmeobokpibifaaGreatDoor
end

/- caliperlaw02.ExactOf walked: one of four ways. Conditions: as the theorem names them. -/
import Derived.Test.YteiajccjlbghoaaXOfa
import Derived.Deep.RegionHeld3
set_option linter.unusedVariables false
namespace Go.Proofs.Yteiajccjlbghoaa
open Go.RowKit

set_option maxRecDepth 100000 in
set_option maxHeartbeats 80000000 in
theorem walk_ExactOf2 (neg : Bool) (A : Option Addr) (n c : Nat) (F : Nat → Nat) (s f : Int) (cl : Int) (vn : Bool) (m : Nat) (ve : Int) (l d : Nat) (G : Nat → Nat) (k : Int) (w : World) (hA : RdW w A n c F) (hm : m < 18446744073709551616) (hB : RdW w none l d G) (wk : (Lit.int .i64 k).wf = true) (hy : ¬ cl = 1 ∧ ¬ (cl = 2 ∧ inB ve = true)) :
    Calls Try.prog 4 #[xv neg (.slice A n c) s f, vv cl vn m ve, .slice none l d, .int .i64 k] w fun e w' => e = .returned (.bool true) ∧ Below w.heap.size w w' := by
  have HA := Lib.hid hA
  have HM := Lib.hid hm
  obtain ⟨t, ht⟩ : ∃ t, min l 130 = t := ⟨_, rfl⟩
  have htl : t ≤ l := by omega
  have ht130 : t ≤ 130 := by omega
  have hld := hB.len
  have hsm := hB.small
  have htd : t ≤ d := by omega
  have hti : min (l : Int) 130 = (t : Int) := by omega
  have htdi : (t : Int) ≤ (d : Int) := by omega
  have ht0 : (0 : Int) ≤ (t : Int) := by omega
  have HR := Lib.hid (hB.first htl (by omega))
  clear hA hB wk hm
  unfold xv vv
  · have HY := Lib.hid hy
    clear hy
    have hmin : (min (0 : Int) 130) = 0 := by decide
    obtain rfl : d = 0 := HR.out.2.2.1 rfl
    obtain rfl : l = 0 := by omega
    obtain rfl : t = 0 := by omega
    clear htl hld htd hti htdi ht0 ht
    go_enter Try.func4, Try.ntmps4
    go_wp2_with fail
    refine at_world ?_
    intro W1 hW1
    have G_1 : Hid (Below w.heap.size w W1) := Lib.hid (by rw [hW1]; exact bgrow (bgrow (Below.refl _ _) _) _)
    have X_2 : Hid (XB W1 w.heap.size neg (.slice A n c) s f) := Lib.hid (by rw [hW1]; exact (XB.new w _ _ _ _).alloc _)
    have V_3 : Hid (VB W1 (w.heap.size + 1) cl vn m ve) := Lib.hid (by rw [hW1]; have hh := VB.new (w.alloc (.cells #[.bool neg, .slice A n c, .int .i64 s, .int .i64 f] 25)) cl vn m ve; simpa using hh)
    have R_4 : Hid (RdW W1 A n c F) := Lib.hid (HA.out.below G_1.out)
    clear hW1
    clear HA HR
    have C1 := Lib.hid (shown_true W1)
    with_reducible (refine C1.out.mono ?_)
    rintro e w1 ⟨rfl, b1⟩
    have G_5 := Lib.hid (bthen G_1.out b1)
    have X_5 := Lib.hid (X_2.out.below b1)
    have V_5 := Lib.hid (V_3.out.below b1)
    have R_5 := Lib.hid (R_4.out.below b1)
    clear G_1 X_2 V_3 R_4
    clear b1 C1
    have HS1 := Lib.hid G_5.out.size
    obtain ⟨v1a, v1b, v1c, v1d, v1l, v1n⟩ := V_5.out.cells
    obtain ⟨q1a, q1b, q1c, q1d, q1e, q1f, q1g, q1h, q1i, q1j⟩ := X_5.out.cells
    go_wp2_with fail
    refine at_world ?_
    intro W2 hW2
    clear q1a q1b q1c q1d q1e q1f q1g q1h q1i q1j
    clear v1a v1b v1c v1d v1l v1n
    have G_6 : Hid (Below w.heap.size w W2) := Lib.hid (by rw [hW2]; exact (bgrow G_5.out _))
    have X_6 : Hid (XB W2 w.heap.size neg (.slice A n c) s f) := Lib.hid (by rw [hW2]; exact (X_5.out.alloc _))
    have V_6 : Hid (VB W2 (w.heap.size + 1) cl vn m ve) := Lib.hid (by rw [hW2]; exact (V_5.out.alloc _))
    have R_6 : Hid (RdW W2 A n c F) := Lib.hid (by rw [hW2]; exact (R_5.out.alloc _))
    clear G_5 X_5 V_5 R_5
    have D_7 : Hid (Rd W2 (some { block := w1.heap.size, off := 0 }) 0 0 G) := Lib.hid (⟨Nat.le_refl _, by decide, fun h => by simp at h, fun i hi => absurd hi (Nat.not_lt_zero _), fun h => absurd h (Nat.lt_irrefl _)⟩)
    clear hW2
    have D2 := Lib.hid (of_no cl vn m ve W2 HM.out HY.out)
    have D3 := Lib.hid (fun w1 => rof_no cl vn m ve w1 HM.out HY.out)
    unfold xv vv at D2 D3
    with_reducible (refine D2.out.mono ?_)
    rintro _ w3 ⟨rfl, b3⟩
    have G_8 := Lib.hid (bthen G_6.out b3)
    have X_8 := Lib.hid (X_6.out.below b3)
    have V_8 := Lib.hid (V_6.out.below b3)
    have R_8 := Lib.hid (R_6.out.below b3)
    have D_8 := Lib.hid (D_7.out.below b3)
    clear G_6 X_6 V_6 R_6 D_7
    clear b3 D2
    obtain ⟨v2a, v2b, v2c, v2d, v2l, v2n⟩ := V_8.out.cells
    obtain ⟨q2a, q2b, q2c, q2d, q2e, q2f, q2g, q2h, q2i, q2j⟩ := X_8.out.cells
    go_wp2_with fail
    refine at_world ?_
    intro W4 hW4
    clear q2a q2b q2c q2d q2e q2f q2g q2h q2i q2j
    clear v2a v2b v2c v2d v2l v2n
    have G_9 : Hid (Below w.heap.size w W4) := Lib.hid (by rw [hW4]; exact (bgrow G_8.out _))
    have X_9 : Hid (XB W4 w.heap.size neg (.slice A n c) s f) := Lib.hid (by rw [hW4]; exact (X_8.out.alloc _))
    have V_9 : Hid (VB W4 (w.heap.size + 1) cl vn m ve) := Lib.hid (by rw [hW4]; exact (V_8.out.alloc _))
    have R_9 : Hid (RdW W4 A n c F) := Lib.hid (by rw [hW4]; exact (R_8.out.alloc _))
    have D_9 : Hid (Rd W4 (some { block := w1.heap.size, off := 0 }) 0 0 G) := Lib.hid (by rw [hW4]; exact (D_8.out.alloc _))
    clear G_8 X_8 V_8 R_8 D_8
    have P_10 : Hid (XB W4 w3.heap.size false (.slice none 0 0) 0 0) := Lib.hid (by rw [hW4]; exact XB.new _ _ _ _ _)
    clear hW4
    with_reducible (refine (D3.out W4).mono ?_)
    rintro _ w4 ⟨rfl, b4⟩
    have G_11 := Lib.hid (bthen G_9.out b4)
    have X_11 := Lib.hid (X_9.out.below b4)
    have V_11 := Lib.hid (V_9.out.below b4)
    have R_11 := Lib.hid (R_9.out.below b4)
    have D_11 := Lib.hid (D_9.out.below b4)
    have P_11 := Lib.hid (P_10.out.below b4)
    clear G_9 X_9 V_9 R_9 D_9 P_10
    clear b4 D3
    obtain ⟨rb, hrb⟩ : ∃ rb, rightB n F s f = rb := ⟨_, rfl⟩
    have KR := Lib.hid (fun w1 h => right_any neg A n c F s f rb w1 h hrb)
    have KQ := Lib.hid (fun w1 h => rright_any neg A n c F s f rb w1 h hrb)
    unfold xv at KR KQ
    clear hrb
    obtain ⟨v3a, v3b, v3c, v3d, v3l, v3n⟩ := V_11.out.cells
    obtain ⟨q3a, q3b, q3c, q3d, q3e, q3f, q3g, q3h, q3i, q3j⟩ := X_11.out.cells
    obtain ⟨q4a, q4b, q4c, q4d, q4e, q4f, q4g, q4h, q4i, q4j⟩ := P_11.out.cells
    go_wp2_with fail
    refine at_code ?_
    intro W5 hW5
    clear q3a q3b q3c q3d q3e q3f q3g q3h q3i q3j q4a q4b q4c q4d q4e q4f q4g q4h q4i q4j
    clear v3a v3b v3c v3d v3l v3n
    have G_12 : Hid (Below w.heap.size w W5) := Lib.hid (by rw [hW5]; exact (bgrow G_11.out _))
    have X_12 : Hid (XB W5 w.heap.size neg (.slice A n c) s f) := Lib.hid (by rw [hW5]; exact (X_11.out.alloc _))
    have V_12 : Hid (VB W5 (w.heap.size + 1) cl vn m ve) := Lib.hid (by rw [hW5]; exact (V_11.out.alloc _))
    have R_12 : Hid (RdW W5 A n c F) := Lib.hid (by rw [hW5]; exact (R_11.out.alloc _))
    have D_12 : Hid (Rd W5 (some { block := w1.heap.size, off := 0 }) 0 0 G) := Lib.hid (by rw [hW5]; exact (D_11.out.alloc _))
    have P_12 : Hid (XB W5 w3.heap.size false (.slice none 0 0) 0 0) := Lib.hid (by rw [hW5]; exact (P_11.out.alloc _))
    clear G_11 X_11 V_11 R_11 D_11 P_11
    have Q_13 : Hid (XB W5 w4.heap.size false (.slice none 0 0) 0 0) := Lib.hid (by rw [hW5]; exact XB.new _ _ _ _ _)
    clear hW5
    have K1_5 : Hid (∀ w', Hid (Below W5.heap.size W5 w') → Hid (Below W5.heap.size W5 w') ∧ (w'.cell? { block := w.heap.size, off := 0 } = some (.bool neg) ∧ w'.cell? { block := w.heap.size, off := 1 } = some (.slice A n c) ∧ w'.cell? { block := w.heap.size, off := 2 } = some (.int .i64 s) ∧ w'.cell? { block := w.heap.size, off := 3 } = some (.int .i64 f)) ∧ (w'.cell? { block := w3.heap.size, off := 0 } = some (.bool false) ∧ w'.cell? { block := w3.heap.size, off := 1 } = some (.slice none 0 0) ∧ w'.cell? { block := w3.heap.size, off := 2 } = some (.int .i64 0) ∧ w'.cell? { block := w3.heap.size, off := 3 } = some (.int .i64 0)) ∧ (w'.cell? { block := w4.heap.size, off := 0 } = some (.bool false) ∧ w'.cell? { block := w4.heap.size, off := 1 } = some (.slice none 0 0) ∧ w'.cell? { block := w4.heap.size, off := 2 } = some (.int .i64 0) ∧ w'.cell? { block := w4.heap.size, off := 3 } = some (.int .i64 0))) := Lib.hid (fun w' h => ⟨h, (X_12.out.below h.out).four, (P_12.out.below h.out).four, (Q_13.out.below h.out).four⟩)
    have KS_5 := Lib.hid (fun w1 w2 (h : Hid (Below W5.heap.size W5 w1)) (b : Below w1.heap.size w1 w2) => K1_5.out w2 (hbthen h b))
    refine wp_region_held_drew (S := fun w' => Hid (Below W5.heap.size W5 w') ∧ (w'.cell? { block := w.heap.size, off := 0 } = some (.bool neg) ∧ w'.cell? { block := w.heap.size, off := 1 } = some (.slice A n c) ∧ w'.cell? { block := w.heap.size, off := 2 } = some (.int .i64 s) ∧ w'.cell? { block := w.heap.size, off := 3 } = some (.int .i64 f)) ∧ (w'.cell? { block := w3.heap.size, off := 0 } = some (.bool false) ∧ w'.cell? { block := w3.heap.size, off := 1 } = some (.slice none 0 0) ∧ w'.cell? { block := w3.heap.size, off := 2 } = some (.int .i64 0) ∧ w'.cell? { block := w3.heap.size, off := 3 } = some (.int .i64 0)) ∧ (w'.cell? { block := w4.heap.size, off := 0 } = some (.bool false) ∧ w'.cell? { block := w4.heap.size, off := 1 } = some (.slice none 0 0) ∧ w'.cell? { block := w4.heap.size, off := 2 } = some (.int .i64 0) ∧ w'.cell? { block := w4.heap.size, off := 3 } = some (.int .i64 0))) (by kernel_rfl) (K1_5.out _ (Lib.hid (bdrewN (Below.refl _ _) 1))) (fun hH => ?_)
    refine take_p (i := 0) (oi := ?_) (v := ?_) ?_ ?_ ?_ ?_ ?_ ?_ ?_ hH ?_
    rotate_left 2
    · (simp only [List.getElem?_toArray, List.getElem?_cons_succ, List.getElem?_cons_zero]; rfl)
    · kernel_rfl
    · kernel_rfl
    · kernel_rfl
    · exact fun _ _ _ h => h
    · rfl
    · (intro w hSw; (try dsimp only at hSw); go_simp; all_goals (with_reducible rfl))
    try simp only [Act.put, List.setIfInBounds_toArray, List.set_cons_zero, List.set_cons_succ]
    refine take_p (i := 2) (oi := ?_) (v := ?_) ?_ ?_ ?_ ?_ ?_ ?_ ?_ hH ?_
    rotate_left 2
    · (simp only [List.getElem?_toArray, List.getElem?_cons_succ, List.getElem?_cons_zero]; rfl)
    · kernel_rfl
    · kernel_rfl
    · kernel_rfl
    · exact fun _ _ _ h => h
    · rfl
    · (intro w hSw; (try dsimp only at hSw); go_simp; all_goals (with_reducible rfl))
    try simp only [Act.put, List.setIfInBounds_toArray, List.set_cons_zero, List.set_cons_succ]
    refine wpAnyH_ready (rs := [1]) (by kernel_rfl) (by simp) ?_
    refine AllReadyH.cons rfl (fun K hK => ?_) AllReadyH.nil
    go_simp
    go_at_call 23
    with_reducible (refine Calls.mono (KR.out _ (R_12.out.below hH.1.out)) ?_)
    rintro e wz1 ⟨rfl, bz⟩
    go_simp
    refine hK.out _ _ (KS_5.out _ _ hH.1 bz) (fun hHeld => ?_)
    clear hK K
    replace hH := hHeld
    clear hHeld bz
    try simp only [Act.put, List.setIfInBounds_toArray, List.set_cons_zero, List.set_cons_succ]
    refine wpAnyH_ready (rs := [3]) (by kernel_rfl) (by simp) ?_
    refine AllReadyH.cons rfl (fun K hK => ?_) AllReadyH.nil
    go_simp
    go_at_call 24
    with_reducible (refine Calls.mono (KQ.out _ (R_12.out.below hH.1.out)) ?_)
    rintro e wz2 ⟨rfl, bz⟩
    go_simp
    refine hK.out _ _ (KS_5.out _ _ hH.1 bz) (fun hHeld => ?_)
    clear hK K
    replace hH := hHeld
    clear hHeld bz
    try simp only [Act.put, List.setIfInBounds_toArray, List.set_cons_zero, List.set_cons_succ]
    refine take_p (i := 4) (oi := ?_) (v := ?_) ?_ ?_ ?_ ?_ ?_ ?_ ?_ hH ?_
    rotate_left 2
    · (simp only [List.getElem?_toArray, List.getElem?_cons_succ, List.getElem?_cons_zero]; rfl)
    · kernel_rfl
    · kernel_rfl
    · kernel_rfl
    · exact fun _ _ _ h => h
    · rfl
    · (intro w hSw; (try dsimp only at hSw); go_simp; all_goals (with_reducible rfl))
    try simp only [Act.put, List.setIfInBounds_toArray, List.set_cons_zero, List.set_cons_succ]
    refine take_p (i := 5) (oi := ?_) (v := ?_) ?_ ?_ ?_ ?_ ?_ ?_ ?_ hH ?_
    rotate_left 2
    · (simp only [List.getElem?_toArray, List.getElem?_cons_succ, List.getElem?_cons_zero]; rfl)
    · kernel_rfl
    · kernel_rfl
    · kernel_rfl
    · exact fun _ _ _ h => h
    · rfl
    · (intro w hSw; (try dsimp only at hSw); go_simp; all_goals (with_reducible rfl))
    try simp only [Act.put, List.setIfInBounds_toArray, List.set_cons_zero, List.set_cons_succ]
    refine take_p (i := 6) (oi := ?_) (v := ?_) ?_ ?_ ?_ ?_ ?_ ?_ ?_ hH ?_
    rotate_left 2
    · (simp only [List.getElem?_toArray, List.getElem?_cons_succ, List.getElem?_cons_zero]; rfl)
    · kernel_rfl
    · kernel_rfl
    · kernel_rfl
    · exact fun _ _ _ h => h
    · rfl
    · (intro w hSw; (try dsimp only at hSw); go_simp; all_goals (with_reducible rfl))
    try simp only [Act.put, List.setIfInBounds_toArray, List.set_cons_zero, List.set_cons_succ]
    refine take_p (i := 7) (oi := ?_) (v := ?_) ?_ ?_ ?_ ?_ ?_ ?_ ?_ hH ?_
    rotate_left 2
    · (simp only [List.getElem?_toArray, List.getElem?_cons_succ, List.getElem?_cons_zero]; rfl)
    · kernel_rfl
    · kernel_rfl
    · kernel_rfl
    · exact fun _ _ _ h => h
    · rfl
    · (intro w hSw; (try dsimp only at hSw); go_simp; all_goals (with_reducible rfl))
    try simp only [Act.put, List.setIfInBounds_toArray, List.set_cons_zero, List.set_cons_succ]
    refine take_p (i := 8) (oi := ?_) (v := ?_) ?_ ?_ ?_ ?_ ?_ ?_ ?_ hH ?_
    rotate_left 2
    · (simp only [List.getElem?_toArray, List.getElem?_cons_succ, List.getElem?_cons_zero]; rfl)
    · kernel_rfl
    · kernel_rfl
    · kernel_rfl
    · exact fun _ _ _ h => h
    · rfl
    · (intro w hSw; (try dsimp only at hSw); go_simp; all_goals (with_reducible rfl))
    try simp only [Act.put, List.setIfInBounds_toArray, List.set_cons_zero, List.set_cons_succ]
    refine take_p (i := 9) (oi := ?_) (v := ?_) ?_ ?_ ?_ ?_ ?_ ?_ ?_ hH ?_
    rotate_left 2
    · (simp only [List.getElem?_toArray, List.getElem?_cons_succ, List.getElem?_cons_zero]; rfl)
    · kernel_rfl
    · kernel_rfl
    · kernel_rfl
    · exact fun _ _ _ h => h
    · rfl
    · (intro w hSw; (try dsimp only at hSw); go_simp; all_goals (with_reducible rfl))
    try simp only [Act.put, List.setIfInBounds_toArray, List.set_cons_zero, List.set_cons_succ]
    refine take_p (i := 10) (oi := ?_) (v := ?_) ?_ ?_ ?_ ?_ ?_ ?_ ?_ hH ?_
    rotate_left 2
    · (simp only [List.getElem?_toArray, List.getElem?_cons_succ, List.getElem?_cons_zero]; rfl)
    · kernel_rfl
    · kernel_rfl
    · kernel_rfl
    · exact fun _ _ _ h => h
    · rfl
    · (intro w hSw; (try dsimp only at hSw); go_simp; all_goals (with_reducible rfl))
    try simp only [Act.put, List.setIfInBounds_toArray, List.set_cons_zero, List.set_cons_succ]
    refine take_p (i := 11) (oi := ?_) (v := ?_) ?_ ?_ ?_ ?_ ?_ ?_ ?_ hH ?_
    rotate_left 2
    · (simp only [List.getElem?_toArray, List.getElem?_cons_succ, List.getElem?_cons_zero]; rfl)
    · kernel_rfl
    · kernel_rfl
    · kernel_rfl
    · exact fun _ _ _ h => h
    · rfl
    · (intro w hSw; (try dsimp only at hSw); go_simp; all_goals (with_reducible rfl))
    try simp only [Act.put, List.setIfInBounds_toArray, List.set_cons_zero, List.set_cons_succ]
    refine take_p (i := 12) (oi := ?_) (v := ?_) ?_ ?_ ?_ ?_ ?_ ?_ ?_ hH ?_
    rotate_left 2
    · (simp only [List.getElem?_toArray, List.getElem?_cons_succ, List.getElem?_cons_zero]; rfl)
    · kernel_rfl
    · kernel_rfl
    · kernel_rfl
    · exact fun _ _ _ h => h
    · rfl
    · (intro w hSw; (try dsimp only at hSw); go_simp; all_goals (with_reducible rfl))
    try simp only [Act.put, List.setIfInBounds_toArray, List.set_cons_zero, List.set_cons_succ]
    refine take_u (i := 13) (oi := ?_) ?_ ?_ ?_ ?_ ?_ ?_ hH ?_
    rotate_left 1
    · (simp only [List.getElem?_toArray, List.getElem?_cons_succ, List.getElem?_cons_zero]; rfl)
    · kernel_rfl
    · kernel_rfl
    · kernel_rfl
    · exact fun _ _ _ h => h
    · rfl
    try simp only [Act.put, List.setIfInBounds_toArray, List.set_cons_zero, List.set_cons_succ]
    refine take_u (i := 14) (oi := ?_) ?_ ?_ ?_ ?_ ?_ ?_ hH ?_
    rotate_left 1
    · (simp only [List.getElem?_toArray, List.getElem?_cons_succ, List.getElem?_cons_zero]; rfl)
    · kernel_rfl
    · kernel_rfl
    · kernel_rfl
    · exact fun _ _ _ h => h
    · rfl
    try simp only [Act.put, List.setIfInBounds_toArray, List.set_cons_zero, List.set_cons_succ]
    refine take_u (i := 15) (oi := ?_) ?_ ?_ ?_ ?_ ?_ ?_ hH ?_
    rotate_left 1
    · (simp only [List.getElem?_toArray, List.getElem?_cons_succ, List.getElem?_cons_zero]; rfl)
    · kernel_rfl
    · kernel_rfl
    · kernel_rfl
    · exact fun _ _ _ h => h
    · rfl
    try simp only [Act.put, List.setIfInBounds_toArray, List.set_cons_zero, List.set_cons_succ]
    refine take_u (i := 16) (oi := ?_) ?_ ?_ ?_ ?_ ?_ ?_ hH ?_
    rotate_left 1
    · (simp only [List.getElem?_toArray, List.getElem?_cons_succ, List.getElem?_cons_zero]; rfl)
    · kernel_rfl
    · kernel_rfl
    · kernel_rfl
    · exact fun _ _ _ h => h
    · rfl
    try simp only [Act.put, List.setIfInBounds_toArray, List.set_cons_zero, List.set_cons_succ]
    refine take_u (i := 17) (oi := ?_) ?_ ?_ ?_ ?_ ?_ ?_ hH ?_
    rotate_left 1
    · (simp only [List.getElem?_toArray, List.getElem?_cons_succ, List.getElem?_cons_zero]; rfl)
    · kernel_rfl
    · kernel_rfl
    · kernel_rfl
    · exact fun _ _ _ h => h
    · rfl
    try simp only [Act.put, List.setIfInBounds_toArray, List.set_cons_zero, List.set_cons_succ]
    refine take_u (i := 18) (oi := ?_) ?_ ?_ ?_ ?_ ?_ ?_ hH ?_
    rotate_left 1
    · (simp only [List.getElem?_toArray, List.getElem?_cons_succ, List.getElem?_cons_zero]; rfl)
    · kernel_rfl
    · kernel_rfl
    · kernel_rfl
    · exact fun _ _ _ h => h
    · rfl
    try simp only [Act.put, List.setIfInBounds_toArray, List.set_cons_zero, List.set_cons_succ]
    refine take_u (i := 19) (oi := ?_) ?_ ?_ ?_ ?_ ?_ ?_ hH ?_
    rotate_left 1
    · (simp only [List.getElem?_toArray, List.getElem?_cons_succ, List.getElem?_cons_zero]; rfl)
    · kernel_rfl
    · kernel_rfl
    · kernel_rfl
    · exact fun _ _ _ h => h
    · rfl
    try simp only [Act.put, List.setIfInBounds_toArray, List.set_cons_zero, List.set_cons_succ]
    refine take_u (i := 20) (oi := ?_) ?_ ?_ ?_ ?_ ?_ ?_ hH ?_
    rotate_left 1
    · (simp only [List.getElem?_toArray, List.getElem?_cons_succ, List.getElem?_cons_zero]; rfl)
    · kernel_rfl
    · kernel_rfl
    · kernel_rfl
    · exact fun _ _ _ h => h
    · rfl
    try simp only [Act.put, List.setIfInBounds_toArray, List.set_cons_zero, List.set_cons_succ]
    refine take_u (i := 21) (oi := ?_) ?_ ?_ ?_ ?_ ?_ ?_ hH ?_
    rotate_left 1
    · (simp only [List.getElem?_toArray, List.getElem?_cons_succ, List.getElem?_cons_zero]; rfl)
    · kernel_rfl
    · kernel_rfl
    · kernel_rfl
    · exact fun _ _ _ h => h
    · rfl
    try simp only [Act.put, List.setIfInBounds_toArray, List.set_cons_zero, List.set_cons_succ]
    refine take_u (i := 22) (oi := ?_) ?_ ?_ ?_ ?_ ?_ ?_ hH ?_
    rotate_left 1
    · (simp only [List.getElem?_toArray, List.getElem?_cons_succ, List.getElem?_cons_zero]; rfl)
    · kernel_rfl
    · kernel_rfl
    · kernel_rfl
    · exact fun _ _ _ h => h
    · rfl
    try simp only [Act.put, List.setIfInBounds_toArray, List.set_cons_zero, List.set_cons_succ]
    refine take_u (i := 23) (oi := ?_) ?_ ?_ ?_ ?_ ?_ ?_ hH ?_
    rotate_left 1
    · (simp only [List.getElem?_toArray, List.getElem?_cons_succ, List.getElem?_cons_zero]; rfl)
    · kernel_rfl
    · kernel_rfl
    · kernel_rfl
    · exact fun _ _ _ h => h
    · rfl
    try simp only [Act.put, List.setIfInBounds_toArray, List.set_cons_zero, List.set_cons_succ]
    refine take_u (i := 24) (oi := ?_) ?_ ?_ ?_ ?_ ?_ ?_ hH ?_
    rotate_left 1
    · (simp only [List.getElem?_toArray, List.getElem?_cons_succ, List.getElem?_cons_zero]; rfl)
    · kernel_rfl
    · kernel_rfl
    · kernel_rfl
    · exact fun _ _ _ h => h
    · rfl
    try simp only [Act.put, List.setIfInBounds_toArray, List.set_cons_zero, List.set_cons_succ]
    refine take_u (i := 25) (oi := ?_) ?_ ?_ ?_ ?_ ?_ ?_ hH ?_
    rotate_left 1
    · (simp only [List.getElem?_toArray, List.getElem?_cons_succ, List.getElem?_cons_zero]; rfl)
    · kernel_rfl
    · kernel_rfl
    · kernel_rfl
    · exact fun _ _ _ h => h
    · rfl
    try simp only [Act.put, List.setIfInBounds_toArray, List.set_cons_zero, List.set_cons_succ]
    refine take_u (i := 26) (oi := ?_) ?_ ?_ ?_ ?_ ?_ ?_ hH ?_
    rotate_left 1
    · (simp only [List.getElem?_toArray, List.getElem?_cons_succ, List.getElem?_cons_zero]; rfl)
    · kernel_rfl
    · kernel_rfl
    · kernel_rfl
    · exact fun _ _ _ h => h
    · rfl
    try simp only [Act.put, List.setIfInBounds_toArray, List.set_cons_zero, List.set_cons_succ]
    refine take_u (i := 27) (oi := ?_) ?_ ?_ ?_ ?_ ?_ ?_ hH ?_
    rotate_left 1
    · (simp only [List.getElem?_toArray, List.getElem?_cons_succ, List.getElem?_cons_zero]; rfl)
    · kernel_rfl
    · kernel_rfl
    · kernel_rfl
    · exact fun _ _ _ h => h
    · rfl
    try simp only [Act.put, List.setIfInBounds_toArray, List.set_cons_zero, List.set_cons_succ]
    refine take_u (i := 28) (oi := ?_) ?_ ?_ ?_ ?_ ?_ ?_ hH ?_
    rotate_left 1
    · (simp only [List.getElem?_toArray, List.getElem?_cons_succ, List.getElem?_cons_zero]; rfl)
    · kernel_rfl
    · kernel_rfl
    · kernel_rfl
    · exact fun _ _ _ h => h
    · rfl
    try simp only [Act.put, List.setIfInBounds_toArray, List.set_cons_zero, List.set_cons_succ]
    refine take_u (i := 29) (oi := ?_) ?_ ?_ ?_ ?_ ?_ ?_ hH ?_
    rotate_left 1
    · (simp only [List.getElem?_toArray, List.getElem?_cons_succ, List.getElem?_cons_zero]; rfl)
    · kernel_rfl
    · kernel_rfl
    · kernel_rfl
    · exact fun _ _ _ h => h
    · rfl
    try simp only [Act.put, List.setIfInBounds_toArray, List.set_cons_zero, List.set_cons_succ]
    refine take_u (i := 30) (oi := ?_) ?_ ?_ ?_ ?_ ?_ ?_ hH ?_
    rotate_left 1
    · (simp only [List.getElem?_toArray, List.getElem?_cons_succ, List.getElem?_cons_zero]; rfl)
    · kernel_rfl
    · kernel_rfl
    · kernel_rfl
    · exact fun _ _ _ h => h
    · rfl
    try simp only [Act.put, List.setIfInBounds_toArray, List.set_cons_zero, List.set_cons_succ]
    refine take_u (i := 31) (oi := ?_) ?_ ?_ ?_ ?_ ?_ ?_ hH ?_
    rotate_left 1
    · (simp only [List.getElem?_toArray, List.getElem?_cons_succ, List.getElem?_cons_zero]; rfl)
    · kernel_rfl
    · kernel_rfl
    · kernel_rfl
    · exact fun _ _ _ h => h
    · rfl
    try simp only [Act.put, List.setIfInBounds_toArray, List.set_cons_zero, List.set_cons_succ]
    refine take_u (i := 32) (oi := ?_) ?_ ?_ ?_ ?_ ?_ ?_ hH ?_
    rotate_left 1
    · (simp only [List.getElem?_toArray, List.getElem?_cons_succ, List.getElem?_cons_zero]; rfl)
    · kernel_rfl
    · kernel_rfl
    · kernel_rfl
    · exact fun _ _ _ h => h
    · rfl
    try simp only [Act.put, List.setIfInBounds_toArray, List.set_cons_zero, List.set_cons_succ]
    refine take_u (i := 33) (oi := ?_) ?_ ?_ ?_ ?_ ?_ ?_ hH ?_
    rotate_left 1
    · (simp only [List.getElem?_toArray, List.getElem?_cons_succ, List.getElem?_cons_zero]; rfl)
    · kernel_rfl
    · kernel_rfl
    · kernel_rfl
    · exact fun _ _ _ h => h
    · rfl
    try simp only [Act.put, List.setIfInBounds_toArray, List.set_cons_zero, List.set_cons_succ]
    refine take_u (i := 34) (oi := ?_) ?_ ?_ ?_ ?_ ?_ ?_ hH ?_
    rotate_left 1
    · (simp only [List.getElem?_toArray, List.getElem?_cons_succ, List.getElem?_cons_zero]; rfl)
    · kernel_rfl
    · kernel_rfl
    · kernel_rfl
    · exact fun _ _ _ h => h
    · rfl
    try simp only [Act.put, List.setIfInBounds_toArray, List.set_cons_zero, List.set_cons_succ]
    refine take_u (i := 35) (oi := ?_) ?_ ?_ ?_ ?_ ?_ ?_ hH ?_
    rotate_left 1
    · (simp only [List.getElem?_toArray, List.getElem?_cons_succ, List.getElem?_cons_zero]; rfl)
    · kernel_rfl
    · kernel_rfl
    · kernel_rfl
    · exact fun _ _ _ h => h
    · rfl
    try simp only [Act.put, List.setIfInBounds_toArray, List.set_cons_zero, List.set_cons_succ]
    refine take_u (i := 36) (oi := ?_) ?_ ?_ ?_ ?_ ?_ ?_ hH ?_
    rotate_left 1
    · (simp only [List.getElem?_toArray, List.getElem?_cons_succ, List.getElem?_cons_zero]; rfl)
    · kernel_rfl
    · kernel_rfl
    · kernel_rfl
    · exact fun _ _ _ h => h
    · rfl
    try simp only [Act.put, List.setIfInBounds_toArray, List.set_cons_zero, List.set_cons_succ]
    refine take_u (i := 37) (oi := ?_) ?_ ?_ ?_ ?_ ?_ ?_ hH ?_
    rotate_left 1
    · (simp only [List.getElem?_toArray, List.getElem?_cons_succ, List.getElem?_cons_zero]; rfl)
    · kernel_rfl
    · kernel_rfl
    · kernel_rfl
    · exact fun _ _ _ h => h
    · rfl
    try simp only [Act.put, List.setIfInBounds_toArray, List.set_cons_zero, List.set_cons_succ]
    refine take_u (i := 38) (oi := ?_) ?_ ?_ ?_ ?_ ?_ ?_ hH ?_
    rotate_left 1
    · (simp only [List.getElem?_toArray, List.getElem?_cons_succ, List.getElem?_cons_zero]; rfl)
    · kernel_rfl
    · kernel_rfl
    · kernel_rfl
    · exact fun _ _ _ h => h
    · rfl
    try simp only [Act.put, List.setIfInBounds_toArray, List.set_cons_zero, List.set_cons_succ]
    refine take_u (i := 39) (oi := ?_) ?_ ?_ ?_ ?_ ?_ ?_ hH ?_
    rotate_left 1
    · (simp only [List.getElem?_toArray, List.getElem?_cons_succ, List.getElem?_cons_zero]; rfl)
    · kernel_rfl
    · kernel_rfl
    · kernel_rfl
    · exact fun _ _ _ h => h
    · rfl
    try simp only [Act.put, List.setIfInBounds_toArray, List.set_cons_zero, List.set_cons_succ]
    refine take_u (i := 40) (oi := ?_) ?_ ?_ ?_ ?_ ?_ ?_ hH ?_
    rotate_left 1
    · (simp only [List.getElem?_toArray, List.getElem?_cons_succ, List.getElem?_cons_zero]; rfl)
    · kernel_rfl
    · kernel_rfl
    · kernel_rfl
    · exact fun _ _ _ h => h
    · rfl
    try simp only [Act.put, List.setIfInBounds_toArray, List.set_cons_zero, List.set_cons_succ]
    refine take_u (i := 41) (oi := ?_) ?_ ?_ ?_ ?_ ?_ ?_ hH ?_
    rotate_left 1
    · (simp only [List.getElem?_toArray, List.getElem?_cons_succ, List.getElem?_cons_zero]; rfl)
    · kernel_rfl
    · kernel_rfl
    · kernel_rfl
    · exact fun _ _ _ h => h
    · rfl
    try simp only [Act.put, List.setIfInBounds_toArray, List.set_cons_zero, List.set_cons_succ]
    refine take_u (i := 42) (oi := ?_) ?_ ?_ ?_ ?_ ?_ ?_ hH ?_
    rotate_left 1
    · (simp only [List.getElem?_toArray, List.getElem?_cons_succ, List.getElem?_cons_zero]; rfl)
    · kernel_rfl
    · kernel_rfl
    · kernel_rfl
    · exact fun _ _ _ h => h
    · rfl
    try simp only [Act.put, List.setIfInBounds_toArray, List.set_cons_zero, List.set_cons_succ]
    refine take_p (i := 43) (oi := ?_) (v := ?_) ?_ ?_ ?_ ?_ ?_ ?_ ?_ hH ?_
    rotate_left 2
    · (simp only [List.getElem?_toArray, List.getElem?_cons_succ, List.getElem?_cons_zero]; rfl)
    · kernel_rfl
    · kernel_rfl
    · kernel_rfl
    · exact fun _ _ _ h => h
    · rfl
    · (intro w hSw; (try dsimp only at hSw); go_simp; all_goals (with_reducible rfl))
    try simp only [Act.put, List.setIfInBounds_toArray, List.set_cons_zero, List.set_cons_succ]
    refine take_p (i := 44) (oi := ?_) (v := ?_) ?_ ?_ ?_ ?_ ?_ ?_ ?_ hH ?_
    rotate_left 2
    · (simp only [List.getElem?_toArray, List.getElem?_cons_succ, List.getElem?_cons_zero]; rfl)
    · kernel_rfl
    · kernel_rfl
    · kernel_rfl
    · exact fun _ _ _ h => h
    · rfl
    · (intro w hSw; (try dsimp only at hSw); go_simp; all_goals (with_reducible rfl))
    try simp only [Act.put, List.setIfInBounds_toArray, List.set_cons_zero, List.set_cons_succ]
    refine wpAnyH_done (by kernel_rfl) ?_ _
    have b5 := hH.1.out
    clear hH
    have G_14 := Lib.hid (bthen G_12.out b5)
    have X_14 := Lib.hid (X_12.out.below b5)
    have V_14 := Lib.hid (V_12.out.below b5)
    have R_14 := Lib.hid (R_12.out.below b5)
    have D_14 := Lib.hid (D_12.out.below b5)
    have P_14 := Lib.hid (P_12.out.below b5)
    have Q_14 := Lib.hid (Q_13.out.below b5)
    clear G_12 X_12 V_12 R_12 D_12 P_12 Q_13
    clear b5 K1_5 KS_5
    clear KR KQ
    obtain ⟨v4a, v4b, v4c, v4d, v4l, v4n⟩ := V_14.out.cells
    obtain ⟨q5a, q5b, q5c, q5d, q5e, q5f, q5g, q5h, q5i, q5j⟩ := X_14.out.cells
    obtain ⟨q6a, q6b, q6c, q6d, q6e, q6f, q6g, q6h, q6i, q6j⟩ := P_14.out.cells
    obtain ⟨q7a, q7b, q7c, q7d, q7e, q7f, q7g, q7h, q7i, q7j⟩ := Q_14.out.cells
    go_wp2_with fail
    refine at_world ?_
    intro W6 hW6
    clear q5a q5b q5c q5d q5e q5f q5g q5h q5i q5j q6a q6b q6c q6d q6e q6f q6g q6h q6i q6j q7a q7b q7c q7d q7e q7f q7g q7h q7i q7j
    clear v4a v4b v4c v4d v4l v4n
    have G_15 : Hid (Below w.heap.size w W6) := Lib.hid (by rw [hW6]; exact G_14.out)
    have X_15 : Hid (XB W6 w.heap.size neg (.slice A n c) s f) := Lib.hid (by rw [hW6]; exact X_14.out)
    have V_15 : Hid (VB W6 (w.heap.size + 1) cl vn m ve) := Lib.hid (by rw [hW6]; exact V_14.out)
    have R_15 : Hid (RdW W6 A n c F) := Lib.hid (by rw [hW6]; exact R_14.out)
    have D_15 : Hid (Rd W6 (some { block := w1.heap.size, off := 0 }) 0 0 G) := Lib.hid (by rw [hW6]; exact D_14.out)
    have P_15 : Hid (XB W6 w3.heap.size false (.slice none 0 0) 0 0) := Lib.hid (by rw [hW6]; exact P_14.out)
    have Q_15 : Hid (XB W6 w4.heap.size false (.slice none 0 0) 0 0) := Lib.hid (by rw [hW6]; exact Q_14.out)
    clear G_14 X_14 V_14 R_14 D_14 P_14 Q_14
    clear hW6
    clear R_15
    obtain ⟨N, hN⟩ : ∃ N, S G 0 = N := ⟨_, rfl⟩
    have DC := Lib.hid (dec_any neg (some { block := w1.heap.size, off := 0 }) 0 0 G k W6 D_15.out)
    have BC := Lib.hid (fun wq h => bits_any (some { block := w1.heap.size, off := 0 }) 0 0 G wq h (bitsN N) (by rw [hN]))
    rw [hN] at DC
    unfold DecIs xv at DC
    with_reducible (refine DC.out.mono ?_)
    rintro _ w6 ⟨⟨r, rfl, hr⟩, b6⟩
    rcases hr with ⟨ho, cA, cn, cc, hf, rfl⟩ | ⟨ho, rfl⟩
    · have HO := Lib.hid ho
      clear ho DC
      have G_16 := Lib.hid (bthen G_15.out b6)
      have X_16 := Lib.hid (X_15.out.below b6)
      have V_16 := Lib.hid (V_15.out.below b6)
      have D_16 := Lib.hid (D_15.out.below b6)
      have P_16 := Lib.hid (P_15.out.below b6)
      have Q_16 := Lib.hid (Q_15.out.below b6)
      clear G_15 X_15 V_15 D_15 P_15 Q_15
      have F_17 : Hid (IsF W6.heap.size w6 (.slice cA cn cc) N) := Lib.hid (hf)
      have HS6 := Lib.hid b6.size
      clear hf b6
      have hk : -5000 ≤ k ∧ k ≤ 5000 := by
        have h := HO.out
        simp only [Bool.and_eq_true] at h
        exact inB_true h.2
      have hz : bitsN N ≤ 8192 := by
        have h := HO.out
        simp only [Bool.and_eq_true] at h
        exact fit_bits1 h.1
      obtain ⟨z, hzz⟩ : ∃ z, bitsN N = z := ⟨_, rfl⟩
      rw [hzz] at hz BC
      have y1 : decide (-5000 ≤ k) = true := decide_eq_true hk.1
      have y2 : decide (k ≤ 5000) = true := decide_eq_true hk.2
      have y3 : decide ((z : Int) ≤ 8192) = true := decide_eq_true (by omega)
      have y4 : decide (z ≤ 8192) = true := decide_eq_true hz
      clear hk hz hzz
      obtain ⟨v5a, v5b, v5c, v5d, v5l, v5n⟩ := V_16.out.cells
      obtain ⟨q8a, q8b, q8c, q8d, q8e, q8f, q8g, q8h, q8i, q8j⟩ := X_16.out.cells
      obtain ⟨q9a, q9b, q9c, q9d, q9e, q9f, q9g, q9h, q9i, q9j⟩ := P_16.out.cells
      obtain ⟨q10a, q10b, q10c, q10d, q10e, q10f, q10g, q10h, q10i, q10j⟩ := Q_16.out.cells
      go_wp2_with fail
      refine at_world ?_
      intro W7 hW7
      clear q8a q8b q8c q8d q8e q8f q8g q8h q8i q8j q9a q9b q9c q9d q9e q9f q9g q9h q9i q9j q10a q10b q10c q10d q10e q10f q10g q10h q10i q10j
      clear v5a v5b v5c v5d v5l v5n
      have G_18 : Hid (Below w.heap.size w W7) := Lib.hid (by rw [hW7]; exact (bgrow G_16.out _))
      have X_18 : Hid (XB W7 w.heap.size neg (.slice A n c) s f) := Lib.hid (by rw [hW7]; exact (X_16.out.alloc _))
      have V_18 : Hid (VB W7 (w.heap.size + 1) cl vn m ve) := Lib.hid (by rw [hW7]; exact (V_16.out.alloc _))
      have D_18 : Hid (Rd W7 (some { block := w1.heap.size, off := 0 }) 0 0 G) := Lib.hid (by rw [hW7]; exact (D_16.out.alloc _))
      have P_18 : Hid (XB W7 w3.heap.size false (.slice none 0 0) 0 0) := Lib.hid (by rw [hW7]; exact (P_16.out.alloc _))
      have Q_18 : Hid (XB W7 w4.heap.size false (.slice none 0 0) 0 0) := Lib.hid (by rw [hW7]; exact (Q_16.out.alloc _))
      have F_18 : Hid (IsF W6.heap.size W7 (.slice cA cn cc) N) := Lib.hid (by rw [hW7]; exact (F_17.out.alloc _))
      clear G_16 X_16 V_16 D_16 P_16 Q_16 F_17
      have C_19 : Hid (XB W7 w6.heap.size neg (.slice cA cn cc) k k) := Lib.hid (by rw [hW7]; exact XB.new _ _ _ _ _)
      clear hW7
      with_reducible (refine (BC.out _ D_18.out).mono ?_)
      rintro _ w7 ⟨rfl, rfl⟩
      clear BC
      obtain ⟨v6a, v6b, v6c, v6d, v6l, v6n⟩ := V_18.out.cells
      obtain ⟨q11a, q11b, q11c, q11d, q11e, q11f, q11g, q11h, q11i, q11j⟩ := X_18.out.cells
      obtain ⟨q12a, q12b, q12c, q12d, q12e, q12f, q12g, q12h, q12i, q12j⟩ := P_18.out.cells
      obtain ⟨q13a, q13b, q13c, q13d, q13e, q13f, q13g, q13h, q13i, q13j⟩ := Q_18.out.cells
      obtain ⟨q14a, q14b, q14c, q14d, q14e, q14f, q14g, q14h, q14i, q14j⟩ := C_19.out.cells
      go_wp2_with fail
      obtain ⟨rc, hrc, fr, hrd2⟩ : ∃ Fc, Rd W7 cA cn cc Fc ∧ (0 < cn → ∃ gg, cA = some ⟨gg, 0, none⟩ ∧ W6.heap.size ≤ gg) ∧ (Nm cn Fc ∧ S Fc cn = N) := by
        obtain ⟨_, _, _, Fc, e, h1, h2, h3, h4⟩ := F_18.out
        cases e
        exact ⟨Fc, h1, h4, h2, h3⟩
      have KC := Lib.hid (cmp_any cA (some { block := w1.heap.size, off := 0 }) cn cc 0 0 rc G W7 hrc D_18.out 0 (by rw [hrd2.2, hN]; exact (cmpN_cases _ _).2.2.2 rfl))
      have HFRC := Lib.hid fr
      clear hrc fr hrd2
      with_reducible (refine KC.out.mono ?_)
      rintro _ w8 ⟨rfl, k8, hk8⟩
      have b8 : Below W7.heap.size W7 w8 := by rw [hk8]; exact bdrewN (Below.refl _ _) _
      clear hk8 KC
      have G_20 := Lib.hid (bthen G_18.out b8)
      have X_20 := Lib.hid (X_18.out.below b8)
      have V_20 := Lib.hid (V_18.out.below b8)
      have D_20 := Lib.hid (D_18.out.below b8)
      have P_20 := Lib.hid (P_18.out.below b8)
      have Q_20 := Lib.hid (Q_18.out.below b8)
      have F_20 := Lib.hid (F_18.out.below b8)
      have C_20 := Lib.hid (C_19.out.below b8)
      clear G_18 X_18 V_18 D_18 P_18 Q_18 F_18 C_19
      clear b8
      have KT := Lib.hid (fun w1 h => right_N neg (.slice cA cn cc) N k k true w1 h (by have h2 := HO.out; revert h2; cases fitB N <;> cases inB k <;> simp))
      unfold xv at KT
      obtain ⟨v7a, v7b, v7c, v7d, v7l, v7n⟩ := V_20.out.cells
      obtain ⟨q15a, q15b, q15c, q15d, q15e, q15f, q15g, q15h, q15i, q15j⟩ := X_20.out.cells
      obtain ⟨q16a, q16b, q16c, q16d, q16e, q16f, q16g, q16h, q16i, q16j⟩ := P_20.out.cells
      obtain ⟨q17a, q17b, q17c, q17d, q17e, q17f, q17g, q17h, q17i, q17j⟩ := Q_20.out.cells
      obtain ⟨q18a, q18b, q18c, q18d, q18e, q18f, q18g, q18h, q18i, q18j⟩ := C_20.out.cells
      go_wp2_with fail
      refine at_world ?_
      intro W9 hW9
      clear q15a q15b q15c q15d q15e q15f q15g q15h q15i q15j q16a q16b q16c q16d q16e q16f q16g q16h q16i q16j q17a q17b q17c q17d q17e q17f q17g q17h q17i q17j q18a q18b q18c q18d q18e q18f q18g q18h q18i q18j
      clear v7a v7b v7c v7d v7l v7n
      have G_21 : Hid (Below w.heap.size w W9) := Lib.hid (by rw [hW9]; exact G_20.out)
      have X_21 : Hid (XB W9 w.heap.size neg (.slice A n c) s f) := Lib.hid (by rw [hW9]; exact X_20.out)
      have V_21 : Hid (VB W9 (w.heap.size + 1) cl vn m ve) := Lib.hid (by rw [hW9]; exact V_20.out)
      have D_21 : Hid (Rd W9 (some { block := w1.heap.size, off := 0 }) 0 0 G) := Lib.hid (by rw [hW9]; exact D_20.out)
      have P_21 : Hid (XB W9 w3.heap.size false (.slice none 0 0) 0 0) := Lib.hid (by rw [hW9]; exact P_20.out)
      have Q_21 : Hid (XB W9 w4.heap.size false (.slice none 0 0) 0 0) := Lib.hid (by rw [hW9]; exact Q_20.out)
      have F_21 : Hid (IsF W6.heap.size W9 (.slice cA cn cc) N) := Lib.hid (by rw [hW9]; exact F_20.out)
      have C_21 : Hid (XB W9 w6.heap.size neg (.slice cA cn cc) k k) := Lib.hid (by rw [hW9]; exact C_20.out)
      clear G_20 X_20 V_20 D_20 P_20 Q_20 F_20 C_20
      clear hW9
      with_reducible (refine (KT.out _ F_21.out.isn).mono ?_)
      rintro _ w9 ⟨rfl, b9⟩
      have G_22 := Lib.hid (bthen G_21.out b9)
      have X_22 := Lib.hid (X_21.out.below b9)
      have V_22 := Lib.hid (V_21.out.below b9)
      have D_22 := Lib.hid (D_21.out.below b9)
      have P_22 := Lib.hid (P_21.out.below b9)
      have Q_22 := Lib.hid (Q_21.out.below b9)
      have F_22 := Lib.hid (F_21.out.below b9)
      have C_22 := Lib.hid (C_21.out.below b9)
      clear G_21 X_21 V_21 D_21 P_21 Q_21 F_21 C_21
      clear b9 KT
      obtain ⟨v8a, v8b, v8c, v8d, v8l, v8n⟩ := V_22.out.cells
      obtain ⟨q19a, q19b, q19c, q19d, q19e, q19f, q19g, q19h, q19i, q19j⟩ := X_22.out.cells
      obtain ⟨q20a, q20b, q20c, q20d, q20e, q20f, q20g, q20h, q20i, q20j⟩ := P_22.out.cells
      obtain ⟨q21a, q21b, q21c, q21d, q21e, q21f, q21g, q21h, q21i, q21j⟩ := Q_22.out.cells
      obtain ⟨q22a, q22b, q22c, q22d, q22e, q22f, q22g, q22h, q22i, q22j⟩ := C_22.out.cells
      go_wp2_with fail
      go_ret
      exact ⟨rfl, G_22.out⟩
    · have HO := Lib.hid ho
      clear ho DC
      have G_16 := Lib.hid (bthen G_15.out b6)
      have X_16 := Lib.hid (X_15.out.below b6)
      have V_16 := Lib.hid (V_15.out.below b6)
      have D_16 := Lib.hid (D_15.out.below b6)
      have P_16 := Lib.hid (P_15.out.below b6)
      have Q_16 := Lib.hid (Q_15.out.below b6)
      clear G_15 X_15 V_15 D_15 P_15 Q_15
      clear b6
      obtain ⟨z, hzz⟩ : ∃ z, bitsN N = z := ⟨_, rfl⟩
      have three : (k < -5000) ∨ (-5000 ≤ k ∧ 5000 < k) ∨ (-5000 ≤ k ∧ k ≤ 5000 ∧ 8192 < z) := by
        rcases Int.lt_or_le k (-5000) with h1 | h1
        · exact Or.inl h1
        · rcases Int.lt_or_le 5000 k with h2 | h2
          · exact Or.inr (Or.inl ⟨h1, h2⟩)
          · refine Or.inr (Or.inr ⟨h1, h2, ?_⟩)
            rcases Nat.lt_or_ge 8192 z with h3 | h3
            · exact h3
            · exfalso
              have h4 := HO.out
              rw [inB_of ⟨h1, h2⟩, Bool.and_true] at h4
              have h5 : fitB N = true := fit_of (bitsN_lt N) (by omega)
              rw [h5] at h4; exact absurd h4 (by decide)
      rw [hzz] at BC
      clear hzz
      rcases three with h1 | ⟨h1, h2⟩ | ⟨h1, h2, h3⟩
      · have y1 : decide (-5000 ≤ k) = false := decide_eq_false (by omega)
        clear h1 BC
        obtain ⟨v5a, v5b, v5c, v5d, v5l, v5n⟩ := V_16.out.cells
        obtain ⟨q8a, q8b, q8c, q8d, q8e, q8f, q8g, q8h, q8i, q8j⟩ := X_16.out.cells
        obtain ⟨q9a, q9b, q9c, q9d, q9e, q9f, q9g, q9h, q9i, q9j⟩ := P_16.out.cells
        obtain ⟨q10a, q10b, q10c, q10d, q10e, q10f, q10g, q10h, q10i, q10j⟩ := Q_16.out.cells
        go_wp2_with fail
        go_ret
        exact ⟨rfl, bgrow G_16.out _⟩
      · have y1 : decide (-5000 ≤ k) = true := decide_eq_true h1
        have y2 : decide (k ≤ 5000) = false := decide_eq_false (by omega)
        clear h1 h2 BC
        obtain ⟨v5a, v5b, v5c, v5d, v5l, v5n⟩ := V_16.out.cells
        obtain ⟨q8a, q8b, q8c, q8d, q8e, q8f, q8g, q8h, q8i, q8j⟩ := X_16.out.cells
        obtain ⟨q9a, q9b, q9c, q9d, q9e, q9f, q9g, q9h, q9i, q9j⟩ := P_16.out.cells
        obtain ⟨q10a, q10b, q10c, q10d, q10e, q10f, q10g, q10h, q10i, q10j⟩ := Q_16.out.cells
        go_wp2_with fail
        go_ret
        exact ⟨rfl, bgrow G_16.out _⟩
      · have y1 : decide (-5000 ≤ k) = true := decide_eq_true h1
        have y2 : decide (k ≤ 5000) = true := decide_eq_true h2
        have y3 : decide ((z : Int) ≤ 8192) = false := decide_eq_false (by omega)
        have y4 : decide (z ≤ 8192) = false := decide_eq_false (by omega)
        clear h1 h2 h3
        obtain ⟨v5a, v5b, v5c, v5d, v5l, v5n⟩ := V_16.out.cells
        obtain ⟨q8a, q8b, q8c, q8d, q8e, q8f, q8g, q8h, q8i, q8j⟩ := X_16.out.cells
        obtain ⟨q9a, q9b, q9c, q9d, q9e, q9f, q9g, q9h, q9i, q9j⟩ := P_16.out.cells
        obtain ⟨q10a, q10b, q10c, q10d, q10e, q10f, q10g, q10h, q10i, q10j⟩ := Q_16.out.cells
        go_wp2_with fail
        refine at_world ?_
        intro W7 hW7
        clear q8a q8b q8c q8d q8e q8f q8g q8h q8i q8j q9a q9b q9c q9d q9e q9f q9g q9h q9i q9j q10a q10b q10c q10d q10e q10f q10g q10h q10i q10j
        clear v5a v5b v5c v5d v5l v5n
        have G_17 : Hid (Below w.heap.size w W7) := Lib.hid (by rw [hW7]; exact (bgrow G_16.out _))
        have X_17 : Hid (XB W7 w.heap.size neg (.slice A n c) s f) := Lib.hid (by rw [hW7]; exact (X_16.out.alloc _))
        have V_17 : Hid (VB W7 (w.heap.size + 1) cl vn m ve) := Lib.hid (by rw [hW7]; exact (V_16.out.alloc _))
        have D_17 : Hid (Rd W7 (some { block := w1.heap.size, off := 0 }) 0 0 G) := Lib.hid (by rw [hW7]; exact (D_16.out.alloc _))
        have P_17 : Hid (XB W7 w3.heap.size false (.slice none 0 0) 0 0) := Lib.hid (by rw [hW7]; exact (P_16.out.alloc _))
        have Q_17 : Hid (XB W7 w4.heap.size false (.slice none 0 0) 0 0) := Lib.hid (by rw [hW7]; exact (Q_16.out.alloc _))
        clear G_16 X_16 V_16 D_16 P_16 Q_16
        have C_18 : Hid (XB W7 w6.heap.size false (.slice none 0 0) 0 0) := Lib.hid (by rw [hW7]; exact XB.new _ _ _ _ _)
        clear hW7
        with_reducible (refine (BC.out _ D_17.out).mono ?_)
        rintro _ w7 ⟨rfl, rfl⟩
        clear BC
        obtain ⟨v6a, v6b, v6c, v6d, v6l, v6n⟩ := V_17.out.cells
        obtain ⟨q11a, q11b, q11c, q11d, q11e, q11f, q11g, q11h, q11i, q11j⟩ := X_17.out.cells
        obtain ⟨q12a, q12b, q12c, q12d, q12e, q12f, q12g, q12h, q12i, q12j⟩ := P_17.out.cells
        obtain ⟨q13a, q13b, q13c, q13d, q13e, q13f, q13g, q13h, q13i, q13j⟩ := Q_17.out.cells
        obtain ⟨q14a, q14b, q14c, q14d, q14e, q14f, q14g, q14h, q14i, q14j⟩ := C_18.out.cells
        go_wp2_with fail
        go_ret
        exact ⟨rfl, G_17.out⟩
end Go.Proofs.Yteiajccjlbghoaa

/- caliperlaw02.ExactNoughts walked. Conditions: as each theorem names them. -/
import Derived.Test.YteiajccjlbghoaaXlw
import Derived.Test.YteiajccjlbghoaaXOfa
set_option linter.unusedVariables false
namespace Go.Proofs.Yteiajccjlbghoaa
open Go.RowKit

theorem rest_nil (T : Nat) : restN 0 T = 0 := by unfold restN; rw [if_pos (Nat.zero_mod _)]
theorem fit_nil : fitB 0 = true := fit_small (by decide)
theorem inB_range {s : Int} (h : -5000 ≤ s ∧ s ≤ 5000) : inB s = true := by unfold inB; simp [h.1, h.2]
theorem cmp_nil (N : Nat) : (N = 0 → cmpN 0 N = 0) ∧ (0 < N → cmpN 0 N = -1) := by
  constructor
  · intro h; subst h; rfl
  · intro h; unfold cmpN; rw [if_pos h]
theorem sgn_nil (neg ny : Bool) (s f t g : Int) (N : Nat) : (N = 0 → cmpI (sx neg 0 s f) (sx ny N t g) = 0) ∧ (0 < N → ny = true → cmpI (sx neg 0 s f) (sx ny N t g) = 1) ∧ (0 < N → ny = false → cmpI (sx neg 0 s f) (sx ny N t g) = -1) := by
  have h0 : sx neg 0 s f = 0 := by unfold sx; simp [vx_zero]
  rw [h0]
  refine ⟨fun h => ?_, fun h e => ?_, fun h e => ?_⟩
  · subst h; unfold sx cmpI; simp [vx_zero]
  · subst e
    have := vx_pos t g h
    unfold sx cmpI
    simp only [if_true]
    rw [if_neg (by omega), if_pos (by omega)]
  · subst e
    have := vx_pos t g h
    unfold sx cmpI
    simp only [Bool.false_eq_true, if_false]
    rw [if_pos (by omega)]
set_option maxRecDepth 100000 in
set_option maxHeartbeats 40000000 in
theorem walk_ExactNoughts (two five : Int) (neg : Bool) (ny : Bool) (A : Option Addr) (n c : Nat) (F : Nat → Nat) (s f : Int) (w : World) (w0 : (Lit.int .i64 two).wf = true) (w1 : (Lit.int .i64 five).wf = true) (hA : RdW w A n c F) :
    Calls Try.prog 8 #[.int .i64 two, .int .i64 five, .bool neg, xv ny (.slice A n c) s f] w fun e w' => e = .returned (.bool true) ∧ Below w.heap.size w w' := by
  clear w0 w1
  have HA := Lib.hid hA
  have SY := Lib.hid (small_sm A n c F s f 300 w hA)
  have CY := Lib.hid (fun w' h => small_X ny A n c F s f 300 w' h (by decide))
  obtain ⟨N, hN⟩ : ∃ N, S F (min n 12) = N := ⟨_, rfl⟩
  obtain ⟨s1, hs1⟩ : ∃ x, s.tmod ((300 + 1 : Nat) : Int) = x := ⟨_, rfl⟩
  obtain ⟨f1, hf1⟩ : ∃ x, f.tmod ((300 + 1 : Nat) : Int) = x := ⟨_, rfl⟩
  rw [hN, hs1, hf1] at SY CY
  obtain ⟨a, ha⟩ : ∃ a, two.tmod 5001 = a := ⟨_, rfl⟩
  obtain ⟨b, hb⟩ : ∃ b, five.tmod 5001 = b := ⟨_, rfl⟩
  obtain ⟨k, hk⟩ : ∃ k, two.tmod 301 = k := ⟨_, rfl⟩
  have ra : -5000 ≤ a ∧ a ≤ 5000 := by rw [← ha]; exact tmod_range two 5000
  have rb : -5000 ≤ b ∧ b ≤ 5000 := by rw [← hb]; exact tmod_range five 5000
  have rk : -300 ≤ k ∧ k ≤ 300 := by rw [← hk]; exact tmod_range two 300
  have wa : IntKind.i64.wrap a = a := IntWalk.i64_in _ (by omega)
  have wb : IntKind.i64.wrap b = b := IntWalk.i64_in _ (by omega)
  have wk : IntKind.i64.wrap k = k := IntWalk.i64_in _ (by omega)
  unfold xv at CY
  clear hN hs1 hf1 hA
  have RG := Lib.hid (And.intro ra (And.intro rb rk))
  clear ra rb rk
  unfold xv
  go_enter Try.func8, Try.ntmps8
  go_wp2_with fail
  refine at_world ?_
  intro W1 hW1
  have G_1 : Hid (Below w.heap.size w W1) := Lib.hid (by rw [hW1]; exact bgrow (Below.refl _ _) _)
  have Y_2 : Hid (XB W1 w.heap.size ny (.slice A n c) s f) := Lib.hid (by rw [hW1]; exact XB.new _ _ _ _ _)
  have R_3 : Hid (RdW W1 A n c F) := Lib.hid (HA.out.below G_1.out)
  clear hW1
  clear HA
  have C1 := Lib.hid (shown_true W1)
  with_reducible (refine C1.out.mono ?_)
  rintro e w1 ⟨rfl, b1⟩
  have G_4 := Lib.hid (bthen G_1.out b1)
  have Y_4 := Lib.hid (Y_2.out.below b1)
  have R_4 := Lib.hid (R_3.out.below b1)
  clear G_1 Y_2 R_3
  clear b1 C1
  obtain ⟨q1a, q1b, q1c, q1d, q1e, q1f, q1g, q1h, q1i, q1j⟩ := Y_4.out.cells
  go_wp2_with fail
  refine at_world ?_
  intro W2 hW2
  clear q1a q1b q1c q1d q1e q1f q1g q1h q1i q1j
  have G_5 : Hid (Below w.heap.size w W2) := Lib.hid (by rw [hW2]; exact G_4.out)
  have Y_5 : Hid (XB W2 w.heap.size ny (.slice A n c) s f) := Lib.hid (by rw [hW2]; exact Y_4.out)
  have R_5 : Hid (RdW W2 A n c F) := Lib.hid (by rw [hW2]; exact R_4.out)
  clear G_4 Y_4 R_4
  clear hW2
  have D2 := Lib.hid (show Calls Try.prog 12 #[.agg #[.bool ny, .slice A n c, .int .i64 s, .int .i64 f], .int .i64 300] W2 _ from CY.out W2 R_5.out)
  with_reducible (refine D2.out.mono ?_)
  rintro _ w2 ⟨⟨A1, n1, c1, rfl, i2⟩, b2⟩
  have hz : n1 = 0 ↔ N = 0 := by
    obtain ⟨_, _, _, e, hz⟩ := nlen i2
    cases e
    exact hz
  clear R_5
  have G_6 := Lib.hid (bthen G_5.out b2)
  have Y_6 := Lib.hid (Y_5.out.below b2)
  clear G_5 Y_5
  have O_7 : Hid (XOk w2 (.slice A1 n1 c1) N s1 f1) := Lib.hid (SY.out.ok (by decide) i2)
  clear b2 D2 i2 CY
  have HZ := Lib.hid hz
  clear hz
  have CR := Lib.hid (fun w1 => red_zero neg (.slice none 0 0) a b w1 (isN_none w1))
  unfold xv at CR
  obtain ⟨q2a, q2b, q2c, q2d, q2e, q2f, q2g, q2h, q2i, q2j⟩ := Y_6.out.cells
  go_wp2_with fail
  refine at_world ?_
  intro W3 hW3
  clear q2a q2b q2c q2d q2e q2f q2g q2h q2i q2j
  obtain ⟨WI, hWI⟩ : ∃ WI, WI = set4 w2 w.heap.size (.bool ny) (.slice A1 n1 c1) (.int .i64 s1) (.int .i64 f1) := ⟨_, rfl⟩
  change W3 = (set4 w2 w.heap.size (.bool ny) (.slice A1 n1 c1) (.int .i64 s1) (.int .i64 f1)).alloc _ at hW3
  rw [← hWI] at hW3
  have szI : WI.heap.size = w2.heap.size := by rw [hWI]; simp
  have G_8 : Hid (Below w.heap.size w WI) := Lib.hid (by rw [hWI]; exact (below_set4 G_6.out (by first | omega | simp) _ _ _ _))
  have Y_8 : Hid (XB WI w.heap.size ny (.slice A1 n1 c1) s1 f1) := Lib.hid (by rw [hWI]; exact (Y_6.out.set4 ny (.slice A1 n1 c1) s1 f1))
  have O_8 : Hid (XOk WI (.slice A1 n1 c1) N s1 f1) := Lib.hid (by rw [hWI]; exact (O_7.out.set4 Y_6.out _ _ _ _))
  clear G_6 Y_6 O_7
  clear hWI
  have G_9 : Hid (Below w.heap.size w W3) := Lib.hid (by rw [hW3]; exact (bgrow G_8.out _))
  have Y_9 : Hid (XB W3 w.heap.size ny (.slice A1 n1 c1) s1 f1) := Lib.hid (by rw [hW3]; exact (Y_8.out.alloc _))
  have O_9 : Hid (XOk W3 (.slice A1 n1 c1) N s1 f1) := Lib.hid (by rw [hW3]; exact (O_8.out.alloc _))
  clear G_8 Y_8 O_8
  have P_10 : Hid (XB W3 w2.heap.size neg (.slice none 0 0) a b) := Lib.hid (by rw [hW3, ← szI]; exact XB.new WI _ _ _ _)
  clear hW3
  clear szI
  with_reducible (refine (CR.out W3).mono ?_)
  rintro _ w3 ⟨rfl, b3⟩
  have G_11 := Lib.hid (bthen G_9.out b3)
  have Y_11 := Lib.hid (Y_9.out.below b3)
  have O_11 := Lib.hid (O_9.out.below b3)
  have P_11 := Lib.hid (P_10.out.below b3)
  clear G_9 Y_9 O_9 P_10
  clear b3 CR
  have CF := Lib.hid (fun w1 => floor_X neg (.slice none 0 0) a b k 0 w1 ⟨isN_none w1, by decide, by have := RG.out.1; omega, by have := RG.out.1; omega, by have := RG.out.2.1; omega, by have := RG.out.2.1; omega⟩ (by have := RG.out.2.2; omega))
  rw [vx_zero, Nat.zero_div, rest_nil] at CF
  unfold xv at CF
  obtain ⟨q3a, q3b, q3c, q3d, q3e, q3f, q3g, q3h, q3i, q3j⟩ := Y_11.out.cells
  obtain ⟨q4a, q4b, q4c, q4d, q4e, q4f, q4g, q4h, q4i, q4j⟩ := P_11.out.cells
  go_wp2_with fail
  refine at_world ?_
  intro W4 hW4
  clear q3a q3b q3c q3d q3e q3f q3g q3h q3i q3j q4a q4b q4c q4d q4e q4f q4g q4h q4i q4j
  have G_12 : Hid (Below w.heap.size w W4) := Lib.hid (by rw [hW4]; exact (bgrow G_11.out _))
  have Y_12 : Hid (XB W4 w.heap.size ny (.slice A1 n1 c1) s1 f1) := Lib.hid (by rw [hW4]; exact (Y_11.out.alloc _))
  have O_12 : Hid (XOk W4 (.slice A1 n1 c1) N s1 f1) := Lib.hid (by rw [hW4]; exact (O_11.out.alloc _))
  have P_12 : Hid (XB W4 w2.heap.size neg (.slice none 0 0) a b) := Lib.hid (by rw [hW4]; exact (P_11.out.alloc _))
  clear G_11 Y_11 O_11 P_11
  have Q_13 : Hid (XB W4 w3.heap.size neg (.slice none 0 0) 0 0) := Lib.hid (by rw [hW4]; exact XB.new _ _ _ _ _)
  clear hW4
  with_reducible (refine (CF.out W4).mono ?_)
  rintro _ w4 ⟨⟨A4, n4, c4, rfl, j4⟩, b4⟩
  obtain rfl : n4 = 0 := by
    obtain ⟨_, _, _, e, hz⟩ := nlen j4
    cases e
    exact hz.2 rfl
  have G_14 := Lib.hid (bthen G_12.out b4)
  have Y_14 := Lib.hid (Y_12.out.below b4)
  have O_14 := Lib.hid (O_12.out.below b4)
  have P_14 := Lib.hid (P_12.out.below b4)
  have Q_14 := Lib.hid (Q_13.out.below b4)
  clear G_12 Y_12 O_12 P_12 Q_13
  clear b4 j4 CF
  obtain ⟨cv, hcv⟩ : ∃ cv, cmpN 0 N = cv := ⟨_, rfl⟩
  obtain ⟨sv, hsv⟩ : ∃ sv, cmpI (sx neg 0 a b) (sx ny N s1 f1) = sv := ⟨_, rfl⟩
  have KR := Lib.hid (fun w1 => right_N neg (.slice none 0 0) 0 a b true w1 (isN_none w1) (by rw [fit_nil, inB_range RG.out.1, inB_range RG.out.2.1]; rfl))
  have KL := Lib.hid (fun w1 => log_zero neg (.slice none 0 0) a b w1 (isN_none w1))
  have xo := Lib.hid (fun w1 => show XOk w1 (.slice none 0 0) 0 a b from ⟨isN_none w1, by decide, by have := RG.out.1; omega, by have := RG.out.1; omega, by have := RG.out.2.1; omega, by have := RG.out.2.1; omega⟩)
  have KC := Lib.hid (fun w1 h => cmp_X neg ny (.slice none 0 0) (.slice A1 n1 c1) a b s1 f1 0 N cv w1 (xo.out w1) h (by rw [xcmp_none _ _ _ _ _ _ (Or.inl rfl)]; exact hcv))
  have KS := Lib.hid (fun w1 => sgn_X neg false (.slice none 0 0) (.slice none 0 0) a b 0 0 0 0 0 w1 (xo.out w1) (xok_none w1) (sh_nil _ _ _))
  have KT := Lib.hid (fun w1 h => sgn_X neg ny (.slice none 0 0) (.slice A1 n1 c1) a b s1 f1 0 N sv w1 (xo.out w1) h hsv)
  unfold xv at KR KL KC KS KT
  have HCV := Lib.hid hcv
  have HSV := Lib.hid hsv
  clear hcv hsv
  obtain ⟨q5a, q5b, q5c, q5d, q5e, q5f, q5g, q5h, q5i, q5j⟩ := Y_14.out.cells
  obtain ⟨q6a, q6b, q6c, q6d, q6e, q6f, q6g, q6h, q6i, q6j⟩ := P_14.out.cells
  obtain ⟨q7a, q7b, q7c, q7d, q7e, q7f, q7g, q7h, q7i, q7j⟩ := Q_14.out.cells
  go_wp2_with fail
  refine at_world ?_
  intro W5 hW5
  clear q5a q5b q5c q5d q5e q5f q5g q5h q5i q5j q6a q6b q6c q6d q6e q6f q6g q6h q6i q6j q7a q7b q7c q7d q7e q7f q7g q7h q7i q7j
  have G_15 : Hid (Below w.heap.size w W5) := Lib.hid (by rw [hW5]; exact G_14.out)
  have Y_15 : Hid (XB W5 w.heap.size ny (.slice A1 n1 c1) s1 f1) := Lib.hid (by rw [hW5]; exact Y_14.out)
  have O_15 : Hid (XOk W5 (.slice A1 n1 c1) N s1 f1) := Lib.hid (by rw [hW5]; exact O_14.out)
  have P_15 : Hid (XB W5 w2.heap.size neg (.slice none 0 0) a b) := Lib.hid (by rw [hW5]; exact P_14.out)
  have Q_15 : Hid (XB W5 w3.heap.size neg (.slice none 0 0) 0 0) := Lib.hid (by rw [hW5]; exact Q_14.out)
  clear G_14 Y_14 O_14 P_14 Q_14
  clear hW5
  with_reducible (refine (KR.out _).mono ?_)
  rintro _ w5 ⟨rfl, b5⟩
  have G_16 := Lib.hid (bthen G_15.out b5)
  have Y_16 := Lib.hid (Y_15.out.below b5)
  have O_16 := Lib.hid (O_15.out.below b5)
  have P_16 := Lib.hid (P_15.out.below b5)
  have Q_16 := Lib.hid (Q_15.out.below b5)
  clear G_15 Y_15 O_15 P_15 Q_15
  clear b5 KR
  obtain ⟨q8a, q8b, q8c, q8d, q8e, q8f, q8g, q8h, q8i, q8j⟩ := Y_16.out.cells
  obtain ⟨q9a, q9b, q9c, q9d, q9e, q9f, q9g, q9h, q9i, q9j⟩ := P_16.out.cells
  obtain ⟨q10a, q10b, q10c, q10d, q10e, q10f, q10g, q10h, q10i, q10j⟩ := Q_16.out.cells
  go_wp2_with fail
  refine at_world ?_
  intro W6 hW6
  clear q8a q8b q8c q8d q8e q8f q8g q8h q8i q8j q9a q9b q9c q9d q9e q9f q9g q9h q9i q9j q10a q10b q10c q10d q10e q10f q10g q10h q10i q10j
  have G_17 : Hid (Below w.heap.size w W6) := Lib.hid (by rw [hW6]; exact G_16.out)
  have Y_17 : Hid (XB W6 w.heap.size ny (.slice A1 n1 c1) s1 f1) := Lib.hid (by rw [hW6]; exact Y_16.out)
  have O_17 : Hid (XOk W6 (.slice A1 n1 c1) N s1 f1) := Lib.hid (by rw [hW6]; exact O_16.out)
  have P_17 : Hid (XB W6 w2.heap.size neg (.slice none 0 0) a b) := Lib.hid (by rw [hW6]; exact P_16.out)
  have Q_17 : Hid (XB W6 w3.heap.size neg (.slice none 0 0) 0 0) := Lib.hid (by rw [hW6]; exact Q_16.out)
  clear G_16 Y_16 O_16 P_16 Q_16
  clear hW6
  with_reducible (refine (KL.out _).mono ?_)
  rintro _ w6 ⟨rfl, b6⟩
  have G_18 := Lib.hid (bthen G_17.out b6)
  have Y_18 := Lib.hid (Y_17.out.below b6)
  have O_18 := Lib.hid (O_17.out.below b6)
  have P_18 := Lib.hid (P_17.out.below b6)
  have Q_18 := Lib.hid (Q_17.out.below b6)
  clear G_17 Y_17 O_17 P_17 Q_17
  clear b6 KL
  obtain ⟨q11a, q11b, q11c, q11d, q11e, q11f, q11g, q11h, q11i, q11j⟩ := Y_18.out.cells
  obtain ⟨q12a, q12b, q12c, q12d, q12e, q12f, q12g, q12h, q12i, q12j⟩ := P_18.out.cells
  obtain ⟨q13a, q13b, q13c, q13d, q13e, q13f, q13g, q13h, q13i, q13j⟩ := Q_18.out.cells
  go_wp2_with fail
  refine at_world ?_
  intro W7 hW7
  clear q11a q11b q11c q11d q11e q11f q11g q11h q11i q11j q12a q12b q12c q12d q12e q12f q12g q12h q12i q12j q13a q13b q13c q13d q13e q13f q13g q13h q13i q13j
  have G_19 : Hid (Below w.heap.size w W7) := Lib.hid (by rw [hW7]; exact G_18.out)
  have Y_19 : Hid (XB W7 w.heap.size ny (.slice A1 n1 c1) s1 f1) := Lib.hid (by rw [hW7]; exact Y_18.out)
  have O_19 : Hid (XOk W7 (.slice A1 n1 c1) N s1 f1) := Lib.hid (by rw [hW7]; exact O_18.out)
  have P_19 : Hid (XB W7 w2.heap.size neg (.slice none 0 0) a b) := Lib.hid (by rw [hW7]; exact P_18.out)
  have Q_19 : Hid (XB W7 w3.heap.size neg (.slice none 0 0) 0 0) := Lib.hid (by rw [hW7]; exact Q_18.out)
  clear G_18 Y_18 O_18 P_18 Q_18
  clear hW7
  with_reducible (refine (KC.out _ O_19.out).mono ?_)
  rintro _ w7 ⟨rfl, b7⟩
  have G_20 := Lib.hid (bthen G_19.out b7)
  have Y_20 := Lib.hid (Y_19.out.below b7)
  have O_20 := Lib.hid (O_19.out.below b7)
  have P_20 := Lib.hid (P_19.out.below b7)
  have Q_20 := Lib.hid (Q_19.out.below b7)
  clear G_19 Y_19 O_19 P_19 Q_19
  clear b7 KC
  rcases Nat.eq_zero_or_pos N with hN | hN
  · obtain rfl : n1 = 0 := HZ.out.2 hN
    obtain rfl : cv = 0 := by rw [← HCV.out]; exact (cmp_nil N).1 hN
    obtain rfl : sv = 0 := by rw [← HSV.out]; exact (sgn_nil _ _ _ _ _ _ _).1 hN
    clear hN
    cases ny with
    | true =>
      obtain ⟨q14a, q14b, q14c, q14d, q14e, q14f, q14g, q14h, q14i, q14j⟩ := Y_20.out.cells
      obtain ⟨q15a, q15b, q15c, q15d, q15e, q15f, q15g, q15h, q15i, q15j⟩ := P_20.out.cells
      obtain ⟨q16a, q16b, q16c, q16d, q16e, q16f, q16g, q16h, q16i, q16j⟩ := Q_20.out.cells
      go_wp2_with fail
      refine at_code ?_
      intro W8 hW8
      clear q14a q14b q14c q14d q14e q14f q14g q14h q14i q14j q15a q15b q15c q15d q15e q15f q15g q15h q15i q15j q16a q16b q16c q16d q16e q16f q16g q16h q16i q16j
      have G_21 : Hid (Below w.heap.size w W8) := Lib.hid (by rw [hW8]; exact G_20.out)
      have Y_21 : Hid (XB W8 w.heap.size true (.slice A1 0 c1) s1 f1) := Lib.hid (by rw [hW8]; exact Y_20.out)
      have O_21 : Hid (XOk W8 (.slice A1 0 c1) N s1 f1) := Lib.hid (by rw [hW8]; exact O_20.out)
      have P_21 : Hid (XB W8 w2.heap.size neg (.slice none 0 0) a b) := Lib.hid (by rw [hW8]; exact P_20.out)
      have Q_21 : Hid (XB W8 w3.heap.size neg (.slice none 0 0) 0 0) := Lib.hid (by rw [hW8]; exact Q_20.out)
      clear G_20 Y_20 O_20 P_20 Q_20
      clear hW8
      have K1_8 : Hid (∀ w', Hid (Below W8.heap.size W8 w') → Hid (Below W8.heap.size W8 w') ∧ (w'.cell? { block := w.heap.size, off := 0 } = some (.bool true) ∧ w'.cell? { block := w.heap.size, off := 1 } = some (.slice A1 0 c1) ∧ w'.cell? { block := w.heap.size, off := 2 } = some (.int .i64 s1) ∧ w'.cell? { block := w.heap.size, off := 3 } = some (.int .i64 f1)) ∧ (w'.cell? { block := w2.heap.size, off := 0 } = some (.bool neg) ∧ w'.cell? { block := w2.heap.size, off := 1 } = some (.slice none 0 0) ∧ w'.cell? { block := w2.heap.size, off := 2 } = some (.int .i64 a) ∧ w'.cell? { block := w2.heap.size, off := 3 } = some (.int .i64 b))) := Lib.hid (fun w' h => ⟨h, (Y_21.out.below h.out).four, (P_21.out.below h.out).four⟩)
      have KS_8 := Lib.hid (fun w1 w2 (h : Hid (Below W8.heap.size W8 w1)) (b : Below w1.heap.size w1 w2) => K1_8.out w2 (hbthen h b))
      have K0_8 := Lib.hid (K1_8.out _ (Lib.hid (bdrewN (Below.refl _ _) 1)))
      go_region_held3 (fun w' => Hid (Below W8.heap.size W8 w') ∧ (w'.cell? { block := w.heap.size, off := 0 } = some (.bool true) ∧ w'.cell? { block := w.heap.size, off := 1 } = some (.slice A1 0 c1) ∧ w'.cell? { block := w.heap.size, off := 2 } = some (.int .i64 s1) ∧ w'.cell? { block := w.heap.size, off := 3 } = some (.int .i64 f1)) ∧ (w'.cell? { block := w2.heap.size, off := 0 } = some (.bool neg) ∧ w'.cell? { block := w2.heap.size, off := 1 } = some (.slice none 0 0) ∧ w'.cell? { block := w2.heap.size, off := 2 } = some (.int .i64 a) ∧ w'.cell? { block := w2.heap.size, off := 3 } = some (.int .i64 b)))
        (first | assumption | exact K0_8.out | exact KS_8.out _ _ (And.left (by assumption)) (by assumption))
        (first | ((go_at_call 28); (with_reducible (refine Calls.mono (KS.out _) ?_)); (rintro e wz ⟨rfl, ba⟩))
               | ((go_at_call 28); (with_reducible (refine Calls.mono (KT.out _ (O_21.out.below (Hid.out (And.left (by assumption))))) ?_)); (rintro e wz ⟨rfl, bb⟩)))
      rename_i hS8
      have b8 := hS8.1.out
      have G_22 := Lib.hid (bthen G_21.out b8)
      have Y_22 := Lib.hid (Y_21.out.below b8)
      have O_22 := Lib.hid (O_21.out.below b8)
      have P_22 := Lib.hid (P_21.out.below b8)
      have Q_22 := Lib.hid (Q_21.out.below b8)
      clear G_21 Y_21 O_21 P_21 Q_21
      clear b8 K1_8 KS_8 K0_8
      go_wp2_with fail
      go_ret
      exact ⟨rfl, G_22.out⟩
    | false =>
      obtain ⟨q14a, q14b, q14c, q14d, q14e, q14f, q14g, q14h, q14i, q14j⟩ := Y_20.out.cells
      obtain ⟨q15a, q15b, q15c, q15d, q15e, q15f, q15g, q15h, q15i, q15j⟩ := P_20.out.cells
      obtain ⟨q16a, q16b, q16c, q16d, q16e, q16f, q16g, q16h, q16i, q16j⟩ := Q_20.out.cells
      go_wp2_with fail
      refine at_code ?_
      intro W8 hW8
      clear q14a q14b q14c q14d q14e q14f q14g q14h q14i q14j q15a q15b q15c q15d q15e q15f q15g q15h q15i q15j q16a q16b q16c q16d q16e q16f q16g q16h q16i q16j
      have G_21 : Hid (Below w.heap.size w W8) := Lib.hid (by rw [hW8]; exact G_20.out)
      have Y_21 : Hid (XB W8 w.heap.size false (.slice A1 0 c1) s1 f1) := Lib.hid (by rw [hW8]; exact Y_20.out)
      have O_21 : Hid (XOk W8 (.slice A1 0 c1) N s1 f1) := Lib.hid (by rw [hW8]; exact O_20.out)
      have P_21 : Hid (XB W8 w2.heap.size neg (.slice none 0 0) a b) := Lib.hid (by rw [hW8]; exact P_20.out)
      have Q_21 : Hid (XB W8 w3.heap.size neg (.slice none 0 0) 0 0) := Lib.hid (by rw [hW8]; exact Q_20.out)
      clear G_20 Y_20 O_20 P_20 Q_20
      clear hW8
      have K1_8 : Hid (∀ w', Hid (Below W8.heap.size W8 w') → Hid (Below W8.heap.size W8 w') ∧ (w'.cell? { block := w.heap.size, off := 0 } = some (.bool false) ∧ w'.cell? { block := w.heap.size, off := 1 } = some (.slice A1 0 c1) ∧ w'.cell? { block := w.heap.size, off := 2 } = some (.int .i64 s1) ∧ w'.cell? { block := w.heap.size, off := 3 } = some (.int .i64 f1)) ∧ (w'.cell? { block := w2.heap.size, off := 0 } = some (.bool neg) ∧ w'.cell? { block := w2.heap.size, off := 1 } = some (.slice none 0 0) ∧ w'.cell? { block := w2.heap.size, off := 2 } = some (.int .i64 a) ∧ w'.cell? { block := w2.heap.size, off := 3 } = some (.int .i64 b))) := Lib.hid (fun w' h => ⟨h, (Y_21.out.below h.out).four, (P_21.out.below h.out).four⟩)
      have KS_8 := Lib.hid (fun w1 w2 (h : Hid (Below W8.heap.size W8 w1)) (b : Below w1.heap.size w1 w2) => K1_8.out w2 (hbthen h b))
      refine wp_region_held_drew (S := fun w' => Hid (Below W8.heap.size W8 w') ∧ (w'.cell? { block := w.heap.size, off := 0 } = some (.bool false) ∧ w'.cell? { block := w.heap.size, off := 1 } = some (.slice A1 0 c1) ∧ w'.cell? { block := w.heap.size, off := 2 } = some (.int .i64 s1) ∧ w'.cell? { block := w.heap.size, off := 3 } = some (.int .i64 f1)) ∧ (w'.cell? { block := w2.heap.size, off := 0 } = some (.bool neg) ∧ w'.cell? { block := w2.heap.size, off := 1 } = some (.slice none 0 0) ∧ w'.cell? { block := w2.heap.size, off := 2 } = some (.int .i64 a) ∧ w'.cell? { block := w2.heap.size, off := 3 } = some (.int .i64 b))) (by kernel_rfl) (K1_8.out _ (Lib.hid (bdrewN (Below.refl _ _) 1))) (fun hH => ?_)
      refine take_p (i := 0) (oi := ?_) (v := ?_) ?_ ?_ ?_ ?_ ?_ ?_ ?_ hH ?_
      rotate_left 2
      · (simp only [List.getElem?_toArray, List.getElem?_cons_succ, List.getElem?_cons_zero]; rfl)
      · kernel_rfl
      · kernel_rfl
      · kernel_rfl
      · exact fun _ _ _ h => h
      · rfl
      · (intro w hSw; (try dsimp only at hSw); go_simp; all_goals (with_reducible rfl))
      try simp only [Act.put, List.setIfInBounds_toArray, List.set_cons_zero, List.set_cons_succ]
      refine take_p (i := 1) (oi := ?_) (v := ?_) ?_ ?_ ?_ ?_ ?_ ?_ ?_ hH ?_
      rotate_left 2
      · (simp only [List.getElem?_toArray, List.getElem?_cons_succ, List.getElem?_cons_zero]; rfl)
      · kernel_rfl
      · kernel_rfl
      · kernel_rfl
      · exact fun _ _ _ h => h
      · rfl
      · (intro w hSw; (try dsimp only at hSw); go_simp; all_goals (with_reducible rfl))
      try simp only [Act.put, List.setIfInBounds_toArray, List.set_cons_zero, List.set_cons_succ]
      refine take_p (i := 2) (oi := ?_) (v := ?_) ?_ ?_ ?_ ?_ ?_ ?_ ?_ hH ?_
      rotate_left 2
      · (simp only [List.getElem?_toArray, List.getElem?_cons_succ, List.getElem?_cons_zero]; rfl)
      · kernel_rfl
      · kernel_rfl
      · kernel_rfl
      · exact fun _ _ _ h => h
      · rfl
      · (intro w hSw; (try dsimp only at hSw); go_simp; all_goals (with_reducible rfl))
      try simp only [Act.put, List.setIfInBounds_toArray, List.set_cons_zero, List.set_cons_succ]
      refine take_p (i := 3) (oi := ?_) (v := ?_) ?_ ?_ ?_ ?_ ?_ ?_ ?_ hH ?_
      rotate_left 2
      · (simp only [List.getElem?_toArray, List.getElem?_cons_succ, List.getElem?_cons_zero]; rfl)
      · kernel_rfl
      · kernel_rfl
      · kernel_rfl
      · exact fun _ _ _ h => h
      · rfl
      · (intro w hSw; (try dsimp only at hSw); go_simp; all_goals (with_reducible rfl))
      try simp only [Act.put, List.setIfInBounds_toArray, List.set_cons_zero, List.set_cons_succ]
      refine take_p (i := 4) (oi := ?_) (v := ?_) ?_ ?_ ?_ ?_ ?_ ?_ ?_ hH ?_
      rotate_left 2
      · (simp only [List.getElem?_toArray, List.getElem?_cons_succ, List.getElem?_cons_zero]; rfl)
      · kernel_rfl
      · kernel_rfl
      · kernel_rfl
      · exact fun _ _ _ h => h
      · rfl
      · (intro w hSw; (try dsimp only at hSw); go_simp; all_goals (with_reducible rfl))
      try simp only [Act.put, List.setIfInBounds_toArray, List.set_cons_zero, List.set_cons_succ]
      refine take_p (i := 5) (oi := ?_) (v := ?_) ?_ ?_ ?_ ?_ ?_ ?_ ?_ hH ?_
      rotate_left 2
      · (simp only [List.getElem?_toArray, List.getElem?_cons_succ, List.getElem?_cons_zero]; rfl)
      · kernel_rfl
      · kernel_rfl
      · kernel_rfl
      · exact fun _ _ _ h => h
      · rfl
      · (intro w hSw; (try dsimp only at hSw); go_simp; all_goals (with_reducible rfl))
      try simp only [Act.put, List.setIfInBounds_toArray, List.set_cons_zero, List.set_cons_succ]
      refine take_p (i := 6) (oi := ?_) (v := ?_) ?_ ?_ ?_ ?_ ?_ ?_ ?_ hH ?_
      rotate_left 2
      · (simp only [List.getElem?_toArray, List.getElem?_cons_succ, List.getElem?_cons_zero]; rfl)
      · kernel_rfl
      · kernel_rfl
      · kernel_rfl
      · exact fun _ _ _ h => h
      · rfl
      · (intro w hSw; (try dsimp only at hSw); go_simp; all_goals (with_reducible rfl))
      try simp only [Act.put, List.setIfInBounds_toArray, List.set_cons_zero, List.set_cons_succ]
      refine take_p (i := 7) (oi := ?_) (v := ?_) ?_ ?_ ?_ ?_ ?_ ?_ ?_ hH ?_
      rotate_left 2
      · (simp only [List.getElem?_toArray, List.getElem?_cons_succ, List.getElem?_cons_zero]; rfl)
      · kernel_rfl
      · kernel_rfl
      · kernel_rfl
      · exact fun _ _ _ h => h
      · rfl
      · (intro w hSw; (try dsimp only at hSw); go_simp; all_goals (with_reducible rfl))
      try simp only [Act.put, List.setIfInBounds_toArray, List.set_cons_zero, List.set_cons_succ]
      refine take_p (i := 8) (oi := ?_) (v := ?_) ?_ ?_ ?_ ?_ ?_ ?_ ?_ hH ?_
      rotate_left 2
      · (simp only [List.getElem?_toArray, List.getElem?_cons_succ, List.getElem?_cons_zero]; rfl)
      · kernel_rfl
      · kernel_rfl
      · kernel_rfl
      · exact fun _ _ _ h => h
      · rfl
      · (intro w hSw; (try dsimp only at hSw); go_simp; all_goals (with_reducible rfl))
      try simp only [Act.put, List.setIfInBounds_toArray, List.set_cons_zero, List.set_cons_succ]
      refine take_p (i := 9) (oi := ?_) (v := ?_) ?_ ?_ ?_ ?_ ?_ ?_ ?_ hH ?_
      rotate_left 2
      · (simp only [List.getElem?_toArray, List.getElem?_cons_succ, List.getElem?_cons_zero]; rfl)
      · kernel_rfl
      · kernel_rfl
      · kernel_rfl
      · exact fun _ _ _ h => h
      · rfl
      · (intro w hSw; (try dsimp only at hSw); go_simp; all_goals (with_reducible rfl))
      try simp only [Act.put, List.setIfInBounds_toArray, List.set_cons_zero, List.set_cons_succ]
      refine take_p (i := 10) (oi := ?_) (v := ?_) ?_ ?_ ?_ ?_ ?_ ?_ ?_ hH ?_
      rotate_left 2
      · (simp only [List.getElem?_toArray, List.getElem?_cons_succ, List.getElem?_cons_zero]; rfl)
      · kernel_rfl
      · kernel_rfl
      · kernel_rfl
      · exact fun _ _ _ h => h
      · rfl
      · (intro w hSw; (try dsimp only at hSw); go_simp; all_goals (with_reducible rfl))
      try simp only [Act.put, List.setIfInBounds_toArray, List.set_cons_zero, List.set_cons_succ]
      refine take_p (i := 11) (oi := ?_) (v := ?_) ?_ ?_ ?_ ?_ ?_ ?_ ?_ hH ?_
      rotate_left 2
      · (simp only [List.getElem?_toArray, List.getElem?_cons_succ, List.getElem?_cons_zero]; rfl)
      · kernel_rfl
      · kernel_rfl
      · kernel_rfl
      · exact fun _ _ _ h => h
      · rfl
      · (intro w hSw; (try dsimp only at hSw); go_simp; all_goals (with_reducible rfl))
      try simp only [Act.put, List.setIfInBounds_toArray, List.set_cons_zero, List.set_cons_succ]
      refine take_p (i := 12) (oi := ?_) (v := ?_) ?_ ?_ ?_ ?_ ?_ ?_ ?_ hH ?_
      rotate_left 2
      · (simp only [List.getElem?_toArray, List.getElem?_cons_succ, List.getElem?_cons_zero]; rfl)
      · kernel_rfl
      · kernel_rfl
      · kernel_rfl
      · exact fun _ _ _ h => h
      · rfl
      · (intro w hSw; (try dsimp only at hSw); go_simp; all_goals (with_reducible rfl))
      try simp only [Act.put, List.setIfInBounds_toArray, List.set_cons_zero, List.set_cons_succ]
      refine take_p (i := 13) (oi := ?_) (v := ?_) ?_ ?_ ?_ ?_ ?_ ?_ ?_ hH ?_
      rotate_left 2
      · (simp only [List.getElem?_toArray, List.getElem?_cons_succ, List.getElem?_cons_zero]; rfl)
      · kernel_rfl
      · kernel_rfl
      · kernel_rfl
      · exact fun _ _ _ h => h
      · rfl
      · (intro w hSw; (try dsimp only at hSw); go_simp; all_goals (with_reducible rfl))
      try simp only [Act.put, List.setIfInBounds_toArray, List.set_cons_zero, List.set_cons_succ]
      refine take_p (i := 14) (oi := ?_) (v := ?_) ?_ ?_ ?_ ?_ ?_ ?_ ?_ hH ?_
      rotate_left 2
      · (simp only [List.getElem?_toArray, List.getElem?_cons_succ, List.getElem?_cons_zero]; rfl)
      · kernel_rfl
      · kernel_rfl
      · kernel_rfl
      · exact fun _ _ _ h => h
      · rfl
      · (intro w hSw; (try dsimp only at hSw); go_simp; all_goals (with_reducible rfl))
      try simp only [Act.put, List.setIfInBounds_toArray, List.set_cons_zero, List.set_cons_succ]
      refine take_p (i := 15) (oi := ?_) (v := ?_) ?_ ?_ ?_ ?_ ?_ ?_ ?_ hH ?_
      rotate_left 2
      · (simp only [List.getElem?_toArray, List.getElem?_cons_succ, List.getElem?_cons_zero]; rfl)
      · kernel_rfl
      · kernel_rfl
      · kernel_rfl
      · exact fun _ _ _ h => h
      · rfl
      · (intro w hSw; (try dsimp only at hSw); go_simp; all_goals (with_reducible rfl))
      try simp only [Act.put, List.setIfInBounds_toArray, List.set_cons_zero, List.set_cons_succ]
      refine take_p (i := 16) (oi := ?_) (v := ?_) ?_ ?_ ?_ ?_ ?_ ?_ ?_ hH ?_
      rotate_left 2
      · (simp only [List.getElem?_toArray, List.getElem?_cons_succ, List.getElem?_cons_zero]; rfl)
      · kernel_rfl
      · kernel_rfl
      · kernel_rfl
      · exact fun _ _ _ h => h
      · rfl
      · (intro w hSw; (try dsimp only at hSw); go_simp; all_goals (with_reducible rfl))
      try simp only [Act.put, List.setIfInBounds_toArray, List.set_cons_zero, List.set_cons_succ]
      refine wpAnyH_ready (rs := [17]) (by kernel_rfl) (by simp) ?_
      refine AllReadyH.cons rfl (fun K hK => ?_) AllReadyH.nil
      go_simp
      go_at_call 28
      with_reducible (refine Calls.mono (KS.out _) ?_)
      rintro e wz1 ⟨rfl, bz⟩
      go_simp
      refine hK.out _ _ (KS_8.out _ _ hH.1 bz) (fun hHeld => ?_)
      clear hK K
      replace hH := hHeld
      clear hHeld bz
      try simp only [Act.put, List.setIfInBounds_toArray, List.set_cons_zero, List.set_cons_succ]
      refine take_p (i := 18) (oi := ?_) (v := ?_) ?_ ?_ ?_ ?_ ?_ ?_ ?_ hH ?_
      rotate_left 2
      · (simp only [List.getElem?_toArray, List.getElem?_cons_succ, List.getElem?_cons_zero]; rfl)
      · kernel_rfl
      · kernel_rfl
      · kernel_rfl
      · exact fun _ _ _ h => h
      · rfl
      · (intro w hSw; (try dsimp only at hSw); go_simp; all_goals (with_reducible rfl))
      try simp only [Act.put, List.setIfInBounds_toArray, List.set_cons_zero, List.set_cons_succ]
      refine take_p (i := 19) (oi := ?_) (v := ?_) ?_ ?_ ?_ ?_ ?_ ?_ ?_ hH ?_
      rotate_left 2
      · (simp only [List.getElem?_toArray, List.getElem?_cons_succ, List.getElem?_cons_zero]; rfl)
      · kernel_rfl
      · kernel_rfl
      · kernel_rfl
      · exact fun _ _ _ h => h
      · rfl
      · (intro w hSw; (try dsimp only at hSw); go_simp; all_goals (with_reducible rfl))
      try simp only [Act.put, List.setIfInBounds_toArray, List.set_cons_zero, List.set_cons_succ]
      refine take_p (i := 20) (oi := ?_) (v := ?_) ?_ ?_ ?_ ?_ ?_ ?_ ?_ hH ?_
      rotate_left 2
      · (simp only [List.getElem?_toArray, List.getElem?_cons_succ, List.getElem?_cons_zero]; rfl)
      · kernel_rfl
      · kernel_rfl
      · kernel_rfl
      · exact fun _ _ _ h => h
      · rfl
      · (intro w hSw; (try dsimp only at hSw); go_simp; all_goals (with_reducible rfl))
      try simp only [Act.put, List.setIfInBounds_toArray, List.set_cons_zero, List.set_cons_succ]
      refine take_p (i := 21) (oi := ?_) (v := ?_) ?_ ?_ ?_ ?_ ?_ ?_ ?_ hH ?_
      rotate_left 2
      · (simp only [List.getElem?_toArray, List.getElem?_cons_succ, List.getElem?_cons_zero]; rfl)
      · kernel_rfl
      · kernel_rfl
      · kernel_rfl
      · exact fun _ _ _ h => h
      · rfl
      · (intro w hSw; (try dsimp only at hSw); go_simp; all_goals (with_reducible rfl))
      try simp only [Act.put, List.setIfInBounds_toArray, List.set_cons_zero, List.set_cons_succ]
      refine take_p (i := 22) (oi := ?_) (v := ?_) ?_ ?_ ?_ ?_ ?_ ?_ ?_ hH ?_
      rotate_left 2
      · (simp only [List.getElem?_toArray, List.getElem?_cons_succ, List.getElem?_cons_zero]; rfl)
      · kernel_rfl
      · kernel_rfl
      · kernel_rfl
      · exact fun _ _ _ h => h
      · rfl
      · (intro w hSw; (try dsimp only at hSw); go_simp; all_goals (with_reducible rfl))
      try simp only [Act.put, List.setIfInBounds_toArray, List.set_cons_zero, List.set_cons_succ]
      refine take_p (i := 25) (oi := ?_) (v := ?_) ?_ ?_ ?_ ?_ ?_ ?_ ?_ hH ?_
      rotate_left 2
      · (simp only [List.getElem?_toArray, List.getElem?_cons_succ, List.getElem?_cons_zero]; rfl)
      · kernel_rfl
      · kernel_rfl
      · kernel_rfl
      · exact fun _ _ _ h => h
      · rfl
      · (intro w hSw; (try dsimp only at hSw); go_simp; all_goals (with_reducible rfl))
      try simp only [Act.put, List.setIfInBounds_toArray, List.set_cons_zero, List.set_cons_succ]
      refine take_p (i := 26) (oi := ?_) (v := ?_) ?_ ?_ ?_ ?_ ?_ ?_ ?_ hH ?_
      rotate_left 2
      · (simp only [List.getElem?_toArray, List.getElem?_cons_succ, List.getElem?_cons_zero]; rfl)
      · kernel_rfl
      · kernel_rfl
      · kernel_rfl
      · exact fun _ _ _ h => h
      · rfl
      · (intro w hSw; (try dsimp only at hSw); go_simp; all_goals (with_reducible rfl))
      try simp only [Act.put, List.setIfInBounds_toArray, List.set_cons_zero, List.set_cons_succ]
      refine wpAnyH_ready (rs := [23]) (by kernel_rfl) (by simp) ?_
      refine AllReadyH.cons rfl (fun K hK => ?_) AllReadyH.nil
      go_simp
      go_at_call 28
      with_reducible (refine Calls.mono (KT.out _ (O_21.out.below hH.1.out)) ?_)
      rintro e wz2 ⟨rfl, bz⟩
      go_simp
      refine hK.out _ _ (KS_8.out _ _ hH.1 bz) (fun hHeld => ?_)
      clear hK K
      replace hH := hHeld
      clear hHeld bz
      try simp only [Act.put, List.setIfInBounds_toArray, List.set_cons_zero, List.set_cons_succ]
      refine take_p (i := 24) (oi := ?_) (v := ?_) ?_ ?_ ?_ ?_ ?_ ?_ ?_ hH ?_
      rotate_left 2
      · (simp only [List.getElem?_toArray, List.getElem?_cons_succ, List.getElem?_cons_zero]; rfl)
      · kernel_rfl
      · kernel_rfl
      · kernel_rfl
      · exact fun _ _ _ h => h
      · rfl
      · (intro w hSw; (try dsimp only at hSw); go_simp; all_goals (with_reducible rfl))
      try simp only [Act.put, List.setIfInBounds_toArray, List.set_cons_zero, List.set_cons_succ]
      refine take_p (i := 27) (oi := ?_) (v := ?_) ?_ ?_ ?_ ?_ ?_ ?_ ?_ hH ?_
      rotate_left 2
      · (simp only [List.getElem?_toArray, List.getElem?_cons_succ, List.getElem?_cons_zero]; rfl)
      · kernel_rfl
      · kernel_rfl
      · kernel_rfl
      · exact fun _ _ _ h => h
      · rfl
      · (intro w hSw; (try dsimp only at hSw); go_simp; all_goals (with_reducible rfl))
      try simp only [Act.put, List.setIfInBounds_toArray, List.set_cons_zero, List.set_cons_succ]
      refine take_u (i := 28) (oi := ?_) ?_ ?_ ?_ ?_ ?_ ?_ hH ?_
      rotate_left 1
      · (simp only [List.getElem?_toArray, List.getElem?_cons_succ, List.getElem?_cons_zero]; rfl)
      · kernel_rfl
      · kernel_rfl
      · kernel_rfl
      · exact fun _ _ _ h => h
      · rfl
      try simp only [Act.put, List.setIfInBounds_toArray, List.set_cons_zero, List.set_cons_succ]
      refine take_u (i := 29) (oi := ?_) ?_ ?_ ?_ ?_ ?_ ?_ hH ?_
      rotate_left 1
      · (simp only [List.getElem?_toArray, List.getElem?_cons_succ, List.getElem?_cons_zero]; rfl)
      · kernel_rfl
      · kernel_rfl
      · kernel_rfl
      · exact fun _ _ _ h => h
      · rfl
      try simp only [Act.put, List.setIfInBounds_toArray, List.set_cons_zero, List.set_cons_succ]
      refine take_u (i := 30) (oi := ?_) ?_ ?_ ?_ ?_ ?_ ?_ hH ?_
      rotate_left 1
      · (simp only [List.getElem?_toArray, List.getElem?_cons_succ, List.getElem?_cons_zero]; rfl)
      · kernel_rfl
      · kernel_rfl
      · kernel_rfl
      · exact fun _ _ _ h => h
      · rfl
      try simp only [Act.put, List.setIfInBounds_toArray, List.set_cons_zero, List.set_cons_succ]
      refine take_u (i := 31) (oi := ?_) ?_ ?_ ?_ ?_ ?_ ?_ hH ?_
      rotate_left 1
      · (simp only [List.getElem?_toArray, List.getElem?_cons_succ, List.getElem?_cons_zero]; rfl)
      · kernel_rfl
      · kernel_rfl
      · kernel_rfl
      · exact fun _ _ _ h => h
      · rfl
      try simp only [Act.put, List.setIfInBounds_toArray, List.set_cons_zero, List.set_cons_succ]
      refine take_p (i := 32) (oi := ?_) (v := ?_) ?_ ?_ ?_ ?_ ?_ ?_ ?_ hH ?_
      rotate_left 2
      · (simp only [List.getElem?_toArray, List.getElem?_cons_succ, List.getElem?_cons_zero]; rfl)
      · kernel_rfl
      · kernel_rfl
      · kernel_rfl
      · exact fun _ _ _ h => h
      · rfl
      · (intro w hSw; (try dsimp only at hSw); go_simp; all_goals (with_reducible rfl))
      try simp only [Act.put, List.setIfInBounds_toArray, List.set_cons_zero, List.set_cons_succ]
      refine take_p (i := 33) (oi := ?_) (v := ?_) ?_ ?_ ?_ ?_ ?_ ?_ ?_ hH ?_
      rotate_left 2
      · (simp only [List.getElem?_toArray, List.getElem?_cons_succ, List.getElem?_cons_zero]; rfl)
      · kernel_rfl
      · kernel_rfl
      · kernel_rfl
      · exact fun _ _ _ h => h
      · rfl
      · (intro w hSw; (try dsimp only at hSw); go_simp; all_goals (with_reducible rfl))
      try simp only [Act.put, List.setIfInBounds_toArray, List.set_cons_zero, List.set_cons_succ]
      refine take_p (i := 34) (oi := ?_) (v := ?_) ?_ ?_ ?_ ?_ ?_ ?_ ?_ hH ?_
      rotate_left 2
      · (simp only [List.getElem?_toArray, List.getElem?_cons_succ, List.getElem?_cons_zero]; rfl)
      · kernel_rfl
      · kernel_rfl
      · kernel_rfl
      · exact fun _ _ _ h => h
      · rfl
      · (intro w hSw; (try dsimp only at hSw); go_simp; all_goals (with_reducible rfl))
      try simp only [Act.put, List.setIfInBounds_toArray, List.set_cons_zero, List.set_cons_succ]
      refine take_p (i := 35) (oi := ?_) (v := ?_) ?_ ?_ ?_ ?_ ?_ ?_ ?_ hH ?_
      rotate_left 2
      · (simp only [List.getElem?_toArray, List.getElem?_cons_succ, List.getElem?_cons_zero]; rfl)
      · kernel_rfl
      · kernel_rfl
      · kernel_rfl
      · exact fun _ _ _ h => h
      · rfl
      · (intro w hSw; (try dsimp only at hSw); go_simp; all_goals (with_reducible rfl))
      try simp only [Act.put, List.setIfInBounds_toArray, List.set_cons_zero, List.set_cons_succ]
      refine wpAnyH_done (by kernel_rfl) ?_ _
      have b8 := hH.1.out
      clear hH
      have G_22 := Lib.hid (bthen G_21.out b8)
      have Y_22 := Lib.hid (Y_21.out.below b8)
      have O_22 := Lib.hid (O_21.out.below b8)
      have P_22 := Lib.hid (P_21.out.below b8)
      have Q_22 := Lib.hid (Q_21.out.below b8)
      clear G_21 Y_21 O_21 P_21 Q_21
      clear b8 K1_8 KS_8
      go_wp2_with fail
      go_ret
      exact ⟨rfl, G_22.out⟩
  · have z0 : n1 ≠ 0 := fun e => by have := HZ.out.1 e; omega
    have z1 : ((n1 : Int) == 0) = false := by simp; omega
    have z2 : decide ((0 : Int) < (n1 : Int)) = true := decide_eq_true (by omega)
    have z3 : decide (0 < n1) = true := decide_eq_true (by omega)
    obtain rfl : cv = -1 := by rw [← HCV.out]; exact (cmp_nil N).2 hN
    cases ny with
    | true =>
      obtain rfl : sv = 1 := by rw [← HSV.out]; exact (sgn_nil _ _ _ _ _ _ _).2.1 hN rfl
      clear hN z0
      obtain ⟨q14a, q14b, q14c, q14d, q14e, q14f, q14g, q14h, q14i, q14j⟩ := Y_20.out.cells
      obtain ⟨q15a, q15b, q15c, q15d, q15e, q15f, q15g, q15h, q15i, q15j⟩ := P_20.out.cells
      obtain ⟨q16a, q16b, q16c, q16d, q16e, q16f, q16g, q16h, q16i, q16j⟩ := Q_20.out.cells
      go_wp2_with fail
      refine at_code ?_
      intro W8 hW8
      clear q14a q14b q14c q14d q14e q14f q14g q14h q14i q14j q15a q15b q15c q15d q15e q15f q15g q15h q15i q15j q16a q16b q16c q16d q16e q16f q16g q16h q16i q16j
      have G_21 : Hid (Below w.heap.size w W8) := Lib.hid (by rw [hW8]; exact G_20.out)
      have Y_21 : Hid (XB W8 w.heap.size true (.slice A1 n1 c1) s1 f1) := Lib.hid (by rw [hW8]; exact Y_20.out)
      have O_21 : Hid (XOk W8 (.slice A1 n1 c1) N s1 f1) := Lib.hid (by rw [hW8]; exact O_20.out)
      have P_21 : Hid (XB W8 w2.heap.size neg (.slice none 0 0) a b) := Lib.hid (by rw [hW8]; exact P_20.out)
      have Q_21 : Hid (XB W8 w3.heap.size neg (.slice none 0 0) 0 0) := Lib.hid (by rw [hW8]; exact Q_20.out)
      clear G_20 Y_20 O_20 P_20 Q_20
      clear hW8
      have K1_8 : Hid (∀ w', Hid (Below W8.heap.size W8 w') → Hid (Below W8.heap.size W8 w') ∧ (w'.cell? { block := w.heap.size, off := 0 } = some (.bool true) ∧ w'.cell? { block := w.heap.size, off := 1 } = some (.slice A1 n1 c1) ∧ w'.cell? { block := w.heap.size, off := 2 } = some (.int .i64 s1) ∧ w'.cell? { block := w.heap.size, off := 3 } = some (.int .i64 f1)) ∧ (w'.cell? { block := w2.heap.size, off := 0 } = some (.bool neg) ∧ w'.cell? { block := w2.heap.size, off := 1 } = some (.slice none 0 0) ∧ w'.cell? { block := w2.heap.size, off := 2 } = some (.int .i64 a) ∧ w'.cell? { block := w2.heap.size, off := 3 } = some (.int .i64 b))) := Lib.hid (fun w' h => ⟨h, (Y_21.out.below h.out).four, (P_21.out.below h.out).four⟩)
      have KS_8 := Lib.hid (fun w1 w2 (h : Hid (Below W8.heap.size W8 w1)) (b : Below w1.heap.size w1 w2) => K1_8.out w2 (hbthen h b))
      have K0_8 := Lib.hid (K1_8.out _ (Lib.hid (bdrewN (Below.refl _ _) 1)))
      go_region_held3 (fun w' => Hid (Below W8.heap.size W8 w') ∧ (w'.cell? { block := w.heap.size, off := 0 } = some (.bool true) ∧ w'.cell? { block := w.heap.size, off := 1 } = some (.slice A1 n1 c1) ∧ w'.cell? { block := w.heap.size, off := 2 } = some (.int .i64 s1) ∧ w'.cell? { block := w.heap.size, off := 3 } = some (.int .i64 f1)) ∧ (w'.cell? { block := w2.heap.size, off := 0 } = some (.bool neg) ∧ w'.cell? { block := w2.heap.size, off := 1 } = some (.slice none 0 0) ∧ w'.cell? { block := w2.heap.size, off := 2 } = some (.int .i64 a) ∧ w'.cell? { block := w2.heap.size, off := 3 } = some (.int .i64 b)))
        (first | assumption | exact K0_8.out | exact KS_8.out _ _ (And.left (by assumption)) (by assumption))
        (first | ((go_at_call 28); (with_reducible (refine Calls.mono (KS.out _) ?_)); (rintro e wz ⟨rfl, ba⟩))
               | ((go_at_call 28); (with_reducible (refine Calls.mono (KT.out _ (O_21.out.below (Hid.out (And.left (by assumption))))) ?_)); (rintro e wz ⟨rfl, bb⟩)))
      rename_i hS8
      have b8 := hS8.1.out
      have G_22 := Lib.hid (bthen G_21.out b8)
      have Y_22 := Lib.hid (Y_21.out.below b8)
      have O_22 := Lib.hid (O_21.out.below b8)
      have P_22 := Lib.hid (P_21.out.below b8)
      have Q_22 := Lib.hid (Q_21.out.below b8)
      clear G_21 Y_21 O_21 P_21 Q_21
      clear b8 K1_8 KS_8 K0_8
      go_wp2_with fail
      go_ret
      exact ⟨rfl, G_22.out⟩
    | false =>
      obtain rfl : sv = -1 := by rw [← HSV.out]; exact (sgn_nil _ _ _ _ _ _ _).2.2 hN rfl
      clear hN z0
      obtain ⟨q14a, q14b, q14c, q14d, q14e, q14f, q14g, q14h, q14i, q14j⟩ := Y_20.out.cells
      obtain ⟨q15a, q15b, q15c, q15d, q15e, q15f, q15g, q15h, q15i, q15j⟩ := P_20.out.cells
      obtain ⟨q16a, q16b, q16c, q16d, q16e, q16f, q16g, q16h, q16i, q16j⟩ := Q_20.out.cells
      go_wp2_with fail
      refine at_code ?_
      intro W8 hW8
      clear q14a q14b q14c q14d q14e q14f q14g q14h q14i q14j q15a q15b q15c q15d q15e q15f q15g q15h q15i q15j q16a q16b q16c q16d q16e q16f q16g q16h q16i q16j
      have G_21 : Hid (Below w.heap.size w W8) := Lib.hid (by rw [hW8]; exact G_20.out)
      have Y_21 : Hid (XB W8 w.heap.size false (.slice A1 n1 c1) s1 f1) := Lib.hid (by rw [hW8]; exact Y_20.out)
      have O_21 : Hid (XOk W8 (.slice A1 n1 c1) N s1 f1) := Lib.hid (by rw [hW8]; exact O_20.out)
      have P_21 : Hid (XB W8 w2.heap.size neg (.slice none 0 0) a b) := Lib.hid (by rw [hW8]; exact P_20.out)
      have Q_21 : Hid (XB W8 w3.heap.size neg (.slice none 0 0) 0 0) := Lib.hid (by rw [hW8]; exact Q_20.out)
      clear G_20 Y_20 O_20 P_20 Q_20
      clear hW8
      have K1_8 : Hid (∀ w', Hid (Below W8.heap.size W8 w') → Hid (Below W8.heap.size W8 w') ∧ (w'.cell? { block := w.heap.size, off := 0 } = some (.bool false) ∧ w'.cell? { block := w.heap.size, off := 1 } = some (.slice A1 n1 c1) ∧ w'.cell? { block := w.heap.size, off := 2 } = some (.int .i64 s1) ∧ w'.cell? { block := w.heap.size, off := 3 } = some (.int .i64 f1)) ∧ (w'.cell? { block := w2.heap.size, off := 0 } = some (.bool neg) ∧ w'.cell? { block := w2.heap.size, off := 1 } = some (.slice none 0 0) ∧ w'.cell? { block := w2.heap.size, off := 2 } = some (.int .i64 a) ∧ w'.cell? { block := w2.heap.size, off := 3 } = some (.int .i64 b))) := Lib.hid (fun w' h => ⟨h, (Y_21.out.below h.out).four, (P_21.out.below h.out).four⟩)
      have KS_8 := Lib.hid (fun w1 w2 (h : Hid (Below W8.heap.size W8 w1)) (b : Below w1.heap.size w1 w2) => K1_8.out w2 (hbthen h b))
      refine wp_region_held_drew (S := fun w' => Hid (Below W8.heap.size W8 w') ∧ (w'.cell? { block := w.heap.size, off := 0 } = some (.bool false) ∧ w'.cell? { block := w.heap.size, off := 1 } = some (.slice A1 n1 c1) ∧ w'.cell? { block := w.heap.size, off := 2 } = some (.int .i64 s1) ∧ w'.cell? { block := w.heap.size, off := 3 } = some (.int .i64 f1)) ∧ (w'.cell? { block := w2.heap.size, off := 0 } = some (.bool neg) ∧ w'.cell? { block := w2.heap.size, off := 1 } = some (.slice none 0 0) ∧ w'.cell? { block := w2.heap.size, off := 2 } = some (.int .i64 a) ∧ w'.cell? { block := w2.heap.size, off := 3 } = some (.int .i64 b))) (by kernel_rfl) (K1_8.out _ (Lib.hid (bdrewN (Below.refl _ _) 1))) (fun hH => ?_)
      refine take_p (i := 0) (oi := ?_) (v := ?_) ?_ ?_ ?_ ?_ ?_ ?_ ?_ hH ?_
      rotate_left 2
      · (simp only [List.getElem?_toArray, List.getElem?_cons_succ, List.getElem?_cons_zero]; rfl)
      · kernel_rfl
      · kernel_rfl
      · kernel_rfl
      · exact fun _ _ _ h => h
      · rfl
      · (intro w hSw; (try dsimp only at hSw); go_simp; all_goals (with_reducible rfl))
      try simp only [Act.put, List.setIfInBounds_toArray, List.set_cons_zero, List.set_cons_succ]
      refine take_p (i := 1) (oi := ?_) (v := ?_) ?_ ?_ ?_ ?_ ?_ ?_ ?_ hH ?_
      rotate_left 2
      · (simp only [List.getElem?_toArray, List.getElem?_cons_succ, List.getElem?_cons_zero]; rfl)
      · kernel_rfl
      · kernel_rfl
      · kernel_rfl
      · exact fun _ _ _ h => h
      · rfl
      · (intro w hSw; (try dsimp only at hSw); go_simp; all_goals (with_reducible rfl))
      try simp only [Act.put, List.setIfInBounds_toArray, List.set_cons_zero, List.set_cons_succ]
      refine take_p (i := 2) (oi := ?_) (v := ?_) ?_ ?_ ?_ ?_ ?_ ?_ ?_ hH ?_
      rotate_left 2
      · (simp only [List.getElem?_toArray, List.getElem?_cons_succ, List.getElem?_cons_zero]; rfl)
      · kernel_rfl
      · kernel_rfl
      · kernel_rfl
      · exact fun _ _ _ h => h
      · rfl
      · (intro w hSw; (try dsimp only at hSw); go_simp; all_goals (with_reducible rfl))
      try simp only [Act.put, List.setIfInBounds_toArray, List.set_cons_zero, List.set_cons_succ]
      refine take_p (i := 3) (oi := ?_) (v := ?_) ?_ ?_ ?_ ?_ ?_ ?_ ?_ hH ?_
      rotate_left 2
      · (simp only [List.getElem?_toArray, List.getElem?_cons_succ, List.getElem?_cons_zero]; rfl)
      · kernel_rfl
      · kernel_rfl
      · kernel_rfl
      · exact fun _ _ _ h => h
      · rfl
      · (intro w hSw; (try dsimp only at hSw); go_simp; all_goals (with_reducible rfl))
      try simp only [Act.put, List.setIfInBounds_toArray, List.set_cons_zero, List.set_cons_succ]
      refine take_p (i := 4) (oi := ?_) (v := ?_) ?_ ?_ ?_ ?_ ?_ ?_ ?_ hH ?_
      rotate_left 2
      · (simp only [List.getElem?_toArray, List.getElem?_cons_succ, List.getElem?_cons_zero]; rfl)
      · kernel_rfl
      · kernel_rfl
      · kernel_rfl
      · exact fun _ _ _ h => h
      · rfl
      · (intro w hSw; (try dsimp only at hSw); go_simp; all_goals (with_reducible rfl))
      try simp only [Act.put, List.setIfInBounds_toArray, List.set_cons_zero, List.set_cons_succ]
      refine take_p (i := 5) (oi := ?_) (v := ?_) ?_ ?_ ?_ ?_ ?_ ?_ ?_ hH ?_
      rotate_left 2
      · (simp only [List.getElem?_toArray, List.getElem?_cons_succ, List.getElem?_cons_zero]; rfl)
      · kernel_rfl
      · kernel_rfl
      · kernel_rfl
      · exact fun _ _ _ h => h
      · rfl
      · (intro w hSw; (try dsimp only at hSw); go_simp; all_goals (with_reducible rfl))
      try simp only [Act.put, List.setIfInBounds_toArray, List.set_cons_zero, List.set_cons_succ]
      refine take_p (i := 6) (oi := ?_) (v := ?_) ?_ ?_ ?_ ?_ ?_ ?_ ?_ hH ?_
      rotate_left 2
      · (simp only [List.getElem?_toArray, List.getElem?_cons_succ, List.getElem?_cons_zero]; rfl)
      · kernel_rfl
      · kernel_rfl
      · kernel_rfl
      · exact fun _ _ _ h => h
      · rfl
      · (intro w hSw; (try dsimp only at hSw); go_simp; all_goals (with_reducible rfl))
      try simp only [Act.put, List.setIfInBounds_toArray, List.set_cons_zero, List.set_cons_succ]
      refine take_p (i := 7) (oi := ?_) (v := ?_) ?_ ?_ ?_ ?_ ?_ ?_ ?_ hH ?_
      rotate_left 2
      · (simp only [List.getElem?_toArray, List.getElem?_cons_succ, List.getElem?_cons_zero]; rfl)
      · kernel_rfl
      · kernel_rfl
      · kernel_rfl
      · exact fun _ _ _ h => h
      · rfl
      · (intro w hSw; (try dsimp only at hSw); go_simp; all_goals (with_reducible rfl))
      try simp only [Act.put, List.setIfInBounds_toArray, List.set_cons_zero, List.set_cons_succ]
      refine take_p (i := 8) (oi := ?_) (v := ?_) ?_ ?_ ?_ ?_ ?_ ?_ ?_ hH ?_
      rotate_left 2
      · (simp only [List.getElem?_toArray, List.getElem?_cons_succ, List.getElem?_cons_zero]; rfl)
      · kernel_rfl
      · kernel_rfl
      · kernel_rfl
      · exact fun _ _ _ h => h
      · rfl
      · (intro w hSw; (try dsimp only at hSw); go_simp; all_goals (with_reducible rfl))
      try simp only [Act.put, List.setIfInBounds_toArray, List.set_cons_zero, List.set_cons_succ]
      refine take_p (i := 9) (oi := ?_) (v := ?_) ?_ ?_ ?_ ?_ ?_ ?_ ?_ hH ?_
      rotate_left 2
      · (simp only [List.getElem?_toArray, List.getElem?_cons_succ, List.getElem?_cons_zero]; rfl)
      · kernel_rfl
      · kernel_rfl
      · kernel_rfl
      · exact fun _ _ _ h => h
      · rfl
      · (intro w hSw; (try dsimp only at hSw); go_simp; all_goals (with_reducible rfl))
      try simp only [Act.put, List.setIfInBounds_toArray, List.set_cons_zero, List.set_cons_succ]
      refine take_p (i := 10) (oi := ?_) (v := ?_) ?_ ?_ ?_ ?_ ?_ ?_ ?_ hH ?_
      rotate_left 2
      · (simp only [List.getElem?_toArray, List.getElem?_cons_succ, List.getElem?_cons_zero]; rfl)
      · kernel_rfl
      · kernel_rfl
      · kernel_rfl
      · exact fun _ _ _ h => h
      · rfl
      · (intro w hSw; (try dsimp only at hSw); go_simp; all_goals (with_reducible rfl))
      try simp only [Act.put, List.setIfInBounds_toArray, List.set_cons_zero, List.set_cons_succ]
      refine take_p (i := 11) (oi := ?_) (v := ?_) ?_ ?_ ?_ ?_ ?_ ?_ ?_ hH ?_
      rotate_left 2
      · (simp only [List.getElem?_toArray, List.getElem?_cons_succ, List.getElem?_cons_zero]; rfl)
      · kernel_rfl
      · kernel_rfl
      · kernel_rfl
      · exact fun _ _ _ h => h
      · rfl
      · (intro w hSw; (try dsimp only at hSw); go_simp; all_goals (with_reducible rfl))
      try simp only [Act.put, List.setIfInBounds_toArray, List.set_cons_zero, List.set_cons_succ]
      refine take_p (i := 12) (oi := ?_) (v := ?_) ?_ ?_ ?_ ?_ ?_ ?_ ?_ hH ?_
      rotate_left 2
      · (simp only [List.getElem?_toArray, List.getElem?_cons_succ, List.getElem?_cons_zero]; rfl)
      · kernel_rfl
      · kernel_rfl
      · kernel_rfl
      · exact fun _ _ _ h => h
      · rfl
      · (intro w hSw; (try dsimp only at hSw); go_simp; all_goals (with_reducible rfl))
      try simp only [Act.put, List.setIfInBounds_toArray, List.set_cons_zero, List.set_cons_succ]
      refine take_p (i := 13) (oi := ?_) (v := ?_) ?_ ?_ ?_ ?_ ?_ ?_ ?_ hH ?_
      rotate_left 2
      · (simp only [List.getElem?_toArray, List.getElem?_cons_succ, List.getElem?_cons_zero]; rfl)
      · kernel_rfl
      · kernel_rfl
      · kernel_rfl
      · exact fun _ _ _ h => h
      · rfl
      · (intro w hSw; (try dsimp only at hSw); go_simp; all_goals (with_reducible rfl))
      try simp only [Act.put, List.setIfInBounds_toArray, List.set_cons_zero, List.set_cons_succ]
      refine take_p (i := 14) (oi := ?_) (v := ?_) ?_ ?_ ?_ ?_ ?_ ?_ ?_ hH ?_
      rotate_left 2
      · (simp only [List.getElem?_toArray, List.getElem?_cons_succ, List.getElem?_cons_zero]; rfl)
      · kernel_rfl
      · kernel_rfl
      · kernel_rfl
      · exact fun _ _ _ h => h
      · rfl
      · (intro w hSw; (try dsimp only at hSw); go_simp; all_goals (with_reducible rfl))
      try simp only [Act.put, List.setIfInBounds_toArray, List.set_cons_zero, List.set_cons_succ]
      refine take_p (i := 15) (oi := ?_) (v := ?_) ?_ ?_ ?_ ?_ ?_ ?_ ?_ hH ?_
      rotate_left 2
      · (simp only [List.getElem?_toArray, List.getElem?_cons_succ, List.getElem?_cons_zero]; rfl)
      · kernel_rfl
      · kernel_rfl
      · kernel_rfl
      · exact fun _ _ _ h => h
      · rfl
      · (intro w hSw; (try dsimp only at hSw); go_simp; all_goals (with_reducible rfl))
      try simp only [Act.put, List.setIfInBounds_toArray, List.set_cons_zero, List.set_cons_succ]
      refine take_p (i := 16) (oi := ?_) (v := ?_) ?_ ?_ ?_ ?_ ?_ ?_ ?_ hH ?_
      rotate_left 2
      · (simp only [List.getElem?_toArray, List.getElem?_cons_succ, List.getElem?_cons_zero]; rfl)
      · kernel_rfl
      · kernel_rfl
      · kernel_rfl
      · exact fun _ _ _ h => h
      · rfl
      · (intro w hSw; (try dsimp only at hSw); go_simp; all_goals (with_reducible rfl))
      try simp only [Act.put, List.setIfInBounds_toArray, List.set_cons_zero, List.set_cons_succ]
      refine wpAnyH_ready (rs := [17]) (by kernel_rfl) (by simp) ?_
      refine AllReadyH.cons rfl (fun K hK => ?_) AllReadyH.nil
      go_simp
      go_at_call 28
      with_reducible (refine Calls.mono (KS.out _) ?_)
      rintro e wz1 ⟨rfl, bz⟩
      go_simp
      refine hK.out _ _ (KS_8.out _ _ hH.1 bz) (fun hHeld => ?_)
      clear hK K
      replace hH := hHeld
      clear hHeld bz
      try simp only [Act.put, List.setIfInBounds_toArray, List.set_cons_zero, List.set_cons_succ]
      refine take_p (i := 18) (oi := ?_) (v := ?_) ?_ ?_ ?_ ?_ ?_ ?_ ?_ hH ?_
      rotate_left 2
      · (simp only [List.getElem?_toArray, List.getElem?_cons_succ, List.getElem?_cons_zero]; rfl)
      · kernel_rfl
      · kernel_rfl
      · kernel_rfl
      · exact fun _ _ _ h => h
      · rfl
      · (intro w hSw; (try dsimp only at hSw); go_simp; all_goals (with_reducible rfl))
      try simp only [Act.put, List.setIfInBounds_toArray, List.set_cons_zero, List.set_cons_succ]
      refine take_p (i := 19) (oi := ?_) (v := ?_) ?_ ?_ ?_ ?_ ?_ ?_ ?_ hH ?_
      rotate_left 2
      · (simp only [List.getElem?_toArray, List.getElem?_cons_succ, List.getElem?_cons_zero]; rfl)
      · kernel_rfl
      · kernel_rfl
      · kernel_rfl
      · exact fun _ _ _ h => h
      · rfl
      · (intro w hSw; (try dsimp only at hSw); go_simp; all_goals (with_reducible rfl))
      try simp only [Act.put, List.setIfInBounds_toArray, List.set_cons_zero, List.set_cons_succ]
      refine take_p (i := 20) (oi := ?_) (v := ?_) ?_ ?_ ?_ ?_ ?_ ?_ ?_ hH ?_
      rotate_left 2
      · (simp only [List.getElem?_toArray, List.getElem?_cons_succ, List.getElem?_cons_zero]; rfl)
      · kernel_rfl
      · kernel_rfl
      · kernel_rfl
      · exact fun _ _ _ h => h
      · rfl
      · (intro w hSw; (try dsimp only at hSw); go_simp; all_goals (with_reducible rfl))
      try simp only [Act.put, List.setIfInBounds_toArray, List.set_cons_zero, List.set_cons_succ]
      refine take_p (i := 21) (oi := ?_) (v := ?_) ?_ ?_ ?_ ?_ ?_ ?_ ?_ hH ?_
      rotate_left 2
      · (simp only [List.getElem?_toArray, List.getElem?_cons_succ, List.getElem?_cons_zero]; rfl)
      · kernel_rfl
      · kernel_rfl
      · kernel_rfl
      · exact fun _ _ _ h => h
      · rfl
      · (intro w hSw; (try dsimp only at hSw); go_simp; all_goals (with_reducible rfl))
      try simp only [Act.put, List.setIfInBounds_toArray, List.set_cons_zero, List.set_cons_succ]
      refine take_p (i := 22) (oi := ?_) (v := ?_) ?_ ?_ ?_ ?_ ?_ ?_ ?_ hH ?_
      rotate_left 2
      · (simp only [List.getElem?_toArray, List.getElem?_cons_succ, List.getElem?_cons_zero]; rfl)
      · kernel_rfl
      · kernel_rfl
      · kernel_rfl
      · exact fun _ _ _ h => h
      · rfl
      · (intro w hSw; (try dsimp only at hSw); go_simp; all_goals (with_reducible rfl))
      try simp only [Act.put, List.setIfInBounds_toArray, List.set_cons_zero, List.set_cons_succ]
      refine take_p (i := 25) (oi := ?_) (v := ?_) ?_ ?_ ?_ ?_ ?_ ?_ ?_ hH ?_
      rotate_left 2
      · (simp only [List.getElem?_toArray, List.getElem?_cons_succ, List.getElem?_cons_zero]; rfl)
      · kernel_rfl
      · kernel_rfl
      · kernel_rfl
      · exact fun _ _ _ h => h
      · rfl
      · (intro w hSw; (try dsimp only at hSw); go_simp; all_goals (with_reducible rfl))
      try simp only [Act.put, List.setIfInBounds_toArray, List.set_cons_zero, List.set_cons_succ]
      refine take_p (i := 26) (oi := ?_) (v := ?_) ?_ ?_ ?_ ?_ ?_ ?_ ?_ hH ?_
      rotate_left 2
      · (simp only [List.getElem?_toArray, List.getElem?_cons_succ, List.getElem?_cons_zero]; rfl)
      · kernel_rfl
      · kernel_rfl
      · kernel_rfl
      · exact fun _ _ _ h => h
      · rfl
      · (intro w hSw; (try dsimp only at hSw); go_simp; all_goals (with_reducible rfl))
      try simp only [Act.put, List.setIfInBounds_toArray, List.set_cons_zero, List.set_cons_succ]
      refine wpAnyH_ready (rs := [23]) (by kernel_rfl) (by simp) ?_
      refine AllReadyH.cons rfl (fun K hK => ?_) AllReadyH.nil
      go_simp
      go_at_call 28
      with_reducible (refine Calls.mono (KT.out _ (O_21.out.below hH.1.out)) ?_)
      rintro e wz2 ⟨rfl, bz⟩
      go_simp
      refine hK.out _ _ (KS_8.out _ _ hH.1 bz) (fun hHeld => ?_)
      clear hK K
      replace hH := hHeld
      clear hHeld bz
      try simp only [Act.put, List.setIfInBounds_toArray, List.set_cons_zero, List.set_cons_succ]
      refine take_p (i := 24) (oi := ?_) (v := ?_) ?_ ?_ ?_ ?_ ?_ ?_ ?_ hH ?_
      rotate_left 2
      · (simp only [List.getElem?_toArray, List.getElem?_cons_succ, List.getElem?_cons_zero]; rfl)
      · kernel_rfl
      · kernel_rfl
      · kernel_rfl
      · exact fun _ _ _ h => h
      · rfl
      · (intro w hSw; (try dsimp only at hSw); go_simp; all_goals (with_reducible rfl))
      try simp only [Act.put, List.setIfInBounds_toArray, List.set_cons_zero, List.set_cons_succ]
      refine take_p (i := 27) (oi := ?_) (v := ?_) ?_ ?_ ?_ ?_ ?_ ?_ ?_ hH ?_
      rotate_left 2
      · (simp only [List.getElem?_toArray, List.getElem?_cons_succ, List.getElem?_cons_zero]; rfl)
      · kernel_rfl
      · kernel_rfl
      · kernel_rfl
      · exact fun _ _ _ h => h
      · rfl
      · (intro w hSw; (try dsimp only at hSw); go_simp; all_goals (with_reducible rfl))
      try simp only [Act.put, List.setIfInBounds_toArray, List.set_cons_zero, List.set_cons_succ]
      refine take_u (i := 28) (oi := ?_) ?_ ?_ ?_ ?_ ?_ ?_ hH ?_
      rotate_left 1
      · (simp only [List.getElem?_toArray, List.getElem?_cons_succ, List.getElem?_cons_zero]; rfl)
      · kernel_rfl
      · kernel_rfl
      · kernel_rfl
      · exact fun _ _ _ h => h
      · rfl
      try simp only [Act.put, List.setIfInBounds_toArray, List.set_cons_zero, List.set_cons_succ]
      refine take_u (i := 29) (oi := ?_) ?_ ?_ ?_ ?_ ?_ ?_ hH ?_
      rotate_left 1
      · (simp only [List.getElem?_toArray, List.getElem?_cons_succ, List.getElem?_cons_zero]; rfl)
      · kernel_rfl
      · kernel_rfl
      · kernel_rfl
      · exact fun _ _ _ h => h
      · rfl
      try simp only [Act.put, List.setIfInBounds_toArray, List.set_cons_zero, List.set_cons_succ]
      refine take_u (i := 30) (oi := ?_) ?_ ?_ ?_ ?_ ?_ ?_ hH ?_
      rotate_left 1
      · (simp only [List.getElem?_toArray, List.getElem?_cons_succ, List.getElem?_cons_zero]; rfl)
      · kernel_rfl
      · kernel_rfl
      · kernel_rfl
      · exact fun _ _ _ h => h
      · rfl
      try simp only [Act.put, List.setIfInBounds_toArray, List.set_cons_zero, List.set_cons_succ]
      refine take_u (i := 31) (oi := ?_) ?_ ?_ ?_ ?_ ?_ ?_ hH ?_
      rotate_left 1
      · (simp only [List.getElem?_toArray, List.getElem?_cons_succ, List.getElem?_cons_zero]; rfl)
      · kernel_rfl
      · kernel_rfl
      · kernel_rfl
      · exact fun _ _ _ h => h
      · rfl
      try simp only [Act.put, List.setIfInBounds_toArray, List.set_cons_zero, List.set_cons_succ]
      refine take_p (i := 32) (oi := ?_) (v := ?_) ?_ ?_ ?_ ?_ ?_ ?_ ?_ hH ?_
      rotate_left 2
      · (simp only [List.getElem?_toArray, List.getElem?_cons_succ, List.getElem?_cons_zero]; rfl)
      · kernel_rfl
      · kernel_rfl
      · kernel_rfl
      · exact fun _ _ _ h => h
      · rfl
      · (intro w hSw; (try dsimp only at hSw); go_simp; all_goals (with_reducible rfl))
      try simp only [Act.put, List.setIfInBounds_toArray, List.set_cons_zero, List.set_cons_succ]
      refine take_p (i := 33) (oi := ?_) (v := ?_) ?_ ?_ ?_ ?_ ?_ ?_ ?_ hH ?_
      rotate_left 2
      · (simp only [List.getElem?_toArray, List.getElem?_cons_succ, List.getElem?_cons_zero]; rfl)
      · kernel_rfl
      · kernel_rfl
      · kernel_rfl
      · exact fun _ _ _ h => h
      · rfl
      · (intro w hSw; (try dsimp only at hSw); go_simp; all_goals (with_reducible rfl))
      try simp only [Act.put, List.setIfInBounds_toArray, List.set_cons_zero, List.set_cons_succ]
      refine take_p (i := 34) (oi := ?_) (v := ?_) ?_ ?_ ?_ ?_ ?_ ?_ ?_ hH ?_
      rotate_left 2
      · (simp only [List.getElem?_toArray, List.getElem?_cons_succ, List.getElem?_cons_zero]; rfl)
      · kernel_rfl
      · kernel_rfl
      · kernel_rfl
      · exact fun _ _ _ h => h
      · rfl
      · (intro w hSw; (try dsimp only at hSw); go_simp; all_goals (with_reducible rfl))
      try simp only [Act.put, List.setIfInBounds_toArray, List.set_cons_zero, List.set_cons_succ]
      refine take_p (i := 35) (oi := ?_) (v := ?_) ?_ ?_ ?_ ?_ ?_ ?_ ?_ hH ?_
      rotate_left 2
      · (simp only [List.getElem?_toArray, List.getElem?_cons_succ, List.getElem?_cons_zero]; rfl)
      · kernel_rfl
      · kernel_rfl
      · kernel_rfl
      · exact fun _ _ _ h => h
      · rfl
      · (intro w hSw; (try dsimp only at hSw); go_simp; all_goals (with_reducible rfl))
      try simp only [Act.put, List.setIfInBounds_toArray, List.set_cons_zero, List.set_cons_succ]
      refine wpAnyH_done (by kernel_rfl) ?_ _
      have b8 := hH.1.out
      clear hH
      have G_22 := Lib.hid (bthen G_21.out b8)
      have Y_22 := Lib.hid (Y_21.out.below b8)
      have O_22 := Lib.hid (O_21.out.below b8)
      have P_22 := Lib.hid (P_21.out.below b8)
      have Q_22 := Lib.hid (Q_21.out.below b8)
      clear G_21 Y_21 O_21 P_21 Q_21
      clear b8 K1_8 KS_8
      go_wp2_with fail
      go_ret
      exact ⟨rfl, G_22.out⟩
end Go.Proofs.Yteiajccjlbghoaa

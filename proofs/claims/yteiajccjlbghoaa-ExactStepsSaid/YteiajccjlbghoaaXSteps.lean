/- caliperlaw02.ExactSteps walked. Conditions: as each theorem names them. -/
import Derived.Test.YteiajccjlbghoaaXlx
set_option linter.unusedVariables false
namespace Go.Proofs.Yteiajccjlbghoaa
open Go.RowKit

theorem left_zero {X T : Nat} (h : X % T = 0) : restN X T = 0 := by unfold restN; rw [if_pos h]
theorem left_pos {X T : Nat} (h : X % T ≠ 0) : 0 < restN X T ∧ restN X T ≤ 3 := by
  unfold restN
  rw [if_neg h]
  have := cmpN_range (2 * (X % T)) T
  omega
theorem steps_mod {X T1 : Nat} : X % (10 * T1) = X % T1 + T1 * (X / T1 % 10) := by rw [Nat.mul_comm 10, Nat.mod_mul]
/-- the digit behind, and what is left, tell the rest -/
theorem steps_rest {X T1 r l : Nat} (hT : 0 < T1) (hr : X / T1 % 10 = r) (hl : X % T1 = l) :
    (r = 0 → l = 0 → restN X (10 * T1) = 0) ∧ (r < 5 → (r ≠ 0 ∨ l ≠ 0) → restN X (10 * T1) = 1) ∧ (r = 5 → l = 0 → restN X (10 * T1) = 2) ∧ (r = 5 → l ≠ 0 → restN X (10 * T1) = 3) ∧ (5 < r → restN X (10 * T1) = 3) := by
  have hm : X % (10 * T1) = l + T1 * r := by rw [steps_mod, hr, hl]
  have hlt : l < T1 := by rw [← hl]; exact Nat.mod_lt _ hT
  have h4 : r < 5 → T1 * r ≤ T1 * 4 := fun h => Nat.mul_le_mul_left _ (by omega)
  have h6 : 5 < r → T1 * 6 ≤ T1 * r := fun h => Nat.mul_le_mul_left _ (by omega)
  have hp : r ≠ 0 → T1 * 1 ≤ T1 * r := fun h => Nat.mul_le_mul_left _ (by omega)
  unfold restN
  rw [hm]
  refine ⟨fun a b => ?_, fun a b => ?_, fun a b => ?_, fun a b => ?_, fun a => ?_⟩
  · rw [a, b]; simp
  · have := h4 a
    rw [if_neg (by rcases b with b | b; · have := hp b; omega
                   · omega), (cmpN_cases _ _).1.2 (by omega)]; rfl
  · subst a; subst b
    rw [if_neg (by omega), (cmpN_cases _ _).2.2.2 (by omega)]; rfl
  · subst a
    rw [if_neg (by omega), (cmpN_cases _ _).2.1.2 (by omega)]; rfl
  · have := h6 a
    rw [if_neg (by omega), (cmpN_cases _ _).2.1.2 (by omega)]; rfl
set_option maxRecDepth 100000 in
set_option maxHeartbeats 40000000 in
theorem walk_ExactSteps (neg : Bool) (A : Option Addr) (n c : Nat) (F : Nat → Nat) (s f : Int) (k0 : Int) (w : World) (hA : RdW w A n c F) (wk : (Lit.int .i64 k0).wf = true) :
    Calls Try.prog 9 #[xv neg (.slice A n c) s f, .int .i64 k0] w fun e w' => e = .returned (.bool true) ∧ Below w.heap.size w w' := by
  clear wk
  have HA := Lib.hid hA
  have SY := Lib.hid (small_sm A n c F s f 300 w hA)
  have CY := Lib.hid (fun w' h => small_X neg A n c F s f 300 w' h (by decide))
  obtain ⟨M, hM⟩ : ∃ M, S F (min n 12) = M := ⟨_, rfl⟩
  obtain ⟨s1, hs1⟩ : ∃ x, s.tmod ((300 + 1 : Nat) : Int) = x := ⟨_, rfl⟩
  obtain ⟨f1, hf1⟩ : ∃ x, f.tmod ((300 + 1 : Nat) : Int) = x := ⟨_, rfl⟩
  rw [hM, hs1, hf1] at SY CY
  obtain ⟨k, hk⟩ : ∃ k, k0.tmod 301 = k := ⟨_, rfl⟩
  have rk : -300 ≤ k ∧ k ≤ 300 := by rw [← hk]; exact tmod_range k0 300
  have wk1 : IntKind.i64.wrap k = k := IntWalk.i64_in _ (by omega)
  have wk2 : IntKind.i64.wrap (k - 1) = k - 1 := IntWalk.i64_in _ (by omega)
  unfold xv at CY
  clear hM hs1 hf1 hA
  have RG := Lib.hid rk
  clear rk
  obtain ⟨X, hX⟩ : ∃ X, vx M s1 f1 = X := ⟨_, rfl⟩
  obtain ⟨T, hT⟩ : ∃ T, tenx (k - 1) = T := ⟨_, rfl⟩
  have hT10 : tenx k = 10 * T := by
    have := tenx_succ (k := k - 1) (by have := RG.out; omega)
    rw [hT] at this
    rw [← this]; congr 1; omega
  have hT0 : 0 < T := by rw [← hT]; exact tenx_pos _
  have F1 := Lib.hid (fun v w' (h : XOk w' v M s1 f1) => floor_X neg v s1 f1 k M w' h (by have := RG.out; omega))
  have F2 := Lib.hid (fun v w' (h : XOk w' v M s1 f1) => floor_X neg v s1 f1 (k - 1) M w' h (by have := RG.out; omega))
  rw [hX, hT10] at F1
  rw [hX, hT] at F2
  obtain ⟨re, hre⟩ : ∃ re, restN X (10 * T) = re := ⟨_, rfl⟩
  obtain ⟨le, hle⟩ : ∃ le, restN X T = le := ⟨_, rfl⟩
  rw [hre] at F1
  rw [hle] at F2
  have HRE := Lib.hid hre
  have HLE := Lib.hid hle
  clear hre hle
  have HXS := Lib.hid (And.intro hX hT)
  clear hX hT hT10
  have HT0 := Lib.hid hT0
  clear hT0
  unfold xv
  unfold xv at F1 F2
  go_enter Try.func9, Try.ntmps9
  go_wp2_with fail
  refine at_world ?_
  intro W1 hW1
  have G_1 : Hid (Below w.heap.size w W1) := Lib.hid (by rw [hW1]; exact bgrow (Below.refl _ _) _)
  have Y_2 : Hid (XB W1 w.heap.size neg (.slice A n c) s f) := Lib.hid (by rw [hW1]; exact XB.new _ _ _ _ _)
  have R_3 : Hid (RdW W1 A n c F) := Lib.hid (HA.out.below G_1.out)
  clear hW1
  clear HA
  have C1 := Lib.hid (shown_true W1)
  with_reducible (refine C1.out.mono ?_)
  rintro e w1 ⟨rfl, b1⟩
  have G_4 := Lib.hid (bthen G_1.out b1)
  have Y_4 := Lib.hid (Y_2.out.below b1)
  have R_4 := Lib.hid (R_3.out.below b1)
  clear G_1 Y_2 R_3
  clear b1 C1
  obtain ⟨q1a, q1b, q1c, q1d, q1e, q1f, q1g, q1h, q1i, q1j⟩ := Y_4.out.cells
  go_wp2_with fail
  refine at_world ?_
  intro W2 hW2
  clear q1a q1b q1c q1d q1e q1f q1g q1h q1i q1j
  have G_5 : Hid (Below w.heap.size w W2) := Lib.hid (by rw [hW2]; exact G_4.out)
  have Y_5 : Hid (XB W2 w.heap.size neg (.slice A n c) s f) := Lib.hid (by rw [hW2]; exact Y_4.out)
  have R_5 : Hid (RdW W2 A n c F) := Lib.hid (by rw [hW2]; exact R_4.out)
  clear G_4 Y_4 R_4
  clear hW2
  have D2 := Lib.hid (show Calls Try.prog 12 #[.agg #[.bool neg, .slice A n c, .int .i64 s, .int .i64 f], .int .i64 300] W2 _ from CY.out W2 R_5.out)
  with_reducible (refine D2.out.mono ?_)
  rintro _ w2 ⟨⟨A1, n1, c1, rfl, i2⟩, b2⟩
  clear R_5
  have G_6 := Lib.hid (bthen G_5.out b2)
  have Y_6 := Lib.hid (Y_5.out.below b2)
  clear G_5 Y_5
  have O_7 : Hid (XOk w2 (.slice A1 n1 c1) M s1 f1) := Lib.hid (SY.out.ok (by decide) i2)
  clear b2 D2 i2 CY
  obtain ⟨q2a, q2b, q2c, q2d, q2e, q2f, q2g, q2h, q2i, q2j⟩ := Y_6.out.cells
  go_wp2_with fail
  refine at_world ?_
  intro W3 hW3
  clear q2a q2b q2c q2d q2e q2f q2g q2h q2i q2j
  have G_8 : Hid (Below w.heap.size w W3) := Lib.hid (by rw [hW3]; exact (below_set4 G_6.out (by first | omega | simp) _ _ _ _))
  have Y_8 : Hid (XB W3 w.heap.size neg (.slice A1 n1 c1) s1 f1) := Lib.hid (by rw [hW3]; exact (Y_6.out.set4 neg (.slice A1 n1 c1) s1 f1))
  have O_8 : Hid (XOk W3 (.slice A1 n1 c1) M s1 f1) := Lib.hid (by rw [hW3]; exact (O_7.out.set4 Y_6.out _ _ _ _))
  clear G_6 Y_6 O_7
  clear hW3
  with_reducible (refine (F1.out _ _ O_8.out).mono ?_)
  rintro _ w3 ⟨⟨A3, n3, c3, rfl, j3⟩, b3⟩
  have G_9 := Lib.hid (bthen G_8.out b3)
  have Y_9 := Lib.hid (Y_8.out.below b3)
  have O_9 := Lib.hid (O_8.out.below b3)
  clear G_8 Y_8 O_8
  have Q_10 : Hid (IsN w3 (.slice A3 n3 c3) (X / (10 * T))) := Lib.hid (j3)
  clear b3 j3 F1
  obtain ⟨q3a, q3b, q3c, q3d, q3e, q3f, q3g, q3h, q3i, q3j⟩ := Y_9.out.cells
  go_wp2_with fail
  refine at_world ?_
  intro W4 hW4
  clear q3a q3b q3c q3d q3e q3f q3g q3h q3i q3j
  have G_11 : Hid (Below w.heap.size w W4) := Lib.hid (by rw [hW4]; exact G_9.out)
  have Y_11 : Hid (XB W4 w.heap.size neg (.slice A1 n1 c1) s1 f1) := Lib.hid (by rw [hW4]; exact Y_9.out)
  have O_11 : Hid (XOk W4 (.slice A1 n1 c1) M s1 f1) := Lib.hid (by rw [hW4]; exact O_9.out)
  have Q_11 : Hid (IsN W4 (.slice A3 n3 c3) (X / (10 * T))) := Lib.hid (by rw [hW4]; exact Q_10.out)
  clear G_9 Y_9 O_9 Q_10
  clear hW4
  with_reducible (refine (F2.out _ _ O_11.out).mono ?_)
  rintro _ w4 ⟨⟨A4, n4, c4, rfl, j4⟩, b4⟩
  have G_12 := Lib.hid (bthen G_11.out b4)
  have Y_12 := Lib.hid (Y_11.out.below b4)
  have O_12 := Lib.hid (O_11.out.below b4)
  have Q_12 := Lib.hid (Q_11.out.below b4)
  clear G_11 Y_11 O_11 Q_11
  have P_13 : Hid (IsN w4 (.slice A4 n4 c4) (X / T)) := Lib.hid (j4)
  clear b4 j4 F2
  obtain ⟨q4a, q4b, q4c, q4d, q4e, q4f, q4g, q4h, q4i, q4j⟩ := Y_12.out.cells
  go_wp2_with fail
  refine at_world ?_
  intro W5 hW5
  clear q4a q4b q4c q4d q4e q4f q4g q4h q4i q4j
  have G_14 : Hid (Below w.heap.size w W5) := Lib.hid (by rw [hW5]; exact (bgrow G_12.out _))
  have Y_14 : Hid (XB W5 w.heap.size neg (.slice A1 n1 c1) s1 f1) := Lib.hid (by rw [hW5]; exact (Y_12.out.alloc _))
  have O_14 : Hid (XOk W5 (.slice A1 n1 c1) M s1 f1) := Lib.hid (by rw [hW5]; exact (O_12.out.alloc _))
  have Q_14 : Hid (IsN W5 (.slice A3 n3 c3) (X / (10 * T))) := Lib.hid (by rw [hW5]; exact (Q_12.out.alloc _))
  have P_14 : Hid (IsN W5 (.slice A4 n4 c4) (X / T)) := Lib.hid (by rw [hW5]; exact (P_13.out.alloc _))
  clear G_12 Y_12 O_12 Q_12 P_13
  have L5 := Lib.hid (show W5.cell? { block := w4.heap.size, off := 0 } = some (.int .u64 ((10 : Nat) : Int)) from by rw [hW5]; simp [go_sem])
  clear hW5
  obtain ⟨eb, heb⟩ : ∃ eb, X / T < 2 ^ eb ∧ eb ≤ 300000 := by
    have h := SY.out
    rw [← HXS.out.1, ← HXS.out.2]
    exact floor_bits M s1 f1 (k - 1) ⟨by have := h.s1; omega, by have := h.s2; omega⟩ ⟨by have := h.f1; omega, by have := h.f2; omega⟩ (by have := RG.out; omega) (Nat.le_trans h.bits (by decide))
  with_reducible (refine (div_S (.slice A4 n4 c4) (.slice (some { block := w4.heap.size, off := 0 }) 1 1) (X / T) 10 eb W5 P_14.out (lit_N L5.out (by decide) (by decide)) heb.1 (by omega) (by decide)).mono ?_)
  rintro _ w5 ⟨⟨A5, n5, c5, A6, n6, c6, rfl, j5, j6⟩, b5⟩
  clear heb
  have G_15 := Lib.hid (bthen G_14.out b5)
  have Y_15 := Lib.hid (Y_14.out.below b5)
  have O_15 := Lib.hid (O_14.out.below b5)
  have Q_15 := Lib.hid (Q_14.out.below b5)
  have P_15 := Lib.hid (P_14.out.below b5)
  clear G_14 Y_14 O_14 Q_14 P_14
  have D_16 : Hid (IsN w5 (.slice A5 n5 c5) (X / (10 * T))) := Lib.hid (by rw [Nat.mul_comm 10, ← Nat.div_div_eq_div_mul]; exact j5)
  have E_17 : Hid (IsN w5 (.slice A6 n6 c6) (X / T % 10)) := Lib.hid (j6)
  clear b5 j5 j6 L5
  obtain ⟨q5a, q5b, q5c, q5d, q5e, q5f, q5g, q5h, q5i, q5j⟩ := Y_15.out.cells
  go_wp2_with fail
  refine at_world ?_
  intro W6 hW6
  clear q5a q5b q5c q5d q5e q5f q5g q5h q5i q5j
  have G_18 : Hid (Below w.heap.size w W6) := Lib.hid (by rw [hW6]; exact G_15.out)
  have Y_18 : Hid (XB W6 w.heap.size neg (.slice A1 n1 c1) s1 f1) := Lib.hid (by rw [hW6]; exact Y_15.out)
  have O_18 : Hid (XOk W6 (.slice A1 n1 c1) M s1 f1) := Lib.hid (by rw [hW6]; exact O_15.out)
  have Q_18 : Hid (IsN W6 (.slice A3 n3 c3) (X / (10 * T))) := Lib.hid (by rw [hW6]; exact Q_15.out)
  have P_18 : Hid (IsN W6 (.slice A4 n4 c4) (X / T)) := Lib.hid (by rw [hW6]; exact P_15.out)
  have D_18 : Hid (IsN W6 (.slice A5 n5 c5) (X / (10 * T))) := Lib.hid (by rw [hW6]; exact D_16.out)
  have E_18 : Hid (IsN W6 (.slice A6 n6 c6) (X / T % 10)) := Lib.hid (by rw [hW6]; exact E_17.out)
  clear G_15 Y_15 O_15 Q_15 P_15 D_16 E_17
  clear hW6
  obtain ⟨r, hr⟩ : ∃ r, X / T % 10 = r := ⟨_, rfl⟩
  obtain ⟨l, hl⟩ : ∃ l, X % T = l := ⟨_, rfl⟩
  have hr10 : r < 10 := by rw [← hr]; exact Nat.mod_lt _ (by decide)
  obtain ⟨q1, q2, q3, q4, q5⟩ := steps_rest HT0.out hr hl
  have l0 : l = 0 → restN X T = 0 := fun h => left_zero (by rw [hl]; exact h)
  have l1 : l ≠ 0 → 0 < restN X T ∧ restN X T ≤ 3 := fun h => left_pos (by rw [hl]; exact h)
  with_reducible (refine (word_N (.slice A6 n6 c6) (X / T % 10) r W6 E_18.out (by rw [hr]; exact Nat.mod_eq_of_lt (by omega))).mono ?_)
  rintro _ w6 ⟨⟨bb, rfl⟩, b6⟩
  have G_19 := Lib.hid (bthen G_18.out b6)
  have Y_19 := Lib.hid (Y_18.out.below b6)
  have O_19 := Lib.hid (O_18.out.below b6)
  have Q_19 := Lib.hid (Q_18.out.below b6)
  have P_19 := Lib.hid (P_18.out.below b6)
  have D_19 := Lib.hid (D_18.out.below b6)
  have E_19 := Lib.hid (E_18.out.below b6)
  clear G_18 Y_18 O_18 Q_18 P_18 D_18 E_18
  clear b6 hr hl
  have KC := Lib.hid (fun w1 h1 h2 => cmpB (.slice A5 n5 c5) (.slice A3 n3 c3) (X / (10 * T)) (X / (10 * T)) 0 w1 h1 h2 ((cmpN_cases _ _).2.2.2 rfl))
  have hre := HRE.out
  have hle := HLE.out
  rw [hre] at q1 q2 q3 q4 q5
  rw [hle] at l0 l1
  clear hre hle
  have six : (r = 0 ∧ l = 0) ∨ (r = 0 ∧ l ≠ 0) ∨ (0 < r ∧ r < 5) ∨ (r = 5 ∧ l = 0) ∨ (r = 5 ∧ l ≠ 0) ∨ 5 < r := by omega
  rcases six with ⟨r0, z⟩ | ⟨r0, z⟩ | ⟨r0, z⟩ | ⟨r0, z⟩ | ⟨r0, z⟩ | r0
  · obtain rfl := r0
    obtain rfl := q1 rfl z
    obtain rfl := l0 z
    clear q1 q2 q3 q4 q5 l0 l1 hr10 z
    obtain ⟨q6a, q6b, q6c, q6d, q6e, q6f, q6g, q6h, q6i, q6j⟩ := Y_19.out.cells
    go_wp2_with fail
    refine at_world ?_
    intro W7 hW7
    clear q6a q6b q6c q6d q6e q6f q6g q6h q6i q6j
    have G_20 : Hid (Below w.heap.size w W7) := Lib.hid (by rw [hW7]; exact G_19.out)
    have Y_20 : Hid (XB W7 w.heap.size neg (.slice A1 n1 c1) s1 f1) := Lib.hid (by rw [hW7]; exact Y_19.out)
    have O_20 : Hid (XOk W7 (.slice A1 n1 c1) M s1 f1) := Lib.hid (by rw [hW7]; exact O_19.out)
    have Q_20 : Hid (IsN W7 (.slice A3 n3 c3) (X / (10 * T))) := Lib.hid (by rw [hW7]; exact Q_19.out)
    have P_20 : Hid (IsN W7 (.slice A4 n4 c4) (X / T)) := Lib.hid (by rw [hW7]; exact P_19.out)
    have D_20 : Hid (IsN W7 (.slice A5 n5 c5) (X / (10 * T))) := Lib.hid (by rw [hW7]; exact D_19.out)
    have E_20 : Hid (IsN W7 (.slice A6 n6 c6) (X / T % 10)) := Lib.hid (by rw [hW7]; exact E_19.out)
    clear G_19 Y_19 O_19 Q_19 P_19 D_19 E_19
    clear hW7
    with_reducible (refine (KC.out _ D_20.out Q_20.out).mono ?_)
    rintro _ w7 ⟨rfl, b7⟩
    have G_21 := Lib.hid (bthen G_20.out b7)
    have Y_21 := Lib.hid (Y_20.out.below b7)
    have O_21 := Lib.hid (O_20.out.below b7)
    have Q_21 := Lib.hid (Q_20.out.below b7)
    have P_21 := Lib.hid (P_20.out.below b7)
    have D_21 := Lib.hid (D_20.out.below b7)
    have E_21 := Lib.hid (E_20.out.below b7)
    clear G_20 Y_20 O_20 Q_20 P_20 D_20 E_20
    clear b7 KC
    obtain ⟨q7a, q7b, q7c, q7d, q7e, q7f, q7g, q7h, q7i, q7j⟩ := Y_21.out.cells
    go_wp2_with fail
    go_ret
    exact ⟨rfl, G_21.out⟩
  · obtain rfl := r0
    obtain rfl := q2 (by decide) (Or.inr z)
    have lp := l1 z
    have y1 : (le == 0) = false := by simp; omega
    have y2 : decide (0 < le) = true := decide_eq_true lp.1
    clear lp
    clear q1 q2 q3 q4 q5 l0 l1 hr10 z
    obtain ⟨q6a, q6b, q6c, q6d, q6e, q6f, q6g, q6h, q6i, q6j⟩ := Y_19.out.cells
    go_wp2_with fail
    refine at_world ?_
    intro W7 hW7
    clear q6a q6b q6c q6d q6e q6f q6g q6h q6i q6j
    have G_20 : Hid (Below w.heap.size w W7) := Lib.hid (by rw [hW7]; exact G_19.out)
    have Y_20 : Hid (XB W7 w.heap.size neg (.slice A1 n1 c1) s1 f1) := Lib.hid (by rw [hW7]; exact Y_19.out)
    have O_20 : Hid (XOk W7 (.slice A1 n1 c1) M s1 f1) := Lib.hid (by rw [hW7]; exact O_19.out)
    have Q_20 : Hid (IsN W7 (.slice A3 n3 c3) (X / (10 * T))) := Lib.hid (by rw [hW7]; exact Q_19.out)
    have P_20 : Hid (IsN W7 (.slice A4 n4 c4) (X / T)) := Lib.hid (by rw [hW7]; exact P_19.out)
    have D_20 : Hid (IsN W7 (.slice A5 n5 c5) (X / (10 * T))) := Lib.hid (by rw [hW7]; exact D_19.out)
    have E_20 : Hid (IsN W7 (.slice A6 n6 c6) (X / T % 10)) := Lib.hid (by rw [hW7]; exact E_19.out)
    clear G_19 Y_19 O_19 Q_19 P_19 D_19 E_19
    clear hW7
    with_reducible (refine (KC.out _ D_20.out Q_20.out).mono ?_)
    rintro _ w7 ⟨rfl, b7⟩
    have G_21 := Lib.hid (bthen G_20.out b7)
    have Y_21 := Lib.hid (Y_20.out.below b7)
    have O_21 := Lib.hid (O_20.out.below b7)
    have Q_21 := Lib.hid (Q_20.out.below b7)
    have P_21 := Lib.hid (P_20.out.below b7)
    have D_21 := Lib.hid (D_20.out.below b7)
    have E_21 := Lib.hid (E_20.out.below b7)
    clear G_20 Y_20 O_20 Q_20 P_20 D_20 E_20
    clear b7 KC
    obtain ⟨q7a, q7b, q7c, q7d, q7e, q7f, q7g, q7h, q7i, q7j⟩ := Y_21.out.cells
    go_wp2_with fail
    go_ret
    exact ⟨rfl, G_21.out⟩
  · obtain rfl := q2 z (Or.inl (by omega))
    have y1 : ((r : Int) == 0) = false := by simp; omega
    have y2 : ((r : Int) == 5) = false := by simp; omega
    have y3 : decide ((5 : Int) < (r : Int)) = false := decide_eq_false (by omega)
    have y4 : decide (5 < r) = false := decide_eq_false (by omega)
    clear q1 q2 q3 q4 q5 l0 l1 hr10 r0 z
    obtain ⟨q6a, q6b, q6c, q6d, q6e, q6f, q6g, q6h, q6i, q6j⟩ := Y_19.out.cells
    go_wp2_with fail
    refine at_world ?_
    intro W7 hW7
    clear q6a q6b q6c q6d q6e q6f q6g q6h q6i q6j
    have G_20 : Hid (Below w.heap.size w W7) := Lib.hid (by rw [hW7]; exact G_19.out)
    have Y_20 : Hid (XB W7 w.heap.size neg (.slice A1 n1 c1) s1 f1) := Lib.hid (by rw [hW7]; exact Y_19.out)
    have O_20 : Hid (XOk W7 (.slice A1 n1 c1) M s1 f1) := Lib.hid (by rw [hW7]; exact O_19.out)
    have Q_20 : Hid (IsN W7 (.slice A3 n3 c3) (X / (10 * T))) := Lib.hid (by rw [hW7]; exact Q_19.out)
    have P_20 : Hid (IsN W7 (.slice A4 n4 c4) (X / T)) := Lib.hid (by rw [hW7]; exact P_19.out)
    have D_20 : Hid (IsN W7 (.slice A5 n5 c5) (X / (10 * T))) := Lib.hid (by rw [hW7]; exact D_19.out)
    have E_20 : Hid (IsN W7 (.slice A6 n6 c6) (X / T % 10)) := Lib.hid (by rw [hW7]; exact E_19.out)
    clear G_19 Y_19 O_19 Q_19 P_19 D_19 E_19
    clear hW7
    with_reducible (refine (KC.out _ D_20.out Q_20.out).mono ?_)
    rintro _ w7 ⟨rfl, b7⟩
    have G_21 := Lib.hid (bthen G_20.out b7)
    have Y_21 := Lib.hid (Y_20.out.below b7)
    have O_21 := Lib.hid (O_20.out.below b7)
    have Q_21 := Lib.hid (Q_20.out.below b7)
    have P_21 := Lib.hid (P_20.out.below b7)
    have D_21 := Lib.hid (D_20.out.below b7)
    have E_21 := Lib.hid (E_20.out.below b7)
    clear G_20 Y_20 O_20 Q_20 P_20 D_20 E_20
    clear b7 KC
    obtain ⟨q7a, q7b, q7c, q7d, q7e, q7f, q7g, q7h, q7i, q7j⟩ := Y_21.out.cells
    go_wp2_with fail
    go_ret
    exact ⟨rfl, G_21.out⟩
  · obtain rfl := r0
    obtain rfl := q3 rfl z
    obtain rfl := l0 z
    clear q1 q2 q3 q4 q5 l0 l1 hr10 z
    obtain ⟨q6a, q6b, q6c, q6d, q6e, q6f, q6g, q6h, q6i, q6j⟩ := Y_19.out.cells
    go_wp2_with fail
    refine at_world ?_
    intro W7 hW7
    clear q6a q6b q6c q6d q6e q6f q6g q6h q6i q6j
    have G_20 : Hid (Below w.heap.size w W7) := Lib.hid (by rw [hW7]; exact G_19.out)
    have Y_20 : Hid (XB W7 w.heap.size neg (.slice A1 n1 c1) s1 f1) := Lib.hid (by rw [hW7]; exact Y_19.out)
    have O_20 : Hid (XOk W7 (.slice A1 n1 c1) M s1 f1) := Lib.hid (by rw [hW7]; exact O_19.out)
    have Q_20 : Hid (IsN W7 (.slice A3 n3 c3) (X / (10 * T))) := Lib.hid (by rw [hW7]; exact Q_19.out)
    have P_20 : Hid (IsN W7 (.slice A4 n4 c4) (X / T)) := Lib.hid (by rw [hW7]; exact P_19.out)
    have D_20 : Hid (IsN W7 (.slice A5 n5 c5) (X / (10 * T))) := Lib.hid (by rw [hW7]; exact D_19.out)
    have E_20 : Hid (IsN W7 (.slice A6 n6 c6) (X / T % 10)) := Lib.hid (by rw [hW7]; exact E_19.out)
    clear G_19 Y_19 O_19 Q_19 P_19 D_19 E_19
    clear hW7
    with_reducible (refine (KC.out _ D_20.out Q_20.out).mono ?_)
    rintro _ w7 ⟨rfl, b7⟩
    have G_21 := Lib.hid (bthen G_20.out b7)
    have Y_21 := Lib.hid (Y_20.out.below b7)
    have O_21 := Lib.hid (O_20.out.below b7)
    have Q_21 := Lib.hid (Q_20.out.below b7)
    have P_21 := Lib.hid (P_20.out.below b7)
    have D_21 := Lib.hid (D_20.out.below b7)
    have E_21 := Lib.hid (E_20.out.below b7)
    clear G_20 Y_20 O_20 Q_20 P_20 D_20 E_20
    clear b7 KC
    obtain ⟨q7a, q7b, q7c, q7d, q7e, q7f, q7g, q7h, q7i, q7j⟩ := Y_21.out.cells
    go_wp2_with fail
    go_ret
    exact ⟨rfl, G_21.out⟩
  · obtain rfl := r0
    obtain rfl := q4 rfl z
    have lp := l1 z
    have y1 : (le == 0) = false := by simp; omega
    have y2 : decide (0 < le) = true := decide_eq_true lp.1
    clear lp
    clear q1 q2 q3 q4 q5 l0 l1 hr10 z
    obtain ⟨q6a, q6b, q6c, q6d, q6e, q6f, q6g, q6h, q6i, q6j⟩ := Y_19.out.cells
    go_wp2_with fail
    refine at_world ?_
    intro W7 hW7
    clear q6a q6b q6c q6d q6e q6f q6g q6h q6i q6j
    have G_20 : Hid (Below w.heap.size w W7) := Lib.hid (by rw [hW7]; exact G_19.out)
    have Y_20 : Hid (XB W7 w.heap.size neg (.slice A1 n1 c1) s1 f1) := Lib.hid (by rw [hW7]; exact Y_19.out)
    have O_20 : Hid (XOk W7 (.slice A1 n1 c1) M s1 f1) := Lib.hid (by rw [hW7]; exact O_19.out)
    have Q_20 : Hid (IsN W7 (.slice A3 n3 c3) (X / (10 * T))) := Lib.hid (by rw [hW7]; exact Q_19.out)
    have P_20 : Hid (IsN W7 (.slice A4 n4 c4) (X / T)) := Lib.hid (by rw [hW7]; exact P_19.out)
    have D_20 : Hid (IsN W7 (.slice A5 n5 c5) (X / (10 * T))) := Lib.hid (by rw [hW7]; exact D_19.out)
    have E_20 : Hid (IsN W7 (.slice A6 n6 c6) (X / T % 10)) := Lib.hid (by rw [hW7]; exact E_19.out)
    clear G_19 Y_19 O_19 Q_19 P_19 D_19 E_19
    clear hW7
    with_reducible (refine (KC.out _ D_20.out Q_20.out).mono ?_)
    rintro _ w7 ⟨rfl, b7⟩
    have G_21 := Lib.hid (bthen G_20.out b7)
    have Y_21 := Lib.hid (Y_20.out.below b7)
    have O_21 := Lib.hid (O_20.out.below b7)
    have Q_21 := Lib.hid (Q_20.out.below b7)
    have P_21 := Lib.hid (P_20.out.below b7)
    have D_21 := Lib.hid (D_20.out.below b7)
    have E_21 := Lib.hid (E_20.out.below b7)
    clear G_20 Y_20 O_20 Q_20 P_20 D_20 E_20
    clear b7 KC
    obtain ⟨q7a, q7b, q7c, q7d, q7e, q7f, q7g, q7h, q7i, q7j⟩ := Y_21.out.cells
    go_wp2_with fail
    go_ret
    exact ⟨rfl, G_21.out⟩
  · obtain rfl := q5 r0
    have y1 : ((r : Int) == 0) = false := by simp; omega
    have y2 : ((r : Int) == 5) = false := by simp; omega
    have y3 : decide ((5 : Int) < (r : Int)) = true := decide_eq_true (by omega)
    have y4 : decide (5 < r) = true := decide_eq_true (by omega)
    clear q1 q2 q3 q4 q5 l0 l1 hr10 r0
    obtain ⟨q6a, q6b, q6c, q6d, q6e, q6f, q6g, q6h, q6i, q6j⟩ := Y_19.out.cells
    go_wp2_with fail
    refine at_world ?_
    intro W7 hW7
    clear q6a q6b q6c q6d q6e q6f q6g q6h q6i q6j
    have G_20 : Hid (Below w.heap.size w W7) := Lib.hid (by rw [hW7]; exact G_19.out)
    have Y_20 : Hid (XB W7 w.heap.size neg (.slice A1 n1 c1) s1 f1) := Lib.hid (by rw [hW7]; exact Y_19.out)
    have O_20 : Hid (XOk W7 (.slice A1 n1 c1) M s1 f1) := Lib.hid (by rw [hW7]; exact O_19.out)
    have Q_20 : Hid (IsN W7 (.slice A3 n3 c3) (X / (10 * T))) := Lib.hid (by rw [hW7]; exact Q_19.out)
    have P_20 : Hid (IsN W7 (.slice A4 n4 c4) (X / T)) := Lib.hid (by rw [hW7]; exact P_19.out)
    have D_20 : Hid (IsN W7 (.slice A5 n5 c5) (X / (10 * T))) := Lib.hid (by rw [hW7]; exact D_19.out)
    have E_20 : Hid (IsN W7 (.slice A6 n6 c6) (X / T % 10)) := Lib.hid (by rw [hW7]; exact E_19.out)
    clear G_19 Y_19 O_19 Q_19 P_19 D_19 E_19
    clear hW7
    with_reducible (refine (KC.out _ D_20.out Q_20.out).mono ?_)
    rintro _ w7 ⟨rfl, b7⟩
    have G_21 := Lib.hid (bthen G_20.out b7)
    have Y_21 := Lib.hid (Y_20.out.below b7)
    have O_21 := Lib.hid (O_20.out.below b7)
    have Q_21 := Lib.hid (Q_20.out.below b7)
    have P_21 := Lib.hid (P_20.out.below b7)
    have D_21 := Lib.hid (D_20.out.below b7)
    have E_21 := Lib.hid (E_20.out.below b7)
    clear G_20 Y_20 O_20 Q_20 P_20 D_20 E_20
    clear b7 KC
    obtain ⟨q7a, q7b, q7c, q7d, q7e, q7f, q7g, q7h, q7i, q7j⟩ := Y_21.out.cells
    go_wp2_with fail
    go_ret
    exact ⟨rfl, G_21.out⟩
end Go.Proofs.Yteiajccjlbghoaa

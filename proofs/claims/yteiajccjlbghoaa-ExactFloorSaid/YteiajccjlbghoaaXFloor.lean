/- caliperlaw02.ExactFloor walked. Conditions: as each theorem names them. -/
import Derived.Test.YteiajccjlbghoaaXlx
set_option linter.unusedVariables false
namespace Go.Proofs.Yteiajccjlbghoaa
open Go.RowKit

/-- how often, and what is left, between the powers -/
theorem floor_tells {X T : Nat} (hT : 0 < T) : cmpN X ((X / (10 * T) + 1) * (10 * T)) = -1 ∧
    ((restN X (10 * T) = 0 ∧ cmpN (X / (10 * T) * (10 * T)) X = 0) ∨
     (restN X (10 * T) = 2 + cmpN X ((X / (10 * T) * 10 + 5) * T) ∧ cmpN (X / (10 * T) * (10 * T)) X = -1)) := by
  have h1 := Nat.div_add_mod X (10 * T)
  have h2 := Nat.mod_lt X (show 0 < 10 * T by omega)
  rw [Nat.mul_comm] at h1
  have e1 : (X / (10 * T) + 1) * (10 * T) = X / (10 * T) * (10 * T) + 10 * T := by rw [Nat.add_mul, Nat.one_mul]
  have e2 : (X / (10 * T) * 10 + 5) * T = X / (10 * T) * (10 * T) + 5 * T := by rw [Nat.add_mul, Nat.mul_assoc]
  refine ⟨by rw [e1]; exact (cmpN_cases _ _).1.2 (by omega), ?_⟩
  rw [e2]
  unfold restN
  generalize X / (10 * T) * (10 * T) = q at *
  generalize X % (10 * T) = r at *
  rcases Nat.eq_zero_or_pos r with h0 | h0
  · left
    rw [if_pos h0]
    exact ⟨rfl, (cmpN_cases _ _).2.2.2 (by omega)⟩
  · right
    rw [if_neg (by omega)]
    refine ⟨?_, (cmpN_cases _ _).1.2 (by omega)⟩
    congr 1
    rcases cmpN_cases3 (2 * r) (10 * T) with ⟨e, h⟩ | ⟨e, h⟩ | ⟨e, h⟩ <;> rw [e]
    · exact ((cmpN_cases _ _).1.2 (by omega)).symm
    · exact ((cmpN_cases _ _).2.1.2 (by omega)).symm
    · exact ((cmpN_cases _ _).2.2.2 (by omega)).symm
theorem fit_bits {N : Nat} (h : fitB N = true) : bitsN N ≤ 100000 := by
  unfold fitB at h
  exact Nat.le_trans (bitsN_le (of_decide_eq_true h)) (by decide)
theorem dec_yes (v : Value) (N : Nat) (k : Int) (w : World) (h : IsN w v N) (hf : fitB N = true) (hk : inB k = true) :
    Calls Try.prog 26 #[.bool false, v, .int .i64 k] w fun e w' => (∃ A n c, e = .returned (.tuple #[xv false (.slice A n c) k k, .bool true]) ∧ XOk w' (.slice A n c) N k k) ∧ Below w.heap.size w w' := by
  refine (dec_N false v N k w h).mono ?_
  rintro e w' ⟨⟨r, rfl, ⟨_, A, n, c, h1, rfl⟩ | ⟨h1, _⟩⟩, hb⟩
  · have hr := inB_true hk
    exact ⟨⟨A, n, c, rfl, h1.isn, fit_bits hf, by omega, by omega, by omega, by omega⟩, hb⟩
  · rw [hf, hk] at h1; exact absurd h1 (by decide)
theorem dec_not (v : Value) (N : Nat) (k : Int) (w : World) (h : IsN w v N) (hf : fitB N = false) :
    Calls Try.prog 26 #[.bool false, v, .int .i64 k] w fun e w' => (∃ A n c, e = .returned (.tuple #[xv false (.slice A n c) 0 0, .bool false]) ∧ XOk w' (.slice A n c) 0 0 0) ∧ Below w.heap.size w w' := by
  refine (dec_N false v N k w h).mono ?_
  rintro e w' ⟨⟨r, rfl, ⟨h1, _⟩ | ⟨_, rfl⟩⟩, hb⟩
  · rw [hf] at h1; exact absurd h1 (by simp)
  · exact ⟨⟨none, 0, 0, rfl, xok_none _⟩, hb⟩
theorem fit_less {a b : Nat} (h : a ≤ b) (hf : fitB a = false) : fitB b = false := by
  unfold fitB at *
  apply decide_eq_false
  have := of_decide_eq_false hf
  omega
theorem pw4 {q e : Nat} (h : q < 2 ^ e) : q < 2 ^ (e + 4) := Nat.lt_of_lt_of_le h (Nat.pow_le_pow_right (by decide) (by omega))
theorem pw4a (e : Nat) : 1 < 2 ^ (e + 4) := Nat.lt_of_lt_of_le (by decide : 1 < 2 ^ 4) (Nat.pow_le_pow_right (by decide) (by omega))
theorem pw4b (e : Nat) : 5 < 2 ^ (e + 4) := Nat.lt_of_lt_of_le (by decide : 5 < 2 ^ 4) (Nat.pow_le_pow_right (by decide) (by omega))
set_option maxRecDepth 100000 in
set_option maxHeartbeats 40000000 in
theorem walk_ExactFloor (neg : Bool) (A : Option Addr) (n c : Nat) (F : Nat → Nat) (s f : Int) (k0 : Int) (w : World) (hA : RdW w A n c F) (wk : (Lit.int .i64 k0).wf = true) :
    Calls Try.prog 10 #[xv neg (.slice A n c) s f, .int .i64 k0] w fun e w' => e = .returned (.bool true) ∧ Below w.heap.size w w' := by
  clear wk
  have HA := Lib.hid hA
  have SY := Lib.hid (small_sm A n c F s f 400 w hA)
  have CY := Lib.hid (fun w' h => small_X neg A n c F s f 400 w' h (by decide))
  obtain ⟨M, hM⟩ : ∃ M, S F (min n 12) = M := ⟨_, rfl⟩
  obtain ⟨s1, hs1⟩ : ∃ x, s.tmod ((400 + 1 : Nat) : Int) = x := ⟨_, rfl⟩
  obtain ⟨f1, hf1⟩ : ∃ x, f.tmod ((400 + 1 : Nat) : Int) = x := ⟨_, rfl⟩
  rw [hM, hs1, hf1] at SY CY
  obtain ⟨k, hk⟩ : ∃ k, k0.tmod 401 = k := ⟨_, rfl⟩
  have rk : -400 ≤ k ∧ k ≤ 400 := by rw [← hk]; exact tmod_range k0 400
  have wk1 : IntKind.i64.wrap k = k := IntWalk.i64_in _ (by omega)
  have wk2 : IntKind.i64.wrap (k - 1) = k - 1 := IntWalk.i64_in _ (by omega)
  unfold xv at CY
  clear hM hs1 hf1 hA
  have RG := Lib.hid rk
  clear rk
  obtain ⟨X, hX⟩ : ∃ X, vx M s1 f1 = X := ⟨_, rfl⟩
  obtain ⟨T, hT⟩ : ∃ T, tenx (k - 1) = T := ⟨_, rfl⟩
  have hT10 : tenx k = 10 * T := by
    have := tenx_succ (k := k - 1) (by have := RG.out; omega)
    rw [hT] at this
    rw [← this]; congr 1; omega
  have hT0 : 0 < T := by rw [← hT]; exact tenx_pos _
  have F1 := Lib.hid (fun v w' (h : XOk w' v M s1 f1) => floor_X false v s1 f1 k M w' h (by have := RG.out; omega))
  obtain ⟨q, hq⟩ : ∃ q, X / (10 * T) = q := ⟨_, rfl⟩
  obtain ⟨re, hre⟩ : ∃ re, restN X (10 * T) = re := ⟨_, rfl⟩
  have FT := floor_tells (X := X) hT0
  rw [hX, hT10, hq, hre] at F1
  rw [hq, hre] at FT
  obtain ⟨eb, heb, heb2⟩ := floor_bits M s1 f1 k ⟨by have := SY.out.s1; omega, by have := SY.out.s2; omega⟩ ⟨by have := SY.out.f1; omega, by have := SY.out.f2; omega⟩ (by have := RG.out; omega) (Nat.le_trans SY.out.bits (by decide))
  rw [hX, hT10, hq] at heb
  have HEB := Lib.hid (And.intro heb heb2)
  have HXS := Lib.hid (And.intro hX (And.intro hT hT10))
  have HFT := Lib.hid FT
  clear hX hT hT10 hT0 hre FT heb heb2
  have HQ := Lib.hid hq
  clear hq
  unfold xv
  unfold xv at F1
  go_enter Try.func10, Try.ntmps10
  go_wp2_with fail
  refine at_world ?_
  intro W1 hW1
  have G_1 : Hid (Below w.heap.size w W1) := Lib.hid (by rw [hW1]; exact bgrow (Below.refl _ _) _)
  have Y_2 : Hid (XB W1 w.heap.size neg (.slice A n c) s f) := Lib.hid (by rw [hW1]; exact XB.new _ _ _ _ _)
  have R_3 : Hid (RdW W1 A n c F) := Lib.hid (HA.out.below G_1.out)
  clear hW1
  clear HA
  have C1 := Lib.hid (shown_true W1)
  with_reducible (refine C1.out.mono ?_)
  rintro e w1 ⟨rfl, b1⟩
  have G_4 := Lib.hid (bthen G_1.out b1)
  have Y_4 := Lib.hid (Y_2.out.below b1)
  have R_4 := Lib.hid (R_3.out.below b1)
  clear G_1 Y_2 R_3
  clear b1 C1
  obtain ⟨q1a, q1b, q1c, q1d, q1e, q1f, q1g, q1h, q1i, q1j⟩ := Y_4.out.cells
  go_wp2_with fail
  refine at_world ?_
  intro W2 hW2
  clear q1a q1b q1c q1d q1e q1f q1g q1h q1i q1j
  have G_5 : Hid (Below w.heap.size w W2) := Lib.hid (by rw [hW2]; exact G_4.out)
  have Y_5 : Hid (XB W2 w.heap.size neg (.slice A n c) s f) := Lib.hid (by rw [hW2]; exact Y_4.out)
  have R_5 : Hid (RdW W2 A n c F) := Lib.hid (by rw [hW2]; exact R_4.out)
  clear G_4 Y_4 R_4
  clear hW2
  have D2 := Lib.hid (show Calls Try.prog 12 #[.agg #[.bool neg, .slice A n c, .int .i64 s, .int .i64 f], .int .i64 400] W2 _ from CY.out W2 R_5.out)
  with_reducible (refine D2.out.mono ?_)
  rintro _ w2 ⟨⟨A1, n1, c1, rfl, i2⟩, b2⟩
  clear R_5
  have G_6 := Lib.hid (bthen G_5.out b2)
  have Y_6 := Lib.hid (Y_5.out.below b2)
  clear G_5 Y_5
  have O_7 : Hid (XOk w2 (.slice A1 n1 c1) M s1 f1) := Lib.hid (SY.out.ok (by decide) i2)
  clear b2 D2 i2 CY
  obtain ⟨q2a, q2b, q2c, q2d, q2e, q2f, q2g, q2h, q2i, q2j⟩ := Y_6.out.cells
  go_wp2_with fail
  refine at_world ?_
  intro W3 hW3
  clear q2a q2b q2c q2d q2e q2f q2g q2h q2i q2j
  have G_8 : Hid (Below w.heap.size w W3) := Lib.hid (by rw [hW3]; exact ((below_set4 G_6.out (by first | omega | simp) _ _ _ _).setCell (p := { block := w.heap.size, off := 0 }) (by first | omega | simp) _))
  have Y_8 : Hid (XB W3 w.heap.size false (.slice A1 n1 c1) s1 f1) := Lib.hid (by rw [hW3]; exact ((Y_6.out.set4 neg (.slice A1 n1 c1) s1 f1).setNeg false))
  have O_8 : Hid (XOk W3 (.slice A1 n1 c1) M s1 f1) := Lib.hid (by rw [hW3]; exact ((O_7.out.set4 Y_6.out _ _ _ _).set1 (Y_6.out.set4 neg (.slice A1 n1 c1) s1 f1) 0 _))
  clear G_6 Y_6 O_7
  clear hW3
  with_reducible (refine (F1.out _ _ O_8.out).mono ?_)
  rintro _ w3 ⟨⟨A3, n3, c3, rfl, j3⟩, b3⟩
  have G_9 := Lib.hid (bthen G_8.out b3)
  have Y_9 := Lib.hid (Y_8.out.below b3)
  have O_9 := Lib.hid (O_8.out.below b3)
  clear G_8 Y_8 O_8
  have Q_10 : Hid (IsN w3 (.slice A3 n3 c3) q) := Lib.hid (j3)
  clear b3 j3 F1
  have ik : inB k = true := by have := RG.out; unfold inB; simp; omega
  have ik1 : inB (k - 1) = true := by have := RG.out; unfold inB; simp; omega
  have IK := Lib.hid (And.intro ik ik1)
  clear ik ik1
  have four : (fitB q = false ∧ fitB (q + 1) = false ∧ fitB (q * 10 + 5) = false) ∨ (fitB q = true ∧ fitB (q + 1) = false ∧ fitB (q * 10 + 5) = false) ∨ (fitB q = true ∧ fitB (q + 1) = true ∧ fitB (q * 10 + 5) = false) ∨ (fitB q = true ∧ fitB (q + 1) = true ∧ fitB (q * 10 + 5) = true) := by
    cases h1 : fitB q with
    | false => exact Or.inl ⟨rfl, fit_less (by omega) h1, fit_less (by omega) h1⟩
    | true =>
      cases h2 : fitB (q + 1) with
      | false => exact Or.inr (Or.inl ⟨rfl, rfl, fit_less (by omega) h2⟩)
      | true =>
        cases h3 : fitB (q * 10 + 5) with
        | false => exact Or.inr (Or.inr (Or.inl ⟨rfl, rfl, rfl⟩))
        | true => exact Or.inr (Or.inr (Or.inr ⟨rfl, rfl, rfl⟩))
  rcases four with FB | FB | FB | FB
  · have FBO := Lib.hid FB
    clear FB
    obtain ⟨q3a, q3b, q3c, q3d, q3e, q3f, q3g, q3h, q3i, q3j⟩ := Y_9.out.cells
    go_wp2_with fail
    refine at_world ?_
    intro W4 hW4
    clear q3a q3b q3c q3d q3e q3f q3g q3h q3i q3j
    have G_11 : Hid (Below w.heap.size w W4) := Lib.hid (by rw [hW4]; exact G_9.out)
    have Y_11 : Hid (XB W4 w.heap.size false (.slice A1 n1 c1) s1 f1) := Lib.hid (by rw [hW4]; exact Y_9.out)
    have O_11 : Hid (XOk W4 (.slice A1 n1 c1) M s1 f1) := Lib.hid (by rw [hW4]; exact O_9.out)
    have Q_11 : Hid (IsN W4 (.slice A3 n3 c3) q) := Lib.hid (by rw [hW4]; exact Q_10.out)
    clear G_9 Y_9 O_9 Q_10
    clear hW4
    have Dw4 := Lib.hid (dec_not (.slice A3 n3 c3) (q) (k) W4 Q_11.out FBO.out.1)
    unfold xv at Dw4
    with_reducible (refine Dw4.out.mono ?_)
    rintro _ w4 ⟨⟨lA, ln, lc, rfl, jw4⟩, bw4⟩
    have G_12 := Lib.hid (bthen G_11.out bw4)
    have Y_12 := Lib.hid (Y_11.out.below bw4)
    have O_12 := Lib.hid (O_11.out.below bw4)
    have Q_12 := Lib.hid (Q_11.out.below bw4)
    clear G_11 Y_11 O_11 Q_11
    have Ol_13 : Hid (XOk w4 (.slice lA ln lc) (0) (0) (0)) := Lib.hid (jw4)
    clear bw4 jw4 Dw4
    obtain ⟨q4a, q4b, q4c, q4d, q4e, q4f, q4g, q4h, q4i, q4j⟩ := Y_12.out.cells
    go_wp2_with fail
    refine at_world ?_
    intro W5 hW5
    clear q4a q4b q4c q4d q4e q4f q4g q4h q4i q4j
    have G_14 : Hid (Below w.heap.size w W5) := Lib.hid (by rw [hW5]; exact (bgrow (bgrow G_12.out _) _))
    have Y_14 : Hid (XB W5 w.heap.size false (.slice A1 n1 c1) s1 f1) := Lib.hid (by rw [hW5]; exact ((Y_12.out.alloc _).alloc _))
    have O_14 : Hid (XOk W5 (.slice A1 n1 c1) M s1 f1) := Lib.hid (by rw [hW5]; exact ((O_12.out.alloc _).alloc _))
    have Q_14 : Hid (IsN W5 (.slice A3 n3 c3) q) := Lib.hid (by rw [hW5]; exact ((Q_12.out.alloc _).alloc _))
    have Ol_14 : Hid (XOk W5 (.slice lA ln lc) (0) (0) (0)) := Lib.hid (by rw [hW5]; exact ((Ol_13.out.alloc _).alloc _))
    clear G_12 Y_12 O_12 Q_12 Ol_13
    have L_15 : Hid (XB W5 w4.heap.size false (.slice lA ln lc) (0) (0)) := Lib.hid (by rw [hW5]; exact (XB.new w4 _ _ _ _).alloc _)
    have L5 := Lib.hid (show W5.cell? { block := (w4.heap.size + 1), off := 0 } = some (.int .u64 ((1 : Nat) : Int)) from by rw [hW5]; simp [go_sem])
    clear hW5
    with_reducible (refine (add_N (.slice A3 n3 c3) (.slice (some { block := w4.heap.size + 1, off := 0 }) 1 1) q 1 (eb + 4) W5 Q_14.out (lit_N L5.out (by decide) (by decide)) (pw4 HEB.out.1) (pw4a _) (by have := HEB.out.2; omega)).mono ?_)
    rintro _ w5 ⟨⟨v5, rfl, j5⟩, b5⟩
    obtain ⟨A5, n5, c5, rfl, -⟩ := nlen j5
    have G_16 := Lib.hid (bthen G_14.out b5)
    have Y_16 := Lib.hid (Y_14.out.below b5)
    have O_16 := Lib.hid (O_14.out.below b5)
    have Q_16 := Lib.hid (Q_14.out.below b5)
    have Ol_16 := Lib.hid (Ol_14.out.below b5)
    have L_16 := Lib.hid (L_15.out.below b5)
    clear G_14 Y_14 O_14 Q_14 Ol_14 L_15
    have S_17 : Hid (IsN w5 (.slice A5 n5 c5) (q + 1)) := Lib.hid (j5)
    clear b5 j5 L5
    obtain ⟨q5a, q5b, q5c, q5d, q5e, q5f, q5g, q5h, q5i, q5j⟩ := Y_16.out.cells
    obtain ⟨q6a, q6b, q6c, q6d, q6e, q6f, q6g, q6h, q6i, q6j⟩ := L_16.out.cells
    go_wp2_with fail
    refine at_world ?_
    intro W6 hW6
    clear q5a q5b q5c q5d q5e q5f q5g q5h q5i q5j q6a q6b q6c q6d q6e q6f q6g q6h q6i q6j
    have G_18 : Hid (Below w.heap.size w W6) := Lib.hid (by rw [hW6]; exact G_16.out)
    have Y_18 : Hid (XB W6 w.heap.size false (.slice A1 n1 c1) s1 f1) := Lib.hid (by rw [hW6]; exact Y_16.out)
    have O_18 : Hid (XOk W6 (.slice A1 n1 c1) M s1 f1) := Lib.hid (by rw [hW6]; exact O_16.out)
    have Q_18 : Hid (IsN W6 (.slice A3 n3 c3) q) := Lib.hid (by rw [hW6]; exact Q_16.out)
    have Ol_18 : Hid (XOk W6 (.slice lA ln lc) (0) (0) (0)) := Lib.hid (by rw [hW6]; exact Ol_16.out)
    have L_18 : Hid (XB W6 w4.heap.size false (.slice lA ln lc) (0) (0)) := Lib.hid (by rw [hW6]; exact L_16.out)
    have S_18 : Hid (IsN W6 (.slice A5 n5 c5) (q + 1)) := Lib.hid (by rw [hW6]; exact S_17.out)
    clear G_16 Y_16 O_16 Q_16 Ol_16 L_16 S_17
    clear hW6
    have Dw6 := Lib.hid (dec_not (.slice A5 n5 c5) (q + 1) (k) W6 S_18.out FBO.out.2.1)
    unfold xv at Dw6
    with_reducible (refine Dw6.out.mono ?_)
    rintro _ w6 ⟨⟨hA, hn, hc, rfl, jw6⟩, bw6⟩
    have G_19 := Lib.hid (bthen G_18.out bw6)
    have Y_19 := Lib.hid (Y_18.out.below bw6)
    have O_19 := Lib.hid (O_18.out.below bw6)
    have Q_19 := Lib.hid (Q_18.out.below bw6)
    have Ol_19 := Lib.hid (Ol_18.out.below bw6)
    have L_19 := Lib.hid (L_18.out.below bw6)
    have S_19 := Lib.hid (S_18.out.below bw6)
    clear G_18 Y_18 O_18 Q_18 Ol_18 L_18 S_18
    have Oh_20 : Hid (XOk w6 (.slice hA hn hc) (0) (0) (0)) := Lib.hid (jw6)
    clear bw6 jw6 Dw6
    obtain ⟨q7a, q7b, q7c, q7d, q7e, q7f, q7g, q7h, q7i, q7j⟩ := Y_19.out.cells
    obtain ⟨q8a, q8b, q8c, q8d, q8e, q8f, q8g, q8h, q8i, q8j⟩ := L_19.out.cells
    go_wp2_with fail
    refine at_world ?_
    intro W7 hW7
    clear q7a q7b q7c q7d q7e q7f q7g q7h q7i q7j q8a q8b q8c q8d q8e q8f q8g q8h q8i q8j
    have G_21 : Hid (Below w.heap.size w W7) := Lib.hid (by rw [hW7]; exact (bgrow (bgrow G_19.out _) _))
    have Y_21 : Hid (XB W7 w.heap.size false (.slice A1 n1 c1) s1 f1) := Lib.hid (by rw [hW7]; exact ((Y_19.out.alloc _).alloc _))
    have O_21 : Hid (XOk W7 (.slice A1 n1 c1) M s1 f1) := Lib.hid (by rw [hW7]; exact ((O_19.out.alloc _).alloc _))
    have Q_21 : Hid (IsN W7 (.slice A3 n3 c3) q) := Lib.hid (by rw [hW7]; exact ((Q_19.out.alloc _).alloc _))
    have Ol_21 : Hid (XOk W7 (.slice lA ln lc) (0) (0) (0)) := Lib.hid (by rw [hW7]; exact ((Ol_19.out.alloc _).alloc _))
    have L_21 : Hid (XB W7 w4.heap.size false (.slice lA ln lc) (0) (0)) := Lib.hid (by rw [hW7]; exact ((L_19.out.alloc _).alloc _))
    have S_21 : Hid (IsN W7 (.slice A5 n5 c5) (q + 1)) := Lib.hid (by rw [hW7]; exact ((S_19.out.alloc _).alloc _))
    have Oh_21 : Hid (XOk W7 (.slice hA hn hc) (0) (0) (0)) := Lib.hid (by rw [hW7]; exact ((Oh_20.out.alloc _).alloc _))
    clear G_19 Y_19 O_19 Q_19 Ol_19 L_19 S_19 Oh_20
    have H_22 : Hid (XB W7 w6.heap.size false (.slice hA hn hc) (0) (0)) := Lib.hid (by rw [hW7]; exact (XB.new w6 _ _ _ _).alloc _)
    have L7 := Lib.hid (show W7.cell? { block := (w6.heap.size + 1), off := 0 } = some (.int .u64 ((10 : Nat) : Int)) from by rw [hW7]; simp [go_sem])
    clear hW7
    with_reducible (refine (mul_N (.slice A3 n3 c3) (.slice (some { block := w6.heap.size + 1, off := 0 }) 1 1) q 10 eb 4 W7 Q_21.out (lit_N L7.out (by decide) (by decide)) HEB.out.1 (by decide) (by have := HEB.out.2; omega) (by decide)).mono ?_)
    rintro _ w7 ⟨⟨v7, rfl, j7⟩, b7⟩
    obtain ⟨A7, n7, c7, rfl, -⟩ := nlen j7
    have G_23 := Lib.hid (bthen G_21.out b7)
    have Y_23 := Lib.hid (Y_21.out.below b7)
    have O_23 := Lib.hid (O_21.out.below b7)
    have Q_23 := Lib.hid (Q_21.out.below b7)
    have Ol_23 := Lib.hid (Ol_21.out.below b7)
    have L_23 := Lib.hid (L_21.out.below b7)
    have S_23 := Lib.hid (S_21.out.below b7)
    have Oh_23 := Lib.hid (Oh_21.out.below b7)
    have H_23 := Lib.hid (H_22.out.below b7)
    clear G_21 Y_21 O_21 Q_21 Ol_21 L_21 S_21 Oh_21 H_22
    have V_24 : Hid (IsN w7 (.slice A7 n7 c7) (q * 10)) := Lib.hid (j7)
    clear b7 j7 L7
    obtain ⟨q9a, q9b, q9c, q9d, q9e, q9f, q9g, q9h, q9i, q9j⟩ := Y_23.out.cells
    obtain ⟨q10a, q10b, q10c, q10d, q10e, q10f, q10g, q10h, q10i, q10j⟩ := L_23.out.cells
    obtain ⟨q11a, q11b, q11c, q11d, q11e, q11f, q11g, q11h, q11i, q11j⟩ := H_23.out.cells
    go_wp2_with fail
    refine at_world ?_
    intro W8 hW8
    clear q9a q9b q9c q9d q9e q9f q9g q9h q9i q9j q10a q10b q10c q10d q10e q10f q10g q10h q10i q10j q11a q11b q11c q11d q11e q11f q11g q11h q11i q11j
    have G_25 : Hid (Below w.heap.size w W8) := Lib.hid (by rw [hW8]; exact (bgrow G_23.out _))
    have Y_25 : Hid (XB W8 w.heap.size false (.slice A1 n1 c1) s1 f1) := Lib.hid (by rw [hW8]; exact (Y_23.out.alloc _))
    have O_25 : Hid (XOk W8 (.slice A1 n1 c1) M s1 f1) := Lib.hid (by rw [hW8]; exact (O_23.out.alloc _))
    have Q_25 : Hid (IsN W8 (.slice A3 n3 c3) q) := Lib.hid (by rw [hW8]; exact (Q_23.out.alloc _))
    have Ol_25 : Hid (XOk W8 (.slice lA ln lc) (0) (0) (0)) := Lib.hid (by rw [hW8]; exact (Ol_23.out.alloc _))
    have L_25 : Hid (XB W8 w4.heap.size false (.slice lA ln lc) (0) (0)) := Lib.hid (by rw [hW8]; exact (L_23.out.alloc _))
    have S_25 : Hid (IsN W8 (.slice A5 n5 c5) (q + 1)) := Lib.hid (by rw [hW8]; exact (S_23.out.alloc _))
    have Oh_25 : Hid (XOk W8 (.slice hA hn hc) (0) (0) (0)) := Lib.hid (by rw [hW8]; exact (Oh_23.out.alloc _))
    have H_25 : Hid (XB W8 w6.heap.size false (.slice hA hn hc) (0) (0)) := Lib.hid (by rw [hW8]; exact (H_23.out.alloc _))
    have V_25 : Hid (IsN W8 (.slice A7 n7 c7) (q * 10)) := Lib.hid (by rw [hW8]; exact (V_24.out.alloc _))
    clear G_23 Y_23 O_23 Q_23 Ol_23 L_23 S_23 Oh_23 H_23 V_24
    have L8 := Lib.hid (show W8.cell? { block := w7.heap.size, off := 0 } = some (.int .u64 ((5 : Nat) : Int)) from by rw [hW8]; simp [go_sem])
    clear hW8
    with_reducible (refine (add_N (.slice A7 n7 c7) (.slice (some { block := w7.heap.size, off := 0 }) 1 1) (q * 10) 5 (eb + 4) W8 V_25.out (lit_N L8.out (by decide) (by decide)) (mul_bits HEB.out.1 (by decide)) (pw4b _) (by have := HEB.out.2; omega)).mono ?_)
    rintro _ w8 ⟨⟨v8, rfl, j8⟩, b8⟩
    obtain ⟨A8, n8, c8, rfl, -⟩ := nlen j8
    have G_26 := Lib.hid (bthen G_25.out b8)
    have Y_26 := Lib.hid (Y_25.out.below b8)
    have O_26 := Lib.hid (O_25.out.below b8)
    have Q_26 := Lib.hid (Q_25.out.below b8)
    have Ol_26 := Lib.hid (Ol_25.out.below b8)
    have L_26 := Lib.hid (L_25.out.below b8)
    have S_26 := Lib.hid (S_25.out.below b8)
    have Oh_26 := Lib.hid (Oh_25.out.below b8)
    have H_26 := Lib.hid (H_25.out.below b8)
    have V_26 := Lib.hid (V_25.out.below b8)
    clear G_25 Y_25 O_25 Q_25 Ol_25 L_25 S_25 Oh_25 H_25 V_25
    have Z_27 : Hid (IsN w8 (.slice A8 n8 c8) (q * 10 + 5)) := Lib.hid (j8)
    clear b8 j8 L8
    obtain ⟨q12a, q12b, q12c, q12d, q12e, q12f, q12g, q12h, q12i, q12j⟩ := Y_26.out.cells
    obtain ⟨q13a, q13b, q13c, q13d, q13e, q13f, q13g, q13h, q13i, q13j⟩ := L_26.out.cells
    obtain ⟨q14a, q14b, q14c, q14d, q14e, q14f, q14g, q14h, q14i, q14j⟩ := H_26.out.cells
    go_wp2_with fail
    refine at_world ?_
    intro W9 hW9
    clear q12a q12b q12c q12d q12e q12f q12g q12h q12i q12j q13a q13b q13c q13d q13e q13f q13g q13h q13i q13j q14a q14b q14c q14d q14e q14f q14g q14h q14i q14j
    have G_28 : Hid (Below w.heap.size w W9) := Lib.hid (by rw [hW9]; exact G_26.out)
    have Y_28 : Hid (XB W9 w.heap.size false (.slice A1 n1 c1) s1 f1) := Lib.hid (by rw [hW9]; exact Y_26.out)
    have O_28 : Hid (XOk W9 (.slice A1 n1 c1) M s1 f1) := Lib.hid (by rw [hW9]; exact O_26.out)
    have Q_28 : Hid (IsN W9 (.slice A3 n3 c3) q) := Lib.hid (by rw [hW9]; exact Q_26.out)
    have Ol_28 : Hid (XOk W9 (.slice lA ln lc) (0) (0) (0)) := Lib.hid (by rw [hW9]; exact Ol_26.out)
    have L_28 : Hid (XB W9 w4.heap.size false (.slice lA ln lc) (0) (0)) := Lib.hid (by rw [hW9]; exact L_26.out)
    have S_28 : Hid (IsN W9 (.slice A5 n5 c5) (q + 1)) := Lib.hid (by rw [hW9]; exact S_26.out)
    have Oh_28 : Hid (XOk W9 (.slice hA hn hc) (0) (0) (0)) := Lib.hid (by rw [hW9]; exact Oh_26.out)
    have H_28 : Hid (XB W9 w6.heap.size false (.slice hA hn hc) (0) (0)) := Lib.hid (by rw [hW9]; exact H_26.out)
    have V_28 : Hid (IsN W9 (.slice A7 n7 c7) (q * 10)) := Lib.hid (by rw [hW9]; exact V_26.out)
    have Z_28 : Hid (IsN W9 (.slice A8 n8 c8) (q * 10 + 5)) := Lib.hid (by rw [hW9]; exact Z_27.out)
    clear G_26 Y_26 O_26 Q_26 Ol_26 L_26 S_26 Oh_26 H_26 V_26 Z_27
    clear hW9
    have Dw9 := Lib.hid (dec_not (.slice A8 n8 c8) (q * 10 + 5) ((k - 1)) W9 Z_28.out FBO.out.2.2)
    unfold xv at Dw9
    with_reducible (refine Dw9.out.mono ?_)
    rintro _ w9 ⟨⟨uA, un, uc, rfl, jw9⟩, bw9⟩
    have G_29 := Lib.hid (bthen G_28.out bw9)
    have Y_29 := Lib.hid (Y_28.out.below bw9)
    have O_29 := Lib.hid (O_28.out.below bw9)
    have Q_29 := Lib.hid (Q_28.out.below bw9)
    have Ol_29 := Lib.hid (Ol_28.out.below bw9)
    have L_29 := Lib.hid (L_28.out.below bw9)
    have S_29 := Lib.hid (S_28.out.below bw9)
    have Oh_29 := Lib.hid (Oh_28.out.below bw9)
    have H_29 := Lib.hid (H_28.out.below bw9)
    have V_29 := Lib.hid (V_28.out.below bw9)
    have Z_29 := Lib.hid (Z_28.out.below bw9)
    clear G_28 Y_28 O_28 Q_28 Ol_28 L_28 S_28 Oh_28 H_28 V_28 Z_28
    have Ou_30 : Hid (XOk w9 (.slice uA un uc) (0) (0) (0)) := Lib.hid (jw9)
    clear bw9 jw9 Dw9
    clear V_29 Z_29 S_29 Q_29
    obtain ⟨q15a, q15b, q15c, q15d, q15e, q15f, q15g, q15h, q15i, q15j⟩ := Y_29.out.cells
    obtain ⟨q16a, q16b, q16c, q16d, q16e, q16f, q16g, q16h, q16i, q16j⟩ := L_29.out.cells
    obtain ⟨q17a, q17b, q17c, q17d, q17e, q17f, q17g, q17h, q17i, q17j⟩ := H_29.out.cells
    go_wp2_with fail
    go_ret
    exact ⟨rfl, bthen G_29.out (bgrow (Below.refl _ _) _)⟩
  · have FBO := Lib.hid FB
    clear FB
    obtain ⟨q3a, q3b, q3c, q3d, q3e, q3f, q3g, q3h, q3i, q3j⟩ := Y_9.out.cells
    go_wp2_with fail
    refine at_world ?_
    intro W4 hW4
    clear q3a q3b q3c q3d q3e q3f q3g q3h q3i q3j
    have G_11 : Hid (Below w.heap.size w W4) := Lib.hid (by rw [hW4]; exact G_9.out)
    have Y_11 : Hid (XB W4 w.heap.size false (.slice A1 n1 c1) s1 f1) := Lib.hid (by rw [hW4]; exact Y_9.out)
    have O_11 : Hid (XOk W4 (.slice A1 n1 c1) M s1 f1) := Lib.hid (by rw [hW4]; exact O_9.out)
    have Q_11 : Hid (IsN W4 (.slice A3 n3 c3) q) := Lib.hid (by rw [hW4]; exact Q_10.out)
    clear G_9 Y_9 O_9 Q_10
    clear hW4
    have Dw4 := Lib.hid (dec_yes (.slice A3 n3 c3) (q) (k) W4 Q_11.out FBO.out.1 IK.out.1)
    unfold xv at Dw4
    with_reducible (refine Dw4.out.mono ?_)
    rintro _ w4 ⟨⟨lA, ln, lc, rfl, jw4⟩, bw4⟩
    have G_12 := Lib.hid (bthen G_11.out bw4)
    have Y_12 := Lib.hid (Y_11.out.below bw4)
    have O_12 := Lib.hid (O_11.out.below bw4)
    have Q_12 := Lib.hid (Q_11.out.below bw4)
    clear G_11 Y_11 O_11 Q_11
    have Ol_13 : Hid (XOk w4 (.slice lA ln lc) (q) (k) (k)) := Lib.hid (jw4)
    clear bw4 jw4 Dw4
    obtain ⟨q4a, q4b, q4c, q4d, q4e, q4f, q4g, q4h, q4i, q4j⟩ := Y_12.out.cells
    go_wp2_with fail
    refine at_world ?_
    intro W5 hW5
    clear q4a q4b q4c q4d q4e q4f q4g q4h q4i q4j
    have G_14 : Hid (Below w.heap.size w W5) := Lib.hid (by rw [hW5]; exact (bgrow (bgrow G_12.out _) _))
    have Y_14 : Hid (XB W5 w.heap.size false (.slice A1 n1 c1) s1 f1) := Lib.hid (by rw [hW5]; exact ((Y_12.out.alloc _).alloc _))
    have O_14 : Hid (XOk W5 (.slice A1 n1 c1) M s1 f1) := Lib.hid (by rw [hW5]; exact ((O_12.out.alloc _).alloc _))
    have Q_14 : Hid (IsN W5 (.slice A3 n3 c3) q) := Lib.hid (by rw [hW5]; exact ((Q_12.out.alloc _).alloc _))
    have Ol_14 : Hid (XOk W5 (.slice lA ln lc) (q) (k) (k)) := Lib.hid (by rw [hW5]; exact ((Ol_13.out.alloc _).alloc _))
    clear G_12 Y_12 O_12 Q_12 Ol_13
    have L_15 : Hid (XB W5 w4.heap.size false (.slice lA ln lc) (k) (k)) := Lib.hid (by rw [hW5]; exact (XB.new w4 _ _ _ _).alloc _)
    have L5 := Lib.hid (show W5.cell? { block := (w4.heap.size + 1), off := 0 } = some (.int .u64 ((1 : Nat) : Int)) from by rw [hW5]; simp [go_sem])
    clear hW5
    with_reducible (refine (add_N (.slice A3 n3 c3) (.slice (some { block := w4.heap.size + 1, off := 0 }) 1 1) q 1 (eb + 4) W5 Q_14.out (lit_N L5.out (by decide) (by decide)) (pw4 HEB.out.1) (pw4a _) (by have := HEB.out.2; omega)).mono ?_)
    rintro _ w5 ⟨⟨v5, rfl, j5⟩, b5⟩
    obtain ⟨A5, n5, c5, rfl, -⟩ := nlen j5
    have G_16 := Lib.hid (bthen G_14.out b5)
    have Y_16 := Lib.hid (Y_14.out.below b5)
    have O_16 := Lib.hid (O_14.out.below b5)
    have Q_16 := Lib.hid (Q_14.out.below b5)
    have Ol_16 := Lib.hid (Ol_14.out.below b5)
    have L_16 := Lib.hid (L_15.out.below b5)
    clear G_14 Y_14 O_14 Q_14 Ol_14 L_15
    have S_17 : Hid (IsN w5 (.slice A5 n5 c5) (q + 1)) := Lib.hid (j5)
    clear b5 j5 L5
    obtain ⟨q5a, q5b, q5c, q5d, q5e, q5f, q5g, q5h, q5i, q5j⟩ := Y_16.out.cells
    obtain ⟨q6a, q6b, q6c, q6d, q6e, q6f, q6g, q6h, q6i, q6j⟩ := L_16.out.cells
    go_wp2_with fail
    refine at_world ?_
    intro W6 hW6
    clear q5a q5b q5c q5d q5e q5f q5g q5h q5i q5j q6a q6b q6c q6d q6e q6f q6g q6h q6i q6j
    have G_18 : Hid (Below w.heap.size w W6) := Lib.hid (by rw [hW6]; exact G_16.out)
    have Y_18 : Hid (XB W6 w.heap.size false (.slice A1 n1 c1) s1 f1) := Lib.hid (by rw [hW6]; exact Y_16.out)
    have O_18 : Hid (XOk W6 (.slice A1 n1 c1) M s1 f1) := Lib.hid (by rw [hW6]; exact O_16.out)
    have Q_18 : Hid (IsN W6 (.slice A3 n3 c3) q) := Lib.hid (by rw [hW6]; exact Q_16.out)
    have Ol_18 : Hid (XOk W6 (.slice lA ln lc) (q) (k) (k)) := Lib.hid (by rw [hW6]; exact Ol_16.out)
    have L_18 : Hid (XB W6 w4.heap.size false (.slice lA ln lc) (k) (k)) := Lib.hid (by rw [hW6]; exact L_16.out)
    have S_18 : Hid (IsN W6 (.slice A5 n5 c5) (q + 1)) := Lib.hid (by rw [hW6]; exact S_17.out)
    clear G_16 Y_16 O_16 Q_16 Ol_16 L_16 S_17
    clear hW6
    have Dw6 := Lib.hid (dec_not (.slice A5 n5 c5) (q + 1) (k) W6 S_18.out FBO.out.2.1)
    unfold xv at Dw6
    with_reducible (refine Dw6.out.mono ?_)
    rintro _ w6 ⟨⟨hA, hn, hc, rfl, jw6⟩, bw6⟩
    have G_19 := Lib.hid (bthen G_18.out bw6)
    have Y_19 := Lib.hid (Y_18.out.below bw6)
    have O_19 := Lib.hid (O_18.out.below bw6)
    have Q_19 := Lib.hid (Q_18.out.below bw6)
    have Ol_19 := Lib.hid (Ol_18.out.below bw6)
    have L_19 := Lib.hid (L_18.out.below bw6)
    have S_19 := Lib.hid (S_18.out.below bw6)
    clear G_18 Y_18 O_18 Q_18 Ol_18 L_18 S_18
    have Oh_20 : Hid (XOk w6 (.slice hA hn hc) (0) (0) (0)) := Lib.hid (jw6)
    clear bw6 jw6 Dw6
    obtain ⟨q7a, q7b, q7c, q7d, q7e, q7f, q7g, q7h, q7i, q7j⟩ := Y_19.out.cells
    obtain ⟨q8a, q8b, q8c, q8d, q8e, q8f, q8g, q8h, q8i, q8j⟩ := L_19.out.cells
    go_wp2_with fail
    refine at_world ?_
    intro W7 hW7
    clear q7a q7b q7c q7d q7e q7f q7g q7h q7i q7j q8a q8b q8c q8d q8e q8f q8g q8h q8i q8j
    have G_21 : Hid (Below w.heap.size w W7) := Lib.hid (by rw [hW7]; exact (bgrow (bgrow G_19.out _) _))
    have Y_21 : Hid (XB W7 w.heap.size false (.slice A1 n1 c1) s1 f1) := Lib.hid (by rw [hW7]; exact ((Y_19.out.alloc _).alloc _))
    have O_21 : Hid (XOk W7 (.slice A1 n1 c1) M s1 f1) := Lib.hid (by rw [hW7]; exact ((O_19.out.alloc _).alloc _))
    have Q_21 : Hid (IsN W7 (.slice A3 n3 c3) q) := Lib.hid (by rw [hW7]; exact ((Q_19.out.alloc _).alloc _))
    have Ol_21 : Hid (XOk W7 (.slice lA ln lc) (q) (k) (k)) := Lib.hid (by rw [hW7]; exact ((Ol_19.out.alloc _).alloc _))
    have L_21 : Hid (XB W7 w4.heap.size false (.slice lA ln lc) (k) (k)) := Lib.hid (by rw [hW7]; exact ((L_19.out.alloc _).alloc _))
    have S_21 : Hid (IsN W7 (.slice A5 n5 c5) (q + 1)) := Lib.hid (by rw [hW7]; exact ((S_19.out.alloc _).alloc _))
    have Oh_21 : Hid (XOk W7 (.slice hA hn hc) (0) (0) (0)) := Lib.hid (by rw [hW7]; exact ((Oh_20.out.alloc _).alloc _))
    clear G_19 Y_19 O_19 Q_19 Ol_19 L_19 S_19 Oh_20
    have H_22 : Hid (XB W7 w6.heap.size false (.slice hA hn hc) (0) (0)) := Lib.hid (by rw [hW7]; exact (XB.new w6 _ _ _ _).alloc _)
    have L7 := Lib.hid (show W7.cell? { block := (w6.heap.size + 1), off := 0 } = some (.int .u64 ((10 : Nat) : Int)) from by rw [hW7]; simp [go_sem])
    clear hW7
    with_reducible (refine (mul_N (.slice A3 n3 c3) (.slice (some { block := w6.heap.size + 1, off := 0 }) 1 1) q 10 eb 4 W7 Q_21.out (lit_N L7.out (by decide) (by decide)) HEB.out.1 (by decide) (by have := HEB.out.2; omega) (by decide)).mono ?_)
    rintro _ w7 ⟨⟨v7, rfl, j7⟩, b7⟩
    obtain ⟨A7, n7, c7, rfl, -⟩ := nlen j7
    have G_23 := Lib.hid (bthen G_21.out b7)
    have Y_23 := Lib.hid (Y_21.out.below b7)
    have O_23 := Lib.hid (O_21.out.below b7)
    have Q_23 := Lib.hid (Q_21.out.below b7)
    have Ol_23 := Lib.hid (Ol_21.out.below b7)
    have L_23 := Lib.hid (L_21.out.below b7)
    have S_23 := Lib.hid (S_21.out.below b7)
    have Oh_23 := Lib.hid (Oh_21.out.below b7)
    have H_23 := Lib.hid (H_22.out.below b7)
    clear G_21 Y_21 O_21 Q_21 Ol_21 L_21 S_21 Oh_21 H_22
    have V_24 : Hid (IsN w7 (.slice A7 n7 c7) (q * 10)) := Lib.hid (j7)
    clear b7 j7 L7
    obtain ⟨q9a, q9b, q9c, q9d, q9e, q9f, q9g, q9h, q9i, q9j⟩ := Y_23.out.cells
    obtain ⟨q10a, q10b, q10c, q10d, q10e, q10f, q10g, q10h, q10i, q10j⟩ := L_23.out.cells
    obtain ⟨q11a, q11b, q11c, q11d, q11e, q11f, q11g, q11h, q11i, q11j⟩ := H_23.out.cells
    go_wp2_with fail
    refine at_world ?_
    intro W8 hW8
    clear q9a q9b q9c q9d q9e q9f q9g q9h q9i q9j q10a q10b q10c q10d q10e q10f q10g q10h q10i q10j q11a q11b q11c q11d q11e q11f q11g q11h q11i q11j
    have G_25 : Hid (Below w.heap.size w W8) := Lib.hid (by rw [hW8]; exact (bgrow G_23.out _))
    have Y_25 : Hid (XB W8 w.heap.size false (.slice A1 n1 c1) s1 f1) := Lib.hid (by rw [hW8]; exact (Y_23.out.alloc _))
    have O_25 : Hid (XOk W8 (.slice A1 n1 c1) M s1 f1) := Lib.hid (by rw [hW8]; exact (O_23.out.alloc _))
    have Q_25 : Hid (IsN W8 (.slice A3 n3 c3) q) := Lib.hid (by rw [hW8]; exact (Q_23.out.alloc _))
    have Ol_25 : Hid (XOk W8 (.slice lA ln lc) (q) (k) (k)) := Lib.hid (by rw [hW8]; exact (Ol_23.out.alloc _))
    have L_25 : Hid (XB W8 w4.heap.size false (.slice lA ln lc) (k) (k)) := Lib.hid (by rw [hW8]; exact (L_23.out.alloc _))
    have S_25 : Hid (IsN W8 (.slice A5 n5 c5) (q + 1)) := Lib.hid (by rw [hW8]; exact (S_23.out.alloc _))
    have Oh_25 : Hid (XOk W8 (.slice hA hn hc) (0) (0) (0)) := Lib.hid (by rw [hW8]; exact (Oh_23.out.alloc _))
    have H_25 : Hid (XB W8 w6.heap.size false (.slice hA hn hc) (0) (0)) := Lib.hid (by rw [hW8]; exact (H_23.out.alloc _))
    have V_25 : Hid (IsN W8 (.slice A7 n7 c7) (q * 10)) := Lib.hid (by rw [hW8]; exact (V_24.out.alloc _))
    clear G_23 Y_23 O_23 Q_23 Ol_23 L_23 S_23 Oh_23 H_23 V_24
    have L8 := Lib.hid (show W8.cell? { block := w7.heap.size, off := 0 } = some (.int .u64 ((5 : Nat) : Int)) from by rw [hW8]; simp [go_sem])
    clear hW8
    with_reducible (refine (add_N (.slice A7 n7 c7) (.slice (some { block := w7.heap.size, off := 0 }) 1 1) (q * 10) 5 (eb + 4) W8 V_25.out (lit_N L8.out (by decide) (by decide)) (mul_bits HEB.out.1 (by decide)) (pw4b _) (by have := HEB.out.2; omega)).mono ?_)
    rintro _ w8 ⟨⟨v8, rfl, j8⟩, b8⟩
    obtain ⟨A8, n8, c8, rfl, -⟩ := nlen j8
    have G_26 := Lib.hid (bthen G_25.out b8)
    have Y_26 := Lib.hid (Y_25.out.below b8)
    have O_26 := Lib.hid (O_25.out.below b8)
    have Q_26 := Lib.hid (Q_25.out.below b8)
    have Ol_26 := Lib.hid (Ol_25.out.below b8)
    have L_26 := Lib.hid (L_25.out.below b8)
    have S_26 := Lib.hid (S_25.out.below b8)
    have Oh_26 := Lib.hid (Oh_25.out.below b8)
    have H_26 := Lib.hid (H_25.out.below b8)
    have V_26 := Lib.hid (V_25.out.below b8)
    clear G_25 Y_25 O_25 Q_25 Ol_25 L_25 S_25 Oh_25 H_25 V_25
    have Z_27 : Hid (IsN w8 (.slice A8 n8 c8) (q * 10 + 5)) := Lib.hid (j8)
    clear b8 j8 L8
    obtain ⟨q12a, q12b, q12c, q12d, q12e, q12f, q12g, q12h, q12i, q12j⟩ := Y_26.out.cells
    obtain ⟨q13a, q13b, q13c, q13d, q13e, q13f, q13g, q13h, q13i, q13j⟩ := L_26.out.cells
    obtain ⟨q14a, q14b, q14c, q14d, q14e, q14f, q14g, q14h, q14i, q14j⟩ := H_26.out.cells
    go_wp2_with fail
    refine at_world ?_
    intro W9 hW9
    clear q12a q12b q12c q12d q12e q12f q12g q12h q12i q12j q13a q13b q13c q13d q13e q13f q13g q13h q13i q13j q14a q14b q14c q14d q14e q14f q14g q14h q14i q14j
    have G_28 : Hid (Below w.heap.size w W9) := Lib.hid (by rw [hW9]; exact G_26.out)
    have Y_28 : Hid (XB W9 w.heap.size false (.slice A1 n1 c1) s1 f1) := Lib.hid (by rw [hW9]; exact Y_26.out)
    have O_28 : Hid (XOk W9 (.slice A1 n1 c1) M s1 f1) := Lib.hid (by rw [hW9]; exact O_26.out)
    have Q_28 : Hid (IsN W9 (.slice A3 n3 c3) q) := Lib.hid (by rw [hW9]; exact Q_26.out)
    have Ol_28 : Hid (XOk W9 (.slice lA ln lc) (q) (k) (k)) := Lib.hid (by rw [hW9]; exact Ol_26.out)
    have L_28 : Hid (XB W9 w4.heap.size false (.slice lA ln lc) (k) (k)) := Lib.hid (by rw [hW9]; exact L_26.out)
    have S_28 : Hid (IsN W9 (.slice A5 n5 c5) (q + 1)) := Lib.hid (by rw [hW9]; exact S_26.out)
    have Oh_28 : Hid (XOk W9 (.slice hA hn hc) (0) (0) (0)) := Lib.hid (by rw [hW9]; exact Oh_26.out)
    have H_28 : Hid (XB W9 w6.heap.size false (.slice hA hn hc) (0) (0)) := Lib.hid (by rw [hW9]; exact H_26.out)
    have V_28 : Hid (IsN W9 (.slice A7 n7 c7) (q * 10)) := Lib.hid (by rw [hW9]; exact V_26.out)
    have Z_28 : Hid (IsN W9 (.slice A8 n8 c8) (q * 10 + 5)) := Lib.hid (by rw [hW9]; exact Z_27.out)
    clear G_26 Y_26 O_26 Q_26 Ol_26 L_26 S_26 Oh_26 H_26 V_26 Z_27
    clear hW9
    have Dw9 := Lib.hid (dec_not (.slice A8 n8 c8) (q * 10 + 5) ((k - 1)) W9 Z_28.out FBO.out.2.2)
    unfold xv at Dw9
    with_reducible (refine Dw9.out.mono ?_)
    rintro _ w9 ⟨⟨uA, un, uc, rfl, jw9⟩, bw9⟩
    have G_29 := Lib.hid (bthen G_28.out bw9)
    have Y_29 := Lib.hid (Y_28.out.below bw9)
    have O_29 := Lib.hid (O_28.out.below bw9)
    have Q_29 := Lib.hid (Q_28.out.below bw9)
    have Ol_29 := Lib.hid (Ol_28.out.below bw9)
    have L_29 := Lib.hid (L_28.out.below bw9)
    have S_29 := Lib.hid (S_28.out.below bw9)
    have Oh_29 := Lib.hid (Oh_28.out.below bw9)
    have H_29 := Lib.hid (H_28.out.below bw9)
    have V_29 := Lib.hid (V_28.out.below bw9)
    have Z_29 := Lib.hid (Z_28.out.below bw9)
    clear G_28 Y_28 O_28 Q_28 Ol_28 L_28 S_28 Oh_28 H_28 V_28 Z_28
    have Ou_30 : Hid (XOk w9 (.slice uA un uc) (0) (0) (0)) := Lib.hid (jw9)
    clear bw9 jw9 Dw9
    clear V_29 Z_29 S_29 Q_29
    obtain ⟨q15a, q15b, q15c, q15d, q15e, q15f, q15g, q15h, q15i, q15j⟩ := Y_29.out.cells
    obtain ⟨q16a, q16b, q16c, q16d, q16e, q16f, q16g, q16h, q16i, q16j⟩ := L_29.out.cells
    obtain ⟨q17a, q17b, q17c, q17d, q17e, q17f, q17g, q17h, q17i, q17j⟩ := H_29.out.cells
    go_wp2_with fail
    go_ret
    exact ⟨rfl, bthen G_29.out (bgrow (Below.refl _ _) _)⟩
  · have FBO := Lib.hid FB
    clear FB
    obtain ⟨q3a, q3b, q3c, q3d, q3e, q3f, q3g, q3h, q3i, q3j⟩ := Y_9.out.cells
    go_wp2_with fail
    refine at_world ?_
    intro W4 hW4
    clear q3a q3b q3c q3d q3e q3f q3g q3h q3i q3j
    have G_11 : Hid (Below w.heap.size w W4) := Lib.hid (by rw [hW4]; exact G_9.out)
    have Y_11 : Hid (XB W4 w.heap.size false (.slice A1 n1 c1) s1 f1) := Lib.hid (by rw [hW4]; exact Y_9.out)
    have O_11 : Hid (XOk W4 (.slice A1 n1 c1) M s1 f1) := Lib.hid (by rw [hW4]; exact O_9.out)
    have Q_11 : Hid (IsN W4 (.slice A3 n3 c3) q) := Lib.hid (by rw [hW4]; exact Q_10.out)
    clear G_9 Y_9 O_9 Q_10
    clear hW4
    have Dw4 := Lib.hid (dec_yes (.slice A3 n3 c3) (q) (k) W4 Q_11.out FBO.out.1 IK.out.1)
    unfold xv at Dw4
    with_reducible (refine Dw4.out.mono ?_)
    rintro _ w4 ⟨⟨lA, ln, lc, rfl, jw4⟩, bw4⟩
    have G_12 := Lib.hid (bthen G_11.out bw4)
    have Y_12 := Lib.hid (Y_11.out.below bw4)
    have O_12 := Lib.hid (O_11.out.below bw4)
    have Q_12 := Lib.hid (Q_11.out.below bw4)
    clear G_11 Y_11 O_11 Q_11
    have Ol_13 : Hid (XOk w4 (.slice lA ln lc) (q) (k) (k)) := Lib.hid (jw4)
    clear bw4 jw4 Dw4
    obtain ⟨q4a, q4b, q4c, q4d, q4e, q4f, q4g, q4h, q4i, q4j⟩ := Y_12.out.cells
    go_wp2_with fail
    refine at_world ?_
    intro W5 hW5
    clear q4a q4b q4c q4d q4e q4f q4g q4h q4i q4j
    have G_14 : Hid (Below w.heap.size w W5) := Lib.hid (by rw [hW5]; exact (bgrow (bgrow G_12.out _) _))
    have Y_14 : Hid (XB W5 w.heap.size false (.slice A1 n1 c1) s1 f1) := Lib.hid (by rw [hW5]; exact ((Y_12.out.alloc _).alloc _))
    have O_14 : Hid (XOk W5 (.slice A1 n1 c1) M s1 f1) := Lib.hid (by rw [hW5]; exact ((O_12.out.alloc _).alloc _))
    have Q_14 : Hid (IsN W5 (.slice A3 n3 c3) q) := Lib.hid (by rw [hW5]; exact ((Q_12.out.alloc _).alloc _))
    have Ol_14 : Hid (XOk W5 (.slice lA ln lc) (q) (k) (k)) := Lib.hid (by rw [hW5]; exact ((Ol_13.out.alloc _).alloc _))
    clear G_12 Y_12 O_12 Q_12 Ol_13
    have L_15 : Hid (XB W5 w4.heap.size false (.slice lA ln lc) (k) (k)) := Lib.hid (by rw [hW5]; exact (XB.new w4 _ _ _ _).alloc _)
    have L5 := Lib.hid (show W5.cell? { block := (w4.heap.size + 1), off := 0 } = some (.int .u64 ((1 : Nat) : Int)) from by rw [hW5]; simp [go_sem])
    clear hW5
    with_reducible (refine (add_N (.slice A3 n3 c3) (.slice (some { block := w4.heap.size + 1, off := 0 }) 1 1) q 1 (eb + 4) W5 Q_14.out (lit_N L5.out (by decide) (by decide)) (pw4 HEB.out.1) (pw4a _) (by have := HEB.out.2; omega)).mono ?_)
    rintro _ w5 ⟨⟨v5, rfl, j5⟩, b5⟩
    obtain ⟨A5, n5, c5, rfl, -⟩ := nlen j5
    have G_16 := Lib.hid (bthen G_14.out b5)
    have Y_16 := Lib.hid (Y_14.out.below b5)
    have O_16 := Lib.hid (O_14.out.below b5)
    have Q_16 := Lib.hid (Q_14.out.below b5)
    have Ol_16 := Lib.hid (Ol_14.out.below b5)
    have L_16 := Lib.hid (L_15.out.below b5)
    clear G_14 Y_14 O_14 Q_14 Ol_14 L_15
    have S_17 : Hid (IsN w5 (.slice A5 n5 c5) (q + 1)) := Lib.hid (j5)
    clear b5 j5 L5
    obtain ⟨q5a, q5b, q5c, q5d, q5e, q5f, q5g, q5h, q5i, q5j⟩ := Y_16.out.cells
    obtain ⟨q6a, q6b, q6c, q6d, q6e, q6f, q6g, q6h, q6i, q6j⟩ := L_16.out.cells
    go_wp2_with fail
    refine at_world ?_
    intro W6 hW6
    clear q5a q5b q5c q5d q5e q5f q5g q5h q5i q5j q6a q6b q6c q6d q6e q6f q6g q6h q6i q6j
    have G_18 : Hid (Below w.heap.size w W6) := Lib.hid (by rw [hW6]; exact G_16.out)
    have Y_18 : Hid (XB W6 w.heap.size false (.slice A1 n1 c1) s1 f1) := Lib.hid (by rw [hW6]; exact Y_16.out)
    have O_18 : Hid (XOk W6 (.slice A1 n1 c1) M s1 f1) := Lib.hid (by rw [hW6]; exact O_16.out)
    have Q_18 : Hid (IsN W6 (.slice A3 n3 c3) q) := Lib.hid (by rw [hW6]; exact Q_16.out)
    have Ol_18 : Hid (XOk W6 (.slice lA ln lc) (q) (k) (k)) := Lib.hid (by rw [hW6]; exact Ol_16.out)
    have L_18 : Hid (XB W6 w4.heap.size false (.slice lA ln lc) (k) (k)) := Lib.hid (by rw [hW6]; exact L_16.out)
    have S_18 : Hid (IsN W6 (.slice A5 n5 c5) (q + 1)) := Lib.hid (by rw [hW6]; exact S_17.out)
    clear G_16 Y_16 O_16 Q_16 Ol_16 L_16 S_17
    clear hW6
    have Dw6 := Lib.hid (dec_yes (.slice A5 n5 c5) (q + 1) (k) W6 S_18.out FBO.out.2.1 IK.out.1)
    unfold xv at Dw6
    with_reducible (refine Dw6.out.mono ?_)
    rintro _ w6 ⟨⟨hA, hn, hc, rfl, jw6⟩, bw6⟩
    have G_19 := Lib.hid (bthen G_18.out bw6)
    have Y_19 := Lib.hid (Y_18.out.below bw6)
    have O_19 := Lib.hid (O_18.out.below bw6)
    have Q_19 := Lib.hid (Q_18.out.below bw6)
    have Ol_19 := Lib.hid (Ol_18.out.below bw6)
    have L_19 := Lib.hid (L_18.out.below bw6)
    have S_19 := Lib.hid (S_18.out.below bw6)
    clear G_18 Y_18 O_18 Q_18 Ol_18 L_18 S_18
    have Oh_20 : Hid (XOk w6 (.slice hA hn hc) (q + 1) (k) (k)) := Lib.hid (jw6)
    clear bw6 jw6 Dw6
    obtain ⟨q7a, q7b, q7c, q7d, q7e, q7f, q7g, q7h, q7i, q7j⟩ := Y_19.out.cells
    obtain ⟨q8a, q8b, q8c, q8d, q8e, q8f, q8g, q8h, q8i, q8j⟩ := L_19.out.cells
    go_wp2_with fail
    refine at_world ?_
    intro W7 hW7
    clear q7a q7b q7c q7d q7e q7f q7g q7h q7i q7j q8a q8b q8c q8d q8e q8f q8g q8h q8i q8j
    have G_21 : Hid (Below w.heap.size w W7) := Lib.hid (by rw [hW7]; exact (bgrow (bgrow G_19.out _) _))
    have Y_21 : Hid (XB W7 w.heap.size false (.slice A1 n1 c1) s1 f1) := Lib.hid (by rw [hW7]; exact ((Y_19.out.alloc _).alloc _))
    have O_21 : Hid (XOk W7 (.slice A1 n1 c1) M s1 f1) := Lib.hid (by rw [hW7]; exact ((O_19.out.alloc _).alloc _))
    have Q_21 : Hid (IsN W7 (.slice A3 n3 c3) q) := Lib.hid (by rw [hW7]; exact ((Q_19.out.alloc _).alloc _))
    have Ol_21 : Hid (XOk W7 (.slice lA ln lc) (q) (k) (k)) := Lib.hid (by rw [hW7]; exact ((Ol_19.out.alloc _).alloc _))
    have L_21 : Hid (XB W7 w4.heap.size false (.slice lA ln lc) (k) (k)) := Lib.hid (by rw [hW7]; exact ((L_19.out.alloc _).alloc _))
    have S_21 : Hid (IsN W7 (.slice A5 n5 c5) (q + 1)) := Lib.hid (by rw [hW7]; exact ((S_19.out.alloc _).alloc _))
    have Oh_21 : Hid (XOk W7 (.slice hA hn hc) (q + 1) (k) (k)) := Lib.hid (by rw [hW7]; exact ((Oh_20.out.alloc _).alloc _))
    clear G_19 Y_19 O_19 Q_19 Ol_19 L_19 S_19 Oh_20
    have H_22 : Hid (XB W7 w6.heap.size false (.slice hA hn hc) (k) (k)) := Lib.hid (by rw [hW7]; exact (XB.new w6 _ _ _ _).alloc _)
    have L7 := Lib.hid (show W7.cell? { block := (w6.heap.size + 1), off := 0 } = some (.int .u64 ((10 : Nat) : Int)) from by rw [hW7]; simp [go_sem])
    clear hW7
    with_reducible (refine (mul_N (.slice A3 n3 c3) (.slice (some { block := w6.heap.size + 1, off := 0 }) 1 1) q 10 eb 4 W7 Q_21.out (lit_N L7.out (by decide) (by decide)) HEB.out.1 (by decide) (by have := HEB.out.2; omega) (by decide)).mono ?_)
    rintro _ w7 ⟨⟨v7, rfl, j7⟩, b7⟩
    obtain ⟨A7, n7, c7, rfl, -⟩ := nlen j7
    have G_23 := Lib.hid (bthen G_21.out b7)
    have Y_23 := Lib.hid (Y_21.out.below b7)
    have O_23 := Lib.hid (O_21.out.below b7)
    have Q_23 := Lib.hid (Q_21.out.below b7)
    have Ol_23 := Lib.hid (Ol_21.out.below b7)
    have L_23 := Lib.hid (L_21.out.below b7)
    have S_23 := Lib.hid (S_21.out.below b7)
    have Oh_23 := Lib.hid (Oh_21.out.below b7)
    have H_23 := Lib.hid (H_22.out.below b7)
    clear G_21 Y_21 O_21 Q_21 Ol_21 L_21 S_21 Oh_21 H_22
    have V_24 : Hid (IsN w7 (.slice A7 n7 c7) (q * 10)) := Lib.hid (j7)
    clear b7 j7 L7
    obtain ⟨q9a, q9b, q9c, q9d, q9e, q9f, q9g, q9h, q9i, q9j⟩ := Y_23.out.cells
    obtain ⟨q10a, q10b, q10c, q10d, q10e, q10f, q10g, q10h, q10i, q10j⟩ := L_23.out.cells
    obtain ⟨q11a, q11b, q11c, q11d, q11e, q11f, q11g, q11h, q11i, q11j⟩ := H_23.out.cells
    go_wp2_with fail
    refine at_world ?_
    intro W8 hW8
    clear q9a q9b q9c q9d q9e q9f q9g q9h q9i q9j q10a q10b q10c q10d q10e q10f q10g q10h q10i q10j q11a q11b q11c q11d q11e q11f q11g q11h q11i q11j
    have G_25 : Hid (Below w.heap.size w W8) := Lib.hid (by rw [hW8]; exact (bgrow G_23.out _))
    have Y_25 : Hid (XB W8 w.heap.size false (.slice A1 n1 c1) s1 f1) := Lib.hid (by rw [hW8]; exact (Y_23.out.alloc _))
    have O_25 : Hid (XOk W8 (.slice A1 n1 c1) M s1 f1) := Lib.hid (by rw [hW8]; exact (O_23.out.alloc _))
    have Q_25 : Hid (IsN W8 (.slice A3 n3 c3) q) := Lib.hid (by rw [hW8]; exact (Q_23.out.alloc _))
    have Ol_25 : Hid (XOk W8 (.slice lA ln lc) (q) (k) (k)) := Lib.hid (by rw [hW8]; exact (Ol_23.out.alloc _))
    have L_25 : Hid (XB W8 w4.heap.size false (.slice lA ln lc) (k) (k)) := Lib.hid (by rw [hW8]; exact (L_23.out.alloc _))
    have S_25 : Hid (IsN W8 (.slice A5 n5 c5) (q + 1)) := Lib.hid (by rw [hW8]; exact (S_23.out.alloc _))
    have Oh_25 : Hid (XOk W8 (.slice hA hn hc) (q + 1) (k) (k)) := Lib.hid (by rw [hW8]; exact (Oh_23.out.alloc _))
    have H_25 : Hid (XB W8 w6.heap.size false (.slice hA hn hc) (k) (k)) := Lib.hid (by rw [hW8]; exact (H_23.out.alloc _))
    have V_25 : Hid (IsN W8 (.slice A7 n7 c7) (q * 10)) := Lib.hid (by rw [hW8]; exact (V_24.out.alloc _))
    clear G_23 Y_23 O_23 Q_23 Ol_23 L_23 S_23 Oh_23 H_23 V_24
    have L8 := Lib.hid (show W8.cell? { block := w7.heap.size, off := 0 } = some (.int .u64 ((5 : Nat) : Int)) from by rw [hW8]; simp [go_sem])
    clear hW8
    with_reducible (refine (add_N (.slice A7 n7 c7) (.slice (some { block := w7.heap.size, off := 0 }) 1 1) (q * 10) 5 (eb + 4) W8 V_25.out (lit_N L8.out (by decide) (by decide)) (mul_bits HEB.out.1 (by decide)) (pw4b _) (by have := HEB.out.2; omega)).mono ?_)
    rintro _ w8 ⟨⟨v8, rfl, j8⟩, b8⟩
    obtain ⟨A8, n8, c8, rfl, -⟩ := nlen j8
    have G_26 := Lib.hid (bthen G_25.out b8)
    have Y_26 := Lib.hid (Y_25.out.below b8)
    have O_26 := Lib.hid (O_25.out.below b8)
    have Q_26 := Lib.hid (Q_25.out.below b8)
    have Ol_26 := Lib.hid (Ol_25.out.below b8)
    have L_26 := Lib.hid (L_25.out.below b8)
    have S_26 := Lib.hid (S_25.out.below b8)
    have Oh_26 := Lib.hid (Oh_25.out.below b8)
    have H_26 := Lib.hid (H_25.out.below b8)
    have V_26 := Lib.hid (V_25.out.below b8)
    clear G_25 Y_25 O_25 Q_25 Ol_25 L_25 S_25 Oh_25 H_25 V_25
    have Z_27 : Hid (IsN w8 (.slice A8 n8 c8) (q * 10 + 5)) := Lib.hid (j8)
    clear b8 j8 L8
    obtain ⟨q12a, q12b, q12c, q12d, q12e, q12f, q12g, q12h, q12i, q12j⟩ := Y_26.out.cells
    obtain ⟨q13a, q13b, q13c, q13d, q13e, q13f, q13g, q13h, q13i, q13j⟩ := L_26.out.cells
    obtain ⟨q14a, q14b, q14c, q14d, q14e, q14f, q14g, q14h, q14i, q14j⟩ := H_26.out.cells
    go_wp2_with fail
    refine at_world ?_
    intro W9 hW9
    clear q12a q12b q12c q12d q12e q12f q12g q12h q12i q12j q13a q13b q13c q13d q13e q13f q13g q13h q13i q13j q14a q14b q14c q14d q14e q14f q14g q14h q14i q14j
    have G_28 : Hid (Below w.heap.size w W9) := Lib.hid (by rw [hW9]; exact G_26.out)
    have Y_28 : Hid (XB W9 w.heap.size false (.slice A1 n1 c1) s1 f1) := Lib.hid (by rw [hW9]; exact Y_26.out)
    have O_28 : Hid (XOk W9 (.slice A1 n1 c1) M s1 f1) := Lib.hid (by rw [hW9]; exact O_26.out)
    have Q_28 : Hid (IsN W9 (.slice A3 n3 c3) q) := Lib.hid (by rw [hW9]; exact Q_26.out)
    have Ol_28 : Hid (XOk W9 (.slice lA ln lc) (q) (k) (k)) := Lib.hid (by rw [hW9]; exact Ol_26.out)
    have L_28 : Hid (XB W9 w4.heap.size false (.slice lA ln lc) (k) (k)) := Lib.hid (by rw [hW9]; exact L_26.out)
    have S_28 : Hid (IsN W9 (.slice A5 n5 c5) (q + 1)) := Lib.hid (by rw [hW9]; exact S_26.out)
    have Oh_28 : Hid (XOk W9 (.slice hA hn hc) (q + 1) (k) (k)) := Lib.hid (by rw [hW9]; exact Oh_26.out)
    have H_28 : Hid (XB W9 w6.heap.size false (.slice hA hn hc) (k) (k)) := Lib.hid (by rw [hW9]; exact H_26.out)
    have V_28 : Hid (IsN W9 (.slice A7 n7 c7) (q * 10)) := Lib.hid (by rw [hW9]; exact V_26.out)
    have Z_28 : Hid (IsN W9 (.slice A8 n8 c8) (q * 10 + 5)) := Lib.hid (by rw [hW9]; exact Z_27.out)
    clear G_26 Y_26 O_26 Q_26 Ol_26 L_26 S_26 Oh_26 H_26 V_26 Z_27
    clear hW9
    have Dw9 := Lib.hid (dec_not (.slice A8 n8 c8) (q * 10 + 5) ((k - 1)) W9 Z_28.out FBO.out.2.2)
    unfold xv at Dw9
    with_reducible (refine Dw9.out.mono ?_)
    rintro _ w9 ⟨⟨uA, un, uc, rfl, jw9⟩, bw9⟩
    have G_29 := Lib.hid (bthen G_28.out bw9)
    have Y_29 := Lib.hid (Y_28.out.below bw9)
    have O_29 := Lib.hid (O_28.out.below bw9)
    have Q_29 := Lib.hid (Q_28.out.below bw9)
    have Ol_29 := Lib.hid (Ol_28.out.below bw9)
    have L_29 := Lib.hid (L_28.out.below bw9)
    have S_29 := Lib.hid (S_28.out.below bw9)
    have Oh_29 := Lib.hid (Oh_28.out.below bw9)
    have H_29 := Lib.hid (H_28.out.below bw9)
    have V_29 := Lib.hid (V_28.out.below bw9)
    have Z_29 := Lib.hid (Z_28.out.below bw9)
    clear G_28 Y_28 O_28 Q_28 Ol_28 L_28 S_28 Oh_28 H_28 V_28 Z_28
    have Ou_30 : Hid (XOk w9 (.slice uA un uc) (0) (0) (0)) := Lib.hid (jw9)
    clear bw9 jw9 Dw9
    clear V_29 Z_29 S_29 Q_29
    obtain ⟨q15a, q15b, q15c, q15d, q15e, q15f, q15g, q15h, q15i, q15j⟩ := Y_29.out.cells
    obtain ⟨q16a, q16b, q16c, q16d, q16e, q16f, q16g, q16h, q16i, q16j⟩ := L_29.out.cells
    obtain ⟨q17a, q17b, q17c, q17d, q17e, q17f, q17g, q17h, q17i, q17j⟩ := H_29.out.cells
    go_wp2_with fail
    go_ret
    exact ⟨rfl, bthen G_29.out (bgrow (Below.refl _ _) _)⟩
  · have FBO := Lib.hid FB
    clear FB
    obtain ⟨q3a, q3b, q3c, q3d, q3e, q3f, q3g, q3h, q3i, q3j⟩ := Y_9.out.cells
    go_wp2_with fail
    refine at_world ?_
    intro W4 hW4
    clear q3a q3b q3c q3d q3e q3f q3g q3h q3i q3j
    have G_11 : Hid (Below w.heap.size w W4) := Lib.hid (by rw [hW4]; exact G_9.out)
    have Y_11 : Hid (XB W4 w.heap.size false (.slice A1 n1 c1) s1 f1) := Lib.hid (by rw [hW4]; exact Y_9.out)
    have O_11 : Hid (XOk W4 (.slice A1 n1 c1) M s1 f1) := Lib.hid (by rw [hW4]; exact O_9.out)
    have Q_11 : Hid (IsN W4 (.slice A3 n3 c3) q) := Lib.hid (by rw [hW4]; exact Q_10.out)
    clear G_9 Y_9 O_9 Q_10
    clear hW4
    have Dw4 := Lib.hid (dec_yes (.slice A3 n3 c3) (q) (k) W4 Q_11.out FBO.out.1 IK.out.1)
    unfold xv at Dw4
    with_reducible (refine Dw4.out.mono ?_)
    rintro _ w4 ⟨⟨lA, ln, lc, rfl, jw4⟩, bw4⟩
    have G_12 := Lib.hid (bthen G_11.out bw4)
    have Y_12 := Lib.hid (Y_11.out.below bw4)
    have O_12 := Lib.hid (O_11.out.below bw4)
    have Q_12 := Lib.hid (Q_11.out.below bw4)
    clear G_11 Y_11 O_11 Q_11
    have Ol_13 : Hid (XOk w4 (.slice lA ln lc) (q) (k) (k)) := Lib.hid (jw4)
    clear bw4 jw4 Dw4
    obtain ⟨q4a, q4b, q4c, q4d, q4e, q4f, q4g, q4h, q4i, q4j⟩ := Y_12.out.cells
    go_wp2_with fail
    refine at_world ?_
    intro W5 hW5
    clear q4a q4b q4c q4d q4e q4f q4g q4h q4i q4j
    have G_14 : Hid (Below w.heap.size w W5) := Lib.hid (by rw [hW5]; exact (bgrow (bgrow G_12.out _) _))
    have Y_14 : Hid (XB W5 w.heap.size false (.slice A1 n1 c1) s1 f1) := Lib.hid (by rw [hW5]; exact ((Y_12.out.alloc _).alloc _))
    have O_14 : Hid (XOk W5 (.slice A1 n1 c1) M s1 f1) := Lib.hid (by rw [hW5]; exact ((O_12.out.alloc _).alloc _))
    have Q_14 : Hid (IsN W5 (.slice A3 n3 c3) q) := Lib.hid (by rw [hW5]; exact ((Q_12.out.alloc _).alloc _))
    have Ol_14 : Hid (XOk W5 (.slice lA ln lc) (q) (k) (k)) := Lib.hid (by rw [hW5]; exact ((Ol_13.out.alloc _).alloc _))
    clear G_12 Y_12 O_12 Q_12 Ol_13
    have L_15 : Hid (XB W5 w4.heap.size false (.slice lA ln lc) (k) (k)) := Lib.hid (by rw [hW5]; exact (XB.new w4 _ _ _ _).alloc _)
    have L5 := Lib.hid (show W5.cell? { block := (w4.heap.size + 1), off := 0 } = some (.int .u64 ((1 : Nat) : Int)) from by rw [hW5]; simp [go_sem])
    clear hW5
    with_reducible (refine (add_N (.slice A3 n3 c3) (.slice (some { block := w4.heap.size + 1, off := 0 }) 1 1) q 1 (eb + 4) W5 Q_14.out (lit_N L5.out (by decide) (by decide)) (pw4 HEB.out.1) (pw4a _) (by have := HEB.out.2; omega)).mono ?_)
    rintro _ w5 ⟨⟨v5, rfl, j5⟩, b5⟩
    obtain ⟨A5, n5, c5, rfl, -⟩ := nlen j5
    have G_16 := Lib.hid (bthen G_14.out b5)
    have Y_16 := Lib.hid (Y_14.out.below b5)
    have O_16 := Lib.hid (O_14.out.below b5)
    have Q_16 := Lib.hid (Q_14.out.below b5)
    have Ol_16 := Lib.hid (Ol_14.out.below b5)
    have L_16 := Lib.hid (L_15.out.below b5)
    clear G_14 Y_14 O_14 Q_14 Ol_14 L_15
    have S_17 : Hid (IsN w5 (.slice A5 n5 c5) (q + 1)) := Lib.hid (j5)
    clear b5 j5 L5
    obtain ⟨q5a, q5b, q5c, q5d, q5e, q5f, q5g, q5h, q5i, q5j⟩ := Y_16.out.cells
    obtain ⟨q6a, q6b, q6c, q6d, q6e, q6f, q6g, q6h, q6i, q6j⟩ := L_16.out.cells
    go_wp2_with fail
    refine at_world ?_
    intro W6 hW6
    clear q5a q5b q5c q5d q5e q5f q5g q5h q5i q5j q6a q6b q6c q6d q6e q6f q6g q6h q6i q6j
    have G_18 : Hid (Below w.heap.size w W6) := Lib.hid (by rw [hW6]; exact G_16.out)
    have Y_18 : Hid (XB W6 w.heap.size false (.slice A1 n1 c1) s1 f1) := Lib.hid (by rw [hW6]; exact Y_16.out)
    have O_18 : Hid (XOk W6 (.slice A1 n1 c1) M s1 f1) := Lib.hid (by rw [hW6]; exact O_16.out)
    have Q_18 : Hid (IsN W6 (.slice A3 n3 c3) q) := Lib.hid (by rw [hW6]; exact Q_16.out)
    have Ol_18 : Hid (XOk W6 (.slice lA ln lc) (q) (k) (k)) := Lib.hid (by rw [hW6]; exact Ol_16.out)
    have L_18 : Hid (XB W6 w4.heap.size false (.slice lA ln lc) (k) (k)) := Lib.hid (by rw [hW6]; exact L_16.out)
    have S_18 : Hid (IsN W6 (.slice A5 n5 c5) (q + 1)) := Lib.hid (by rw [hW6]; exact S_17.out)
    clear G_16 Y_16 O_16 Q_16 Ol_16 L_16 S_17
    clear hW6
    have Dw6 := Lib.hid (dec_yes (.slice A5 n5 c5) (q + 1) (k) W6 S_18.out FBO.out.2.1 IK.out.1)
    unfold xv at Dw6
    with_reducible (refine Dw6.out.mono ?_)
    rintro _ w6 ⟨⟨hA, hn, hc, rfl, jw6⟩, bw6⟩
    have G_19 := Lib.hid (bthen G_18.out bw6)
    have Y_19 := Lib.hid (Y_18.out.below bw6)
    have O_19 := Lib.hid (O_18.out.below bw6)
    have Q_19 := Lib.hid (Q_18.out.below bw6)
    have Ol_19 := Lib.hid (Ol_18.out.below bw6)
    have L_19 := Lib.hid (L_18.out.below bw6)
    have S_19 := Lib.hid (S_18.out.below bw6)
    clear G_18 Y_18 O_18 Q_18 Ol_18 L_18 S_18
    have Oh_20 : Hid (XOk w6 (.slice hA hn hc) (q + 1) (k) (k)) := Lib.hid (jw6)
    clear bw6 jw6 Dw6
    obtain ⟨q7a, q7b, q7c, q7d, q7e, q7f, q7g, q7h, q7i, q7j⟩ := Y_19.out.cells
    obtain ⟨q8a, q8b, q8c, q8d, q8e, q8f, q8g, q8h, q8i, q8j⟩ := L_19.out.cells
    go_wp2_with fail
    refine at_world ?_
    intro W7 hW7
    clear q7a q7b q7c q7d q7e q7f q7g q7h q7i q7j q8a q8b q8c q8d q8e q8f q8g q8h q8i q8j
    have G_21 : Hid (Below w.heap.size w W7) := Lib.hid (by rw [hW7]; exact (bgrow (bgrow G_19.out _) _))
    have Y_21 : Hid (XB W7 w.heap.size false (.slice A1 n1 c1) s1 f1) := Lib.hid (by rw [hW7]; exact ((Y_19.out.alloc _).alloc _))
    have O_21 : Hid (XOk W7 (.slice A1 n1 c1) M s1 f1) := Lib.hid (by rw [hW7]; exact ((O_19.out.alloc _).alloc _))
    have Q_21 : Hid (IsN W7 (.slice A3 n3 c3) q) := Lib.hid (by rw [hW7]; exact ((Q_19.out.alloc _).alloc _))
    have Ol_21 : Hid (XOk W7 (.slice lA ln lc) (q) (k) (k)) := Lib.hid (by rw [hW7]; exact ((Ol_19.out.alloc _).alloc _))
    have L_21 : Hid (XB W7 w4.heap.size false (.slice lA ln lc) (k) (k)) := Lib.hid (by rw [hW7]; exact ((L_19.out.alloc _).alloc _))
    have S_21 : Hid (IsN W7 (.slice A5 n5 c5) (q + 1)) := Lib.hid (by rw [hW7]; exact ((S_19.out.alloc _).alloc _))
    have Oh_21 : Hid (XOk W7 (.slice hA hn hc) (q + 1) (k) (k)) := Lib.hid (by rw [hW7]; exact ((Oh_20.out.alloc _).alloc _))
    clear G_19 Y_19 O_19 Q_19 Ol_19 L_19 S_19 Oh_20
    have H_22 : Hid (XB W7 w6.heap.size false (.slice hA hn hc) (k) (k)) := Lib.hid (by rw [hW7]; exact (XB.new w6 _ _ _ _).alloc _)
    have L7 := Lib.hid (show W7.cell? { block := (w6.heap.size + 1), off := 0 } = some (.int .u64 ((10 : Nat) : Int)) from by rw [hW7]; simp [go_sem])
    clear hW7
    with_reducible (refine (mul_N (.slice A3 n3 c3) (.slice (some { block := w6.heap.size + 1, off := 0 }) 1 1) q 10 eb 4 W7 Q_21.out (lit_N L7.out (by decide) (by decide)) HEB.out.1 (by decide) (by have := HEB.out.2; omega) (by decide)).mono ?_)
    rintro _ w7 ⟨⟨v7, rfl, j7⟩, b7⟩
    obtain ⟨A7, n7, c7, rfl, -⟩ := nlen j7
    have G_23 := Lib.hid (bthen G_21.out b7)
    have Y_23 := Lib.hid (Y_21.out.below b7)
    have O_23 := Lib.hid (O_21.out.below b7)
    have Q_23 := Lib.hid (Q_21.out.below b7)
    have Ol_23 := Lib.hid (Ol_21.out.below b7)
    have L_23 := Lib.hid (L_21.out.below b7)
    have S_23 := Lib.hid (S_21.out.below b7)
    have Oh_23 := Lib.hid (Oh_21.out.below b7)
    have H_23 := Lib.hid (H_22.out.below b7)
    clear G_21 Y_21 O_21 Q_21 Ol_21 L_21 S_21 Oh_21 H_22
    have V_24 : Hid (IsN w7 (.slice A7 n7 c7) (q * 10)) := Lib.hid (j7)
    clear b7 j7 L7
    obtain ⟨q9a, q9b, q9c, q9d, q9e, q9f, q9g, q9h, q9i, q9j⟩ := Y_23.out.cells
    obtain ⟨q10a, q10b, q10c, q10d, q10e, q10f, q10g, q10h, q10i, q10j⟩ := L_23.out.cells
    obtain ⟨q11a, q11b, q11c, q11d, q11e, q11f, q11g, q11h, q11i, q11j⟩ := H_23.out.cells
    go_wp2_with fail
    refine at_world ?_
    intro W8 hW8
    clear q9a q9b q9c q9d q9e q9f q9g q9h q9i q9j q10a q10b q10c q10d q10e q10f q10g q10h q10i q10j q11a q11b q11c q11d q11e q11f q11g q11h q11i q11j
    have G_25 : Hid (Below w.heap.size w W8) := Lib.hid (by rw [hW8]; exact (bgrow G_23.out _))
    have Y_25 : Hid (XB W8 w.heap.size false (.slice A1 n1 c1) s1 f1) := Lib.hid (by rw [hW8]; exact (Y_23.out.alloc _))
    have O_25 : Hid (XOk W8 (.slice A1 n1 c1) M s1 f1) := Lib.hid (by rw [hW8]; exact (O_23.out.alloc _))
    have Q_25 : Hid (IsN W8 (.slice A3 n3 c3) q) := Lib.hid (by rw [hW8]; exact (Q_23.out.alloc _))
    have Ol_25 : Hid (XOk W8 (.slice lA ln lc) (q) (k) (k)) := Lib.hid (by rw [hW8]; exact (Ol_23.out.alloc _))
    have L_25 : Hid (XB W8 w4.heap.size false (.slice lA ln lc) (k) (k)) := Lib.hid (by rw [hW8]; exact (L_23.out.alloc _))
    have S_25 : Hid (IsN W8 (.slice A5 n5 c5) (q + 1)) := Lib.hid (by rw [hW8]; exact (S_23.out.alloc _))
    have Oh_25 : Hid (XOk W8 (.slice hA hn hc) (q + 1) (k) (k)) := Lib.hid (by rw [hW8]; exact (Oh_23.out.alloc _))
    have H_25 : Hid (XB W8 w6.heap.size false (.slice hA hn hc) (k) (k)) := Lib.hid (by rw [hW8]; exact (H_23.out.alloc _))
    have V_25 : Hid (IsN W8 (.slice A7 n7 c7) (q * 10)) := Lib.hid (by rw [hW8]; exact (V_24.out.alloc _))
    clear G_23 Y_23 O_23 Q_23 Ol_23 L_23 S_23 Oh_23 H_23 V_24
    have L8 := Lib.hid (show W8.cell? { block := w7.heap.size, off := 0 } = some (.int .u64 ((5 : Nat) : Int)) from by rw [hW8]; simp [go_sem])
    clear hW8
    with_reducible (refine (add_N (.slice A7 n7 c7) (.slice (some { block := w7.heap.size, off := 0 }) 1 1) (q * 10) 5 (eb + 4) W8 V_25.out (lit_N L8.out (by decide) (by decide)) (mul_bits HEB.out.1 (by decide)) (pw4b _) (by have := HEB.out.2; omega)).mono ?_)
    rintro _ w8 ⟨⟨v8, rfl, j8⟩, b8⟩
    obtain ⟨A8, n8, c8, rfl, -⟩ := nlen j8
    have G_26 := Lib.hid (bthen G_25.out b8)
    have Y_26 := Lib.hid (Y_25.out.below b8)
    have O_26 := Lib.hid (O_25.out.below b8)
    have Q_26 := Lib.hid (Q_25.out.below b8)
    have Ol_26 := Lib.hid (Ol_25.out.below b8)
    have L_26 := Lib.hid (L_25.out.below b8)
    have S_26 := Lib.hid (S_25.out.below b8)
    have Oh_26 := Lib.hid (Oh_25.out.below b8)
    have H_26 := Lib.hid (H_25.out.below b8)
    have V_26 := Lib.hid (V_25.out.below b8)
    clear G_25 Y_25 O_25 Q_25 Ol_25 L_25 S_25 Oh_25 H_25 V_25
    have Z_27 : Hid (IsN w8 (.slice A8 n8 c8) (q * 10 + 5)) := Lib.hid (j8)
    clear b8 j8 L8
    obtain ⟨q12a, q12b, q12c, q12d, q12e, q12f, q12g, q12h, q12i, q12j⟩ := Y_26.out.cells
    obtain ⟨q13a, q13b, q13c, q13d, q13e, q13f, q13g, q13h, q13i, q13j⟩ := L_26.out.cells
    obtain ⟨q14a, q14b, q14c, q14d, q14e, q14f, q14g, q14h, q14i, q14j⟩ := H_26.out.cells
    go_wp2_with fail
    refine at_world ?_
    intro W9 hW9
    clear q12a q12b q12c q12d q12e q12f q12g q12h q12i q12j q13a q13b q13c q13d q13e q13f q13g q13h q13i q13j q14a q14b q14c q14d q14e q14f q14g q14h q14i q14j
    have G_28 : Hid (Below w.heap.size w W9) := Lib.hid (by rw [hW9]; exact G_26.out)
    have Y_28 : Hid (XB W9 w.heap.size false (.slice A1 n1 c1) s1 f1) := Lib.hid (by rw [hW9]; exact Y_26.out)
    have O_28 : Hid (XOk W9 (.slice A1 n1 c1) M s1 f1) := Lib.hid (by rw [hW9]; exact O_26.out)
    have Q_28 : Hid (IsN W9 (.slice A3 n3 c3) q) := Lib.hid (by rw [hW9]; exact Q_26.out)
    have Ol_28 : Hid (XOk W9 (.slice lA ln lc) (q) (k) (k)) := Lib.hid (by rw [hW9]; exact Ol_26.out)
    have L_28 : Hid (XB W9 w4.heap.size false (.slice lA ln lc) (k) (k)) := Lib.hid (by rw [hW9]; exact L_26.out)
    have S_28 : Hid (IsN W9 (.slice A5 n5 c5) (q + 1)) := Lib.hid (by rw [hW9]; exact S_26.out)
    have Oh_28 : Hid (XOk W9 (.slice hA hn hc) (q + 1) (k) (k)) := Lib.hid (by rw [hW9]; exact Oh_26.out)
    have H_28 : Hid (XB W9 w6.heap.size false (.slice hA hn hc) (k) (k)) := Lib.hid (by rw [hW9]; exact H_26.out)
    have V_28 : Hid (IsN W9 (.slice A7 n7 c7) (q * 10)) := Lib.hid (by rw [hW9]; exact V_26.out)
    have Z_28 : Hid (IsN W9 (.slice A8 n8 c8) (q * 10 + 5)) := Lib.hid (by rw [hW9]; exact Z_27.out)
    clear G_26 Y_26 O_26 Q_26 Ol_26 L_26 S_26 Oh_26 H_26 V_26 Z_27
    clear hW9
    have Dw9 := Lib.hid (dec_yes (.slice A8 n8 c8) (q * 10 + 5) ((k - 1)) W9 Z_28.out FBO.out.2.2 IK.out.2)
    unfold xv at Dw9
    with_reducible (refine Dw9.out.mono ?_)
    rintro _ w9 ⟨⟨uA, un, uc, rfl, jw9⟩, bw9⟩
    have G_29 := Lib.hid (bthen G_28.out bw9)
    have Y_29 := Lib.hid (Y_28.out.below bw9)
    have O_29 := Lib.hid (O_28.out.below bw9)
    have Q_29 := Lib.hid (Q_28.out.below bw9)
    have Ol_29 := Lib.hid (Ol_28.out.below bw9)
    have L_29 := Lib.hid (L_28.out.below bw9)
    have S_29 := Lib.hid (S_28.out.below bw9)
    have Oh_29 := Lib.hid (Oh_28.out.below bw9)
    have H_29 := Lib.hid (H_28.out.below bw9)
    have V_29 := Lib.hid (V_28.out.below bw9)
    have Z_29 := Lib.hid (Z_28.out.below bw9)
    clear G_28 Y_28 O_28 Q_28 Ol_28 L_28 S_28 Oh_28 H_28 V_28 Z_28
    have Ou_30 : Hid (XOk w9 (.slice uA un uc) (q * 10 + 5) ((k - 1)) ((k - 1))) := Lib.hid (jw9)
    clear bw9 jw9 Dw9
    clear V_29 Z_29 S_29 Q_29
    obtain ⟨h1, h2⟩ := HFT.out
    obtain ⟨hX, hT, hT10⟩ := HXS.out
    obtain ⟨r1, hr1⟩ : ∃ r, cmpN (q * (10 * T)) X = r := ⟨_, rfl⟩
    obtain ⟨r3, hr3⟩ : ∃ r, cmpN X ((q * 10 + 5) * T) = r := ⟨_, rfl⟩
    have hr3r := cmpN_range X ((q * 10 + 5) * T)
    rw [hr3] at hr3r
    rw [hr1, hr3] at h2
    have y1 : xcmp q k k M s1 f1 = r1 := by unfold xcmp; rw [vx_ten, hT10, hX]; exact hr1
    have y2 : xcmp M s1 f1 (q + 1) k k = -1 := by unfold xcmp; rw [vx_ten, hT10, hX]; exact h1
    have y3 : xcmp M s1 f1 (q * 10 + 5) (k - 1) (k - 1) = r3 := by unfold xcmp; rw [vx_ten, hT, hX]; exact hr3
    have KA := Lib.hid (fun w1 h1 h2 => cmp_X false false (.slice lA ln lc) (.slice A1 n1 c1) k k s1 f1 q M r1 w1 h1 h2 y1)
    have KB := Lib.hid (fun w1 h1 h2 => cmp_X false false (.slice A1 n1 c1) (.slice hA hn hc) s1 f1 k k M (q + 1) (-1) w1 h1 h2 y2)
    have KD := Lib.hid (fun w1 h1 h2 => cmp_X false false (.slice A1 n1 c1) (.slice uA un uc) s1 f1 (k - 1) (k - 1) M (q * 10 + 5) r3 w1 h1 h2 y3)
    unfold xv at KA KB KD
    clear y1 y2 y3 hr1 hr3 h1 hX hT hT10
    rcases h2 with ⟨h2, h3⟩ | ⟨h2, h3⟩
    · subst h2 h3
      clear hr3r
      obtain ⟨q15a, q15b, q15c, q15d, q15e, q15f, q15g, q15h, q15i, q15j⟩ := Y_29.out.cells
      obtain ⟨q16a, q16b, q16c, q16d, q16e, q16f, q16g, q16h, q16i, q16j⟩ := L_29.out.cells
      obtain ⟨q17a, q17b, q17c, q17d, q17e, q17f, q17g, q17h, q17i, q17j⟩ := H_29.out.cells
      go_wp2_with fail
      refine at_world ?_
      intro W10 hW10
      clear q15a q15b q15c q15d q15e q15f q15g q15h q15i q15j q16a q16b q16c q16d q16e q16f q16g q16h q16i q16j q17a q17b q17c q17d q17e q17f q17g q17h q17i q17j
      have G_31 : Hid (Below w.heap.size w W10) := Lib.hid (by rw [hW10]; exact (bgrow G_29.out _))
      have Y_31 : Hid (XB W10 w.heap.size false (.slice A1 n1 c1) s1 f1) := Lib.hid (by rw [hW10]; exact (Y_29.out.alloc _))
      have O_31 : Hid (XOk W10 (.slice A1 n1 c1) M s1 f1) := Lib.hid (by rw [hW10]; exact (O_29.out.alloc _))
      have Ol_31 : Hid (XOk W10 (.slice lA ln lc) (q) (k) (k)) := Lib.hid (by rw [hW10]; exact (Ol_29.out.alloc _))
      have L_31 : Hid (XB W10 w4.heap.size false (.slice lA ln lc) (k) (k)) := Lib.hid (by rw [hW10]; exact (L_29.out.alloc _))
      have Oh_31 : Hid (XOk W10 (.slice hA hn hc) (q + 1) (k) (k)) := Lib.hid (by rw [hW10]; exact (Oh_29.out.alloc _))
      have H_31 : Hid (XB W10 w6.heap.size false (.slice hA hn hc) (k) (k)) := Lib.hid (by rw [hW10]; exact (H_29.out.alloc _))
      have Ou_31 : Hid (XOk W10 (.slice uA un uc) (q * 10 + 5) ((k - 1)) ((k - 1))) := Lib.hid (by rw [hW10]; exact (Ou_30.out.alloc _))
      clear G_29 Y_29 O_29 Ol_29 L_29 Oh_29 H_29 Ou_30
      have U_32 : Hid (XB W10 w9.heap.size false (.slice uA un uc) (k - 1) (k - 1)) := Lib.hid (by rw [hW10]; exact XB.new _ _ _ _ _)
      clear hW10
      with_reducible (refine (KA.out _ Ol_31.out O_31.out).mono ?_)
      rintro _ w10 ⟨rfl, b10⟩
      have G_33 := Lib.hid (bthen G_31.out b10)
      have Y_33 := Lib.hid (Y_31.out.below b10)
      have O_33 := Lib.hid (O_31.out.below b10)
      have Ol_33 := Lib.hid (Ol_31.out.below b10)
      have L_33 := Lib.hid (L_31.out.below b10)
      have Oh_33 := Lib.hid (Oh_31.out.below b10)
      have H_33 := Lib.hid (H_31.out.below b10)
      have Ou_33 := Lib.hid (Ou_31.out.below b10)
      have U_33 := Lib.hid (U_32.out.below b10)
      clear G_31 Y_31 O_31 Ol_31 L_31 Oh_31 H_31 Ou_31 U_32
      clear b10
      obtain ⟨q18a, q18b, q18c, q18d, q18e, q18f, q18g, q18h, q18i, q18j⟩ := Y_33.out.cells
      obtain ⟨q19a, q19b, q19c, q19d, q19e, q19f, q19g, q19h, q19i, q19j⟩ := L_33.out.cells
      obtain ⟨q20a, q20b, q20c, q20d, q20e, q20f, q20g, q20h, q20i, q20j⟩ := H_33.out.cells
      obtain ⟨q21a, q21b, q21c, q21d, q21e, q21f, q21g, q21h, q21i, q21j⟩ := U_33.out.cells
      go_wp2_with fail
      refine at_world ?_
      intro W11 hW11
      clear q18a q18b q18c q18d q18e q18f q18g q18h q18i q18j q19a q19b q19c q19d q19e q19f q19g q19h q19i q19j q20a q20b q20c q20d q20e q20f q20g q20h q20i q20j q21a q21b q21c q21d q21e q21f q21g q21h q21i q21j
      have G_34 : Hid (Below w.heap.size w W11) := Lib.hid (by rw [hW11]; exact G_33.out)
      have Y_34 : Hid (XB W11 w.heap.size false (.slice A1 n1 c1) s1 f1) := Lib.hid (by rw [hW11]; exact Y_33.out)
      have O_34 : Hid (XOk W11 (.slice A1 n1 c1) M s1 f1) := Lib.hid (by rw [hW11]; exact O_33.out)
      have Ol_34 : Hid (XOk W11 (.slice lA ln lc) (q) (k) (k)) := Lib.hid (by rw [hW11]; exact Ol_33.out)
      have L_34 : Hid (XB W11 w4.heap.size false (.slice lA ln lc) (k) (k)) := Lib.hid (by rw [hW11]; exact L_33.out)
      have Oh_34 : Hid (XOk W11 (.slice hA hn hc) (q + 1) (k) (k)) := Lib.hid (by rw [hW11]; exact Oh_33.out)
      have H_34 : Hid (XB W11 w6.heap.size false (.slice hA hn hc) (k) (k)) := Lib.hid (by rw [hW11]; exact H_33.out)
      have Ou_34 : Hid (XOk W11 (.slice uA un uc) (q * 10 + 5) ((k - 1)) ((k - 1))) := Lib.hid (by rw [hW11]; exact Ou_33.out)
      have U_34 : Hid (XB W11 w9.heap.size false (.slice uA un uc) (k - 1) (k - 1)) := Lib.hid (by rw [hW11]; exact U_33.out)
      clear G_33 Y_33 O_33 Ol_33 L_33 Oh_33 H_33 Ou_33 U_33
      clear hW11
      with_reducible (refine (KB.out _ O_34.out Oh_34.out).mono ?_)
      rintro _ w11 ⟨rfl, b11⟩
      have G_35 := Lib.hid (bthen G_34.out b11)
      have Y_35 := Lib.hid (Y_34.out.below b11)
      have O_35 := Lib.hid (O_34.out.below b11)
      have Ol_35 := Lib.hid (Ol_34.out.below b11)
      have L_35 := Lib.hid (L_34.out.below b11)
      have Oh_35 := Lib.hid (Oh_34.out.below b11)
      have H_35 := Lib.hid (H_34.out.below b11)
      have Ou_35 := Lib.hid (Ou_34.out.below b11)
      have U_35 := Lib.hid (U_34.out.below b11)
      clear G_34 Y_34 O_34 Ol_34 L_34 Oh_34 H_34 Ou_34 U_34
      clear b11
      obtain ⟨q22a, q22b, q22c, q22d, q22e, q22f, q22g, q22h, q22i, q22j⟩ := Y_35.out.cells
      obtain ⟨q23a, q23b, q23c, q23d, q23e, q23f, q23g, q23h, q23i, q23j⟩ := L_35.out.cells
      obtain ⟨q24a, q24b, q24c, q24d, q24e, q24f, q24g, q24h, q24i, q24j⟩ := H_35.out.cells
      obtain ⟨q25a, q25b, q25c, q25d, q25e, q25f, q25g, q25h, q25i, q25j⟩ := U_35.out.cells
      go_wp2_with fail
      refine at_world ?_
      intro W12 hW12
      clear q22a q22b q22c q22d q22e q22f q22g q22h q22i q22j q23a q23b q23c q23d q23e q23f q23g q23h q23i q23j q24a q24b q24c q24d q24e q24f q24g q24h q24i q24j q25a q25b q25c q25d q25e q25f q25g q25h q25i q25j
      have G_36 : Hid (Below w.heap.size w W12) := Lib.hid (by rw [hW12]; exact G_35.out)
      have Y_36 : Hid (XB W12 w.heap.size false (.slice A1 n1 c1) s1 f1) := Lib.hid (by rw [hW12]; exact Y_35.out)
      have O_36 : Hid (XOk W12 (.slice A1 n1 c1) M s1 f1) := Lib.hid (by rw [hW12]; exact O_35.out)
      have Ol_36 : Hid (XOk W12 (.slice lA ln lc) (q) (k) (k)) := Lib.hid (by rw [hW12]; exact Ol_35.out)
      have L_36 : Hid (XB W12 w4.heap.size false (.slice lA ln lc) (k) (k)) := Lib.hid (by rw [hW12]; exact L_35.out)
      have Oh_36 : Hid (XOk W12 (.slice hA hn hc) (q + 1) (k) (k)) := Lib.hid (by rw [hW12]; exact Oh_35.out)
      have H_36 : Hid (XB W12 w6.heap.size false (.slice hA hn hc) (k) (k)) := Lib.hid (by rw [hW12]; exact H_35.out)
      have Ou_36 : Hid (XOk W12 (.slice uA un uc) (q * 10 + 5) ((k - 1)) ((k - 1))) := Lib.hid (by rw [hW12]; exact Ou_35.out)
      have U_36 : Hid (XB W12 w9.heap.size false (.slice uA un uc) (k - 1) (k - 1)) := Lib.hid (by rw [hW12]; exact U_35.out)
      clear G_35 Y_35 O_35 Ol_35 L_35 Oh_35 H_35 Ou_35 U_35
      clear hW12
      with_reducible (refine (KA.out _ Ol_36.out O_36.out).mono ?_)
      rintro _ w12 ⟨rfl, b12⟩
      have G_37 := Lib.hid (bthen G_36.out b12)
      have Y_37 := Lib.hid (Y_36.out.below b12)
      have O_37 := Lib.hid (O_36.out.below b12)
      have Ol_37 := Lib.hid (Ol_36.out.below b12)
      have L_37 := Lib.hid (L_36.out.below b12)
      have Oh_37 := Lib.hid (Oh_36.out.below b12)
      have H_37 := Lib.hid (H_36.out.below b12)
      have Ou_37 := Lib.hid (Ou_36.out.below b12)
      have U_37 := Lib.hid (U_36.out.below b12)
      clear G_36 Y_36 O_36 Ol_36 L_36 Oh_36 H_36 Ou_36 U_36
      clear b12
      obtain ⟨q26a, q26b, q26c, q26d, q26e, q26f, q26g, q26h, q26i, q26j⟩ := Y_37.out.cells
      obtain ⟨q27a, q27b, q27c, q27d, q27e, q27f, q27g, q27h, q27i, q27j⟩ := L_37.out.cells
      obtain ⟨q28a, q28b, q28c, q28d, q28e, q28f, q28g, q28h, q28i, q28j⟩ := H_37.out.cells
      obtain ⟨q29a, q29b, q29c, q29d, q29e, q29f, q29g, q29h, q29i, q29j⟩ := U_37.out.cells
      go_wp2_with fail
      go_ret
      exact ⟨rfl, G_37.out⟩
    · subst h3
      have z1 : (re == 0) = false := by simp; omega
      have z2 : decide (re < 0) = false := decide_eq_false (by omega)
      have z3 : decide (3 < re) = false := decide_eq_false (by omega)
      have z4 : IntKind.i64.wrap (2 + r3) = re := by rw [IntWalk.i64_in _ (by omega)]; exact h2.symm
      clear h2 hr3r
      obtain ⟨q15a, q15b, q15c, q15d, q15e, q15f, q15g, q15h, q15i, q15j⟩ := Y_29.out.cells
      obtain ⟨q16a, q16b, q16c, q16d, q16e, q16f, q16g, q16h, q16i, q16j⟩ := L_29.out.cells
      obtain ⟨q17a, q17b, q17c, q17d, q17e, q17f, q17g, q17h, q17i, q17j⟩ := H_29.out.cells
      go_wp2_with fail
      refine at_world ?_
      intro W10 hW10
      clear q15a q15b q15c q15d q15e q15f q15g q15h q15i q15j q16a q16b q16c q16d q16e q16f q16g q16h q16i q16j q17a q17b q17c q17d q17e q17f q17g q17h q17i q17j
      have G_31 : Hid (Below w.heap.size w W10) := Lib.hid (by rw [hW10]; exact (bgrow G_29.out _))
      have Y_31 : Hid (XB W10 w.heap.size false (.slice A1 n1 c1) s1 f1) := Lib.hid (by rw [hW10]; exact (Y_29.out.alloc _))
      have O_31 : Hid (XOk W10 (.slice A1 n1 c1) M s1 f1) := Lib.hid (by rw [hW10]; exact (O_29.out.alloc _))
      have Ol_31 : Hid (XOk W10 (.slice lA ln lc) (q) (k) (k)) := Lib.hid (by rw [hW10]; exact (Ol_29.out.alloc _))
      have L_31 : Hid (XB W10 w4.heap.size false (.slice lA ln lc) (k) (k)) := Lib.hid (by rw [hW10]; exact (L_29.out.alloc _))
      have Oh_31 : Hid (XOk W10 (.slice hA hn hc) (q + 1) (k) (k)) := Lib.hid (by rw [hW10]; exact (Oh_29.out.alloc _))
      have H_31 : Hid (XB W10 w6.heap.size false (.slice hA hn hc) (k) (k)) := Lib.hid (by rw [hW10]; exact (H_29.out.alloc _))
      have Ou_31 : Hid (XOk W10 (.slice uA un uc) (q * 10 + 5) ((k - 1)) ((k - 1))) := Lib.hid (by rw [hW10]; exact (Ou_30.out.alloc _))
      clear G_29 Y_29 O_29 Ol_29 L_29 Oh_29 H_29 Ou_30
      have U_32 : Hid (XB W10 w9.heap.size false (.slice uA un uc) (k - 1) (k - 1)) := Lib.hid (by rw [hW10]; exact XB.new _ _ _ _ _)
      clear hW10
      with_reducible (refine (KA.out _ Ol_31.out O_31.out).mono ?_)
      rintro _ w10 ⟨rfl, b10⟩
      have G_33 := Lib.hid (bthen G_31.out b10)
      have Y_33 := Lib.hid (Y_31.out.below b10)
      have O_33 := Lib.hid (O_31.out.below b10)
      have Ol_33 := Lib.hid (Ol_31.out.below b10)
      have L_33 := Lib.hid (L_31.out.below b10)
      have Oh_33 := Lib.hid (Oh_31.out.below b10)
      have H_33 := Lib.hid (H_31.out.below b10)
      have Ou_33 := Lib.hid (Ou_31.out.below b10)
      have U_33 := Lib.hid (U_32.out.below b10)
      clear G_31 Y_31 O_31 Ol_31 L_31 Oh_31 H_31 Ou_31 U_32
      clear b10
      obtain ⟨q18a, q18b, q18c, q18d, q18e, q18f, q18g, q18h, q18i, q18j⟩ := Y_33.out.cells
      obtain ⟨q19a, q19b, q19c, q19d, q19e, q19f, q19g, q19h, q19i, q19j⟩ := L_33.out.cells
      obtain ⟨q20a, q20b, q20c, q20d, q20e, q20f, q20g, q20h, q20i, q20j⟩ := H_33.out.cells
      obtain ⟨q21a, q21b, q21c, q21d, q21e, q21f, q21g, q21h, q21i, q21j⟩ := U_33.out.cells
      go_wp2_with fail
      refine at_world ?_
      intro W11 hW11
      clear q18a q18b q18c q18d q18e q18f q18g q18h q18i q18j q19a q19b q19c q19d q19e q19f q19g q19h q19i q19j q20a q20b q20c q20d q20e q20f q20g q20h q20i q20j q21a q21b q21c q21d q21e q21f q21g q21h q21i q21j
      have G_34 : Hid (Below w.heap.size w W11) := Lib.hid (by rw [hW11]; exact G_33.out)
      have Y_34 : Hid (XB W11 w.heap.size false (.slice A1 n1 c1) s1 f1) := Lib.hid (by rw [hW11]; exact Y_33.out)
      have O_34 : Hid (XOk W11 (.slice A1 n1 c1) M s1 f1) := Lib.hid (by rw [hW11]; exact O_33.out)
      have Ol_34 : Hid (XOk W11 (.slice lA ln lc) (q) (k) (k)) := Lib.hid (by rw [hW11]; exact Ol_33.out)
      have L_34 : Hid (XB W11 w4.heap.size false (.slice lA ln lc) (k) (k)) := Lib.hid (by rw [hW11]; exact L_33.out)
      have Oh_34 : Hid (XOk W11 (.slice hA hn hc) (q + 1) (k) (k)) := Lib.hid (by rw [hW11]; exact Oh_33.out)
      have H_34 : Hid (XB W11 w6.heap.size false (.slice hA hn hc) (k) (k)) := Lib.hid (by rw [hW11]; exact H_33.out)
      have Ou_34 : Hid (XOk W11 (.slice uA un uc) (q * 10 + 5) ((k - 1)) ((k - 1))) := Lib.hid (by rw [hW11]; exact Ou_33.out)
      have U_34 : Hid (XB W11 w9.heap.size false (.slice uA un uc) (k - 1) (k - 1)) := Lib.hid (by rw [hW11]; exact U_33.out)
      clear G_33 Y_33 O_33 Ol_33 L_33 Oh_33 H_33 Ou_33 U_33
      clear hW11
      with_reducible (refine (KB.out _ O_34.out Oh_34.out).mono ?_)
      rintro _ w11 ⟨rfl, b11⟩
      have G_35 := Lib.hid (bthen G_34.out b11)
      have Y_35 := Lib.hid (Y_34.out.below b11)
      have O_35 := Lib.hid (O_34.out.below b11)
      have Ol_35 := Lib.hid (Ol_34.out.below b11)
      have L_35 := Lib.hid (L_34.out.below b11)
      have Oh_35 := Lib.hid (Oh_34.out.below b11)
      have H_35 := Lib.hid (H_34.out.below b11)
      have Ou_35 := Lib.hid (Ou_34.out.below b11)
      have U_35 := Lib.hid (U_34.out.below b11)
      clear G_34 Y_34 O_34 Ol_34 L_34 Oh_34 H_34 Ou_34 U_34
      clear b11
      obtain ⟨q22a, q22b, q22c, q22d, q22e, q22f, q22g, q22h, q22i, q22j⟩ := Y_35.out.cells
      obtain ⟨q23a, q23b, q23c, q23d, q23e, q23f, q23g, q23h, q23i, q23j⟩ := L_35.out.cells
      obtain ⟨q24a, q24b, q24c, q24d, q24e, q24f, q24g, q24h, q24i, q24j⟩ := H_35.out.cells
      obtain ⟨q25a, q25b, q25c, q25d, q25e, q25f, q25g, q25h, q25i, q25j⟩ := U_35.out.cells
      go_wp2_with fail
      refine at_world ?_
      intro W12 hW12
      clear q22a q22b q22c q22d q22e q22f q22g q22h q22i q22j q23a q23b q23c q23d q23e q23f q23g q23h q23i q23j q24a q24b q24c q24d q24e q24f q24g q24h q24i q24j q25a q25b q25c q25d q25e q25f q25g q25h q25i q25j
      have G_36 : Hid (Below w.heap.size w W12) := Lib.hid (by rw [hW12]; exact G_35.out)
      have Y_36 : Hid (XB W12 w.heap.size false (.slice A1 n1 c1) s1 f1) := Lib.hid (by rw [hW12]; exact Y_35.out)
      have O_36 : Hid (XOk W12 (.slice A1 n1 c1) M s1 f1) := Lib.hid (by rw [hW12]; exact O_35.out)
      have Ol_36 : Hid (XOk W12 (.slice lA ln lc) (q) (k) (k)) := Lib.hid (by rw [hW12]; exact Ol_35.out)
      have L_36 : Hid (XB W12 w4.heap.size false (.slice lA ln lc) (k) (k)) := Lib.hid (by rw [hW12]; exact L_35.out)
      have Oh_36 : Hid (XOk W12 (.slice hA hn hc) (q + 1) (k) (k)) := Lib.hid (by rw [hW12]; exact Oh_35.out)
      have H_36 : Hid (XB W12 w6.heap.size false (.slice hA hn hc) (k) (k)) := Lib.hid (by rw [hW12]; exact H_35.out)
      have Ou_36 : Hid (XOk W12 (.slice uA un uc) (q * 10 + 5) ((k - 1)) ((k - 1))) := Lib.hid (by rw [hW12]; exact Ou_35.out)
      have U_36 : Hid (XB W12 w9.heap.size false (.slice uA un uc) (k - 1) (k - 1)) := Lib.hid (by rw [hW12]; exact U_35.out)
      clear G_35 Y_35 O_35 Ol_35 L_35 Oh_35 H_35 Ou_35 U_35
      clear hW12
      with_reducible (refine (KA.out _ Ol_36.out O_36.out).mono ?_)
      rintro _ w12 ⟨rfl, b12⟩
      have G_37 := Lib.hid (bthen G_36.out b12)
      have Y_37 := Lib.hid (Y_36.out.below b12)
      have O_37 := Lib.hid (O_36.out.below b12)
      have Ol_37 := Lib.hid (Ol_36.out.below b12)
      have L_37 := Lib.hid (L_36.out.below b12)
      have Oh_37 := Lib.hid (Oh_36.out.below b12)
      have H_37 := Lib.hid (H_36.out.below b12)
      have Ou_37 := Lib.hid (Ou_36.out.below b12)
      have U_37 := Lib.hid (U_36.out.below b12)
      clear G_36 Y_36 O_36 Ol_36 L_36 Oh_36 H_36 Ou_36 U_36
      clear b12
      obtain ⟨q26a, q26b, q26c, q26d, q26e, q26f, q26g, q26h, q26i, q26j⟩ := Y_37.out.cells
      obtain ⟨q27a, q27b, q27c, q27d, q27e, q27f, q27g, q27h, q27i, q27j⟩ := L_37.out.cells
      obtain ⟨q28a, q28b, q28c, q28d, q28e, q28f, q28g, q28h, q28i, q28j⟩ := H_37.out.cells
      obtain ⟨q29a, q29b, q29c, q29d, q29e, q29f, q29g, q29h, q29i, q29j⟩ := U_37.out.cells
      go_wp2_with fail
      refine at_world ?_
      intro W13 hW13
      clear q26a q26b q26c q26d q26e q26f q26g q26h q26i q26j q27a q27b q27c q27d q27e q27f q27g q27h q27i q27j q28a q28b q28c q28d q28e q28f q28g q28h q28i q28j q29a q29b q29c q29d q29e q29f q29g q29h q29i q29j
      have G_38 : Hid (Below w.heap.size w W13) := Lib.hid (by rw [hW13]; exact G_37.out)
      have Y_38 : Hid (XB W13 w.heap.size false (.slice A1 n1 c1) s1 f1) := Lib.hid (by rw [hW13]; exact Y_37.out)
      have O_38 : Hid (XOk W13 (.slice A1 n1 c1) M s1 f1) := Lib.hid (by rw [hW13]; exact O_37.out)
      have Ol_38 : Hid (XOk W13 (.slice lA ln lc) (q) (k) (k)) := Lib.hid (by rw [hW13]; exact Ol_37.out)
      have L_38 : Hid (XB W13 w4.heap.size false (.slice lA ln lc) (k) (k)) := Lib.hid (by rw [hW13]; exact L_37.out)
      have Oh_38 : Hid (XOk W13 (.slice hA hn hc) (q + 1) (k) (k)) := Lib.hid (by rw [hW13]; exact Oh_37.out)
      have H_38 : Hid (XB W13 w6.heap.size false (.slice hA hn hc) (k) (k)) := Lib.hid (by rw [hW13]; exact H_37.out)
      have Ou_38 : Hid (XOk W13 (.slice uA un uc) (q * 10 + 5) ((k - 1)) ((k - 1))) := Lib.hid (by rw [hW13]; exact Ou_37.out)
      have U_38 : Hid (XB W13 w9.heap.size false (.slice uA un uc) (k - 1) (k - 1)) := Lib.hid (by rw [hW13]; exact U_37.out)
      clear G_37 Y_37 O_37 Ol_37 L_37 Oh_37 H_37 Ou_37 U_37
      clear hW13
      with_reducible (refine (KD.out _ O_38.out Ou_38.out).mono ?_)
      rintro _ w13 ⟨rfl, b13⟩
      have G_39 := Lib.hid (bthen G_38.out b13)
      have Y_39 := Lib.hid (Y_38.out.below b13)
      have O_39 := Lib.hid (O_38.out.below b13)
      have Ol_39 := Lib.hid (Ol_38.out.below b13)
      have L_39 := Lib.hid (L_38.out.below b13)
      have Oh_39 := Lib.hid (Oh_38.out.below b13)
      have H_39 := Lib.hid (H_38.out.below b13)
      have Ou_39 := Lib.hid (Ou_38.out.below b13)
      have U_39 := Lib.hid (U_38.out.below b13)
      clear G_38 Y_38 O_38 Ol_38 L_38 Oh_38 H_38 Ou_38 U_38
      clear b13
      obtain ⟨q30a, q30b, q30c, q30d, q30e, q30f, q30g, q30h, q30i, q30j⟩ := Y_39.out.cells
      obtain ⟨q31a, q31b, q31c, q31d, q31e, q31f, q31g, q31h, q31i, q31j⟩ := L_39.out.cells
      obtain ⟨q32a, q32b, q32c, q32d, q32e, q32f, q32g, q32h, q32i, q32j⟩ := H_39.out.cells
      obtain ⟨q33a, q33b, q33c, q33d, q33e, q33f, q33g, q33h, q33i, q33j⟩ := U_39.out.cells
      go_wp2_with fail
      go_ret
      exact ⟨rfl, G_39.out⟩
end Go.Proofs.Yteiajccjlbghoaa

/- caliperlaw02.ExactTells walked. Conditions: as each theorem names them. -/
import Derived.Test.YteiajccjlbghoaaXlx
import Derived.Test.YteiajccjlbghoaaHlog
set_option linter.unusedVariables false
namespace Go.Proofs.Yteiajccjlbghoaa
open Go.RowKit

theorem lg_ex {M : Nat} {s f : Int} (hs : -6000 ≤ s ∧ s ≤ 6000) (hf : -6000 ≤ f ∧ f ≤ 6000) (hb : bitsN M ≤ 9000) : ∃ k, Lg M s f k := by
  rcases Nat.eq_zero_or_pos M with h0 | hM
  · exact ⟨0, by decide, by decide, Or.inl ⟨h0, rfl⟩⟩
  · have low : ¬ vx M s f < tenx (-9800) := fun h => by
      have := lg_low (k := -9800) hM hs hf (by decide) h
      omega
    obtain ⟨up, a, b⟩ := lg_first hM hs hf hb
    have key : ∀ n : Nat, n ≤ 19500 → vx M s f < tenx (-9800 + (n : Int)) → ∃ k, Lg M s f k := by
      intro n
      induction n with
      | zero => intro _ h; exact absurd h low
      | succ n ih =>
        intro h1 h2
        by_cases h3 : vx M s f < tenx (-9800 + (n : Int))
        · exact ih (by omega) h3
        · refine ⟨-9800 + (n : Int), by omega, by omega, Or.inr ⟨hM, by omega, ?_⟩⟩
          rw [show -9800 + (n : Int) + 1 = -9800 + ((n + 1 : Nat) : Int) by omega]
          exact h2
    refine key (lgTop ((bitsN M : Int) + s + d5 f) + 1 + 9800).toNat (by omega) ?_
    rw [show -9800 + (((lgTop ((bitsN M : Int) + s + d5 f) + 1 + 9800).toNat : Nat) : Int) = lgTop ((bitsN M : Int) + s + d5 f) + 1 by omega]
    exact up
theorem log_K (neg : Bool) (v : Value) (s f : Int) (M : Nat) (k : Int) (w : World) (h : XOk w v M s f) (hs : -6000 ≤ s ∧ s ≤ 6000) (hf : -6000 ≤ f ∧ f ≤ 6000) (hb : bitsN M ≤ 9000) (hk : Lg M s f k) :
    Calls Try.prog 19 #[xv neg v s f] w fun e w' => e = .returned (.int .i64 k) ∧ Below w.heap.size w w' := by
  refine (log_X neg v s f M w h hs hf hb).mono ?_
  rintro e w' ⟨⟨j, rfl, hj⟩, hb⟩
  rw [hj.uniq hk rfl Iff.rfl]
  exact ⟨rfl, hb⟩
theorem rlog_K (neg : Bool) (v : Value) (s f : Int) (M : Nat) (k : Int) (w : World) (h : XOk w v M s f) (hs : -6000 ≤ s ∧ s ≤ 6000) (hf : -6000 ≤ f ∧ f ≤ 6000) (hb : bitsN M ≤ 9000) (hk : Lg M s f k) :
    Calls Try.prog 20 #[xv neg v s f] w fun e w' => e = .returned (.int .i64 k) ∧ Below w.heap.size w w' := by
  refine (rlog_X neg v s f M w h.isn hs hf hb).mono ?_
  rintro e w' ⟨⟨j, rfl, hj⟩, hb⟩
  rw [hj.uniq hk rfl Iff.rfl]
  exact ⟨rfl, hb⟩
set_option maxRecDepth 100000 in
set_option maxHeartbeats 40000000 in
theorem walk_ExactTells (na : Bool) (A : Option Addr) (n c : Nat) (F : Nat → Nat) (s f : Int) (nb : Bool) (B : Option Addr) (m d : Nat) (G : Nat → Nat) (t g : Int) (k0 : Int) (w : World) (hA : RdW w A n c F) (hB : RdW w B m d G) (wk : (Lit.int .i64 k0).wf = true) :
    Calls Try.prog 3 #[xv na (.slice A n c) s f, xv nb (.slice B m d) t g, .int .i64 k0] w fun e w' => e = .returned (.bool true) ∧ Below w.heap.size w w' := by
  clear wk
  have HA := Lib.hid hA
  have HB := Lib.hid hB
  have SX := Lib.hid (small_sm A n c F s f 150 w hA)
  have CX := Lib.hid (fun w' h => small_X na A n c F s f 150 w' h (by decide))
  obtain ⟨L, hL⟩ : ∃ L, S F (min n 12) = L := ⟨_, rfl⟩
  obtain ⟨s1, hs1⟩ : ∃ x, s.tmod ((150 + 1 : Nat) : Int) = x := ⟨_, rfl⟩
  obtain ⟨f1, hf1⟩ : ∃ x, f.tmod ((150 + 1 : Nat) : Int) = x := ⟨_, rfl⟩
  rw [hL, hs1, hf1] at SX
  rw [hL, hs1, hf1] at CX
  unfold xv at CX
  clear hL hs1 hf1 hA
  have SY := Lib.hid (small_sm B m d G t g 150 w hB)
  have CY := Lib.hid (fun w' h => small_X nb B m d G t g 150 w' h (by decide))
  obtain ⟨M, hM⟩ : ∃ M, S G (min m 12) = M := ⟨_, rfl⟩
  obtain ⟨t1, ht1⟩ : ∃ x, t.tmod ((150 + 1 : Nat) : Int) = x := ⟨_, rfl⟩
  obtain ⟨g1, hg1⟩ : ∃ x, g.tmod ((150 + 1 : Nat) : Int) = x := ⟨_, rfl⟩
  rw [hM, ht1, hg1] at SY
  rw [hM, ht1, hg1] at CY
  unfold xv at CY
  clear hM ht1 hg1 hB
  obtain ⟨k, hk⟩ : ∃ k, k0.tmod 151 = k := ⟨_, rfl⟩
  have rk : -150 ≤ k ∧ k ≤ 150 := by rw [← hk]; exact tmod_range k0 150
  have wk1 : IntKind.i64.wrap k = k := IntWalk.i64_in _ (by omega)
  have RG := Lib.hid rk
  clear rk
  obtain ⟨X, hX⟩ : ∃ X, vx L s1 f1 / tenx k = X := ⟨_, rfl⟩
  obtain ⟨T, hT⟩ : ∃ T, restN (vx L s1 f1) (tenx k) = T := ⟨_, rfl⟩
  obtain ⟨K, hK⟩ : ∃ K, Lg L s1 f1 K := lg_ex ⟨by have := SX.out.s1; omega, by have := SX.out.s2; omega⟩ ⟨by have := SX.out.f1; omega, by have := SX.out.f2; omega⟩ (Nat.le_trans SX.out.bits (by decide))
  have HK := Lib.hid hK
  obtain ⟨r, hr⟩ : ∃ r, xcmp L s1 f1 M t1 g1 = r := ⟨_, rfl⟩
  have F1 := Lib.hid (fun v w' (h : XOk w' v L s1 f1) => floor_X na v s1 f1 k L w' h (by have := RG.out; omega))
  have F2 := Lib.hid (fun v w' (h : XOk w' v L s1 f1) => rfloor_X na v s1 f1 k L w' h.isn (Nat.le_trans SX.out.bits (by decide)) ⟨by have := SX.out.s1; omega, by have := SX.out.s2; omega⟩ ⟨by have := SX.out.f1; omega, by have := SX.out.f2; omega⟩ (by have := RG.out; omega))
  rw [hX, hT] at F1 F2
  obtain ⟨eb, heb, heb2⟩ := floor_bits L s1 f1 k ⟨by have := SX.out.s1; omega, by have := SX.out.s2; omega⟩ ⟨by have := SX.out.f1; omega, by have := SX.out.f2; omega⟩ (by have := RG.out; omega) (Nat.le_trans SX.out.bits (by decide))
  rw [hX] at heb
  have K1 := Lib.hid (fun u v w' hu hv => cmp_X na nb u v s1 f1 t1 g1 L M r w' hu hv hr)
  have K2 := Lib.hid (fun u v w' (hu : XOk w' u L s1 f1) (hv : XOk w' v M t1 g1) => rcmp_X na nb u v s1 f1 t1 g1 L M r w' hu.isn hv.isn (Nat.le_trans SX.out.bits (by decide)) (Nat.le_trans SY.out.bits (by decide)) ⟨by have := SX.out.s1; omega, by have := SX.out.s2; omega⟩ ⟨by have := SX.out.f1; omega, by have := SX.out.f2; omega⟩ ⟨by have := SY.out.s1; omega, by have := SY.out.s2; omega⟩ ⟨by have := SY.out.f1; omega, by have := SY.out.f2; omega⟩ hr)
  have K3 := Lib.hid (fun u w' hu => halves_N u X eb w' hu heb (by omega))
  have K4 := Lib.hid (fun u v w' hu hv => same_H u v X X eb true w' hu hv heb (by omega) (decide_eq_true rfl))
  have K5 := Lib.hid (fun v w' h => log_K na v s1 f1 L K w' h ⟨by have := SX.out.s1; omega, by have := SX.out.s2; omega⟩ ⟨by have := SX.out.f1; omega, by have := SX.out.f2; omega⟩ (Nat.le_trans SX.out.bits (by decide)) HK.out)
  have K6 := Lib.hid (fun v w' h => rlog_K na v s1 f1 L K w' h ⟨by have := SX.out.s1; omega, by have := SX.out.s2; omega⟩ ⟨by have := SX.out.f1; omega, by have := SX.out.f2; omega⟩ (Nat.le_trans SX.out.bits (by decide)) HK.out)
  clear hX hT hK hr heb heb2
  unfold xv
  unfold xv at F1 F2 K1 K2 K5 K6
  go_enter Try.func3, Try.ntmps3
  go_wp2_with fail
  refine at_world ?_
  intro W1 hW1
  have G_1 : Hid (Below w.heap.size w W1) := Lib.hid (by rw [hW1]; exact bgrow (bgrow (Below.refl _ _) _) _)
  have X_2 : Hid (XB W1 w.heap.size na (.slice A n c) s f) := Lib.hid (by rw [hW1]; exact (XB.new w _ _ _ _).alloc _)
  have Y_3 : Hid (XB W1 (w.heap.size + 1) nb (.slice B m d) t g) := Lib.hid (by rw [hW1]; have hh := XB.new (w.alloc (.cells #[.bool na, .slice A n c, .int .i64 s, .int .i64 f] 25)) nb (.slice B m d) t g; simpa using hh)
  have R_4 : Hid (RdW W1 A n c F) := Lib.hid (HA.out.below G_1.out)
  have S_5 : Hid (RdW W1 B m d G) := Lib.hid (HB.out.below G_1.out)
  clear hW1
  clear HA HB
  have C1 := Lib.hid (shown_true W1)
  with_reducible (refine C1.out.mono ?_)
  rintro e w1 ⟨rfl, b1⟩
  have G_6 := Lib.hid (bthen G_1.out b1)
  have X_6 := Lib.hid (X_2.out.below b1)
  have Y_6 := Lib.hid (Y_3.out.below b1)
  have R_6 := Lib.hid (R_4.out.below b1)
  have S_6 := Lib.hid (S_5.out.below b1)
  clear G_1 X_2 Y_3 R_4 S_5
  clear b1 C1
  obtain ⟨q1a, q1b, q1c, q1d, q1e, q1f, q1g, q1h, q1i, q1j⟩ := X_6.out.cells
  obtain ⟨q2a, q2b, q2c, q2d, q2e, q2f, q2g, q2h, q2i, q2j⟩ := Y_6.out.cells
  go_wp2_with fail
  refine at_world ?_
  intro W2 hW2
  clear q1a q1b q1c q1d q1e q1f q1g q1h q1i q1j q2a q2b q2c q2d q2e q2f q2g q2h q2i q2j
  have G_7 : Hid (Below w.heap.size w W2) := Lib.hid (by rw [hW2]; exact G_6.out)
  have X_7 : Hid (XB W2 w.heap.size na (.slice A n c) s f) := Lib.hid (by rw [hW2]; exact X_6.out)
  have Y_7 : Hid (XB W2 (w.heap.size + 1) nb (.slice B m d) t g) := Lib.hid (by rw [hW2]; exact Y_6.out)
  have R_7 : Hid (RdW W2 A n c F) := Lib.hid (by rw [hW2]; exact R_6.out)
  have S_7 : Hid (RdW W2 B m d G) := Lib.hid (by rw [hW2]; exact S_6.out)
  clear G_6 X_6 Y_6 R_6 S_6
  clear hW2
  have D2 := Lib.hid (show Calls Try.prog 12 #[.agg #[.bool na, .slice A n c, .int .i64 s, .int .i64 f], .int .i64 150] W2 _ from CX.out W2 R_7.out)
  with_reducible (refine D2.out.mono ?_)
  rintro _ w2 ⟨⟨A1, n1, c1, rfl, i2⟩, b2⟩
  clear R_7
  have G_8 := Lib.hid (bthen G_7.out b2)
  have X_8 := Lib.hid (X_7.out.below b2)
  have Y_8 := Lib.hid (Y_7.out.below b2)
  have S_8 := Lib.hid (S_7.out.below b2)
  clear G_7 X_7 Y_7 S_7
  have OX_9 : Hid (XOk w2 (.slice A1 n1 c1) L s1 f1) := Lib.hid (SX.out.ok (by decide) i2)
  clear b2 D2 i2 CX
  obtain ⟨q3a, q3b, q3c, q3d, q3e, q3f, q3g, q3h, q3i, q3j⟩ := X_8.out.cells
  obtain ⟨q4a, q4b, q4c, q4d, q4e, q4f, q4g, q4h, q4i, q4j⟩ := Y_8.out.cells
  go_wp2_with fail
  refine at_world ?_
  intro W3 hW3
  clear q3a q3b q3c q3d q3e q3f q3g q3h q3i q3j q4a q4b q4c q4d q4e q4f q4g q4h q4i q4j
  have G_10 : Hid (Below w.heap.size w W3) := Lib.hid (by rw [hW3]; exact (below_set4 G_8.out (by first | omega | simp) _ _ _ _))
  have X_10 : Hid (XB W3 w.heap.size na (.slice A1 n1 c1) s1 f1) := Lib.hid (by rw [hW3]; exact (X_8.out.set4 na (.slice A1 n1 c1) s1 f1))
  have Y_10 : Hid (XB W3 (w.heap.size + 1) nb (.slice B m d) t g) := Lib.hid (by rw [hW3]; exact (Y_8.out.far4 (by first | omega | simp | (simp; omega)) _ _ _ _))
  have S_10 : Hid (RdW W3 B m d G) := Lib.hid (by rw [hW3]; exact (S_8.out.set4 X_8.out _ _ _ _))
  have OX_10 : Hid (XOk W3 (.slice A1 n1 c1) L s1 f1) := Lib.hid (by rw [hW3]; exact (OX_9.out.set4 X_8.out _ _ _ _))
  clear G_8 X_8 Y_8 S_8 OX_9
  clear hW3
  have D3 := Lib.hid (show Calls Try.prog 12 #[.agg #[.bool nb, .slice B m d, .int .i64 t, .int .i64 g], .int .i64 150] W3 _ from CY.out W3 S_10.out)
  with_reducible (refine D3.out.mono ?_)
  rintro _ w3 ⟨⟨B1, m1, d1, rfl, i3⟩, b3⟩
  clear S_10
  have G_11 := Lib.hid (bthen G_10.out b3)
  have X_11 := Lib.hid (X_10.out.below b3)
  have Y_11 := Lib.hid (Y_10.out.below b3)
  have OX_11 := Lib.hid (OX_10.out.below b3)
  clear G_10 X_10 Y_10 OX_10
  have OY_12 : Hid (XOk w3 (.slice B1 m1 d1) M t1 g1) := Lib.hid (SY.out.ok (by decide) i3)
  clear b3 D3 i3 CY
  obtain ⟨q5a, q5b, q5c, q5d, q5e, q5f, q5g, q5h, q5i, q5j⟩ := X_11.out.cells
  obtain ⟨q6a, q6b, q6c, q6d, q6e, q6f, q6g, q6h, q6i, q6j⟩ := Y_11.out.cells
  go_wp2_with fail
  refine at_world ?_
  intro W4 hW4
  clear q5a q5b q5c q5d q5e q5f q5g q5h q5i q5j q6a q6b q6c q6d q6e q6f q6g q6h q6i q6j
  have G_13 : Hid (Below w.heap.size w W4) := Lib.hid (by rw [hW4]; exact (below_set4 G_11.out (by first | omega | simp) _ _ _ _))
  have X_13 : Hid (XB W4 w.heap.size na (.slice A1 n1 c1) s1 f1) := Lib.hid (by rw [hW4]; exact (X_11.out.far4 (by first | omega | simp | (simp; omega)) _ _ _ _))
  have Y_13 : Hid (XB W4 (w.heap.size + 1) nb (.slice B1 m1 d1) t1 g1) := Lib.hid (by rw [hW4]; exact (Y_11.out.set4 nb (.slice B1 m1 d1) t1 g1))
  have OX_13 : Hid (XOk W4 (.slice A1 n1 c1) L s1 f1) := Lib.hid (by rw [hW4]; exact (OX_11.out.set4 Y_11.out _ _ _ _))
  have OY_13 : Hid (XOk W4 (.slice B1 m1 d1) M t1 g1) := Lib.hid (by rw [hW4]; exact (OY_12.out.set4 Y_11.out _ _ _ _))
  clear G_11 X_11 Y_11 OX_11 OY_12
  clear hW4
  with_reducible (refine (F1.out _ _ OX_13.out).mono ?_)
  rintro _ w4 ⟨⟨A4, n4, c4, rfl, j4⟩, b4⟩
  have G_14 := Lib.hid (bthen G_13.out b4)
  have X_14 := Lib.hid (X_13.out.below b4)
  have Y_14 := Lib.hid (Y_13.out.below b4)
  have OX_14 := Lib.hid (OX_13.out.below b4)
  have OY_14 := Lib.hid (OY_13.out.below b4)
  clear G_13 X_13 Y_13 OX_13 OY_13
  have Q_15 : Hid (IsN w4 (.slice A4 n4 c4) X) := Lib.hid (j4)
  clear b4 j4 F1
  obtain ⟨q7a, q7b, q7c, q7d, q7e, q7f, q7g, q7h, q7i, q7j⟩ := X_14.out.cells
  obtain ⟨q8a, q8b, q8c, q8d, q8e, q8f, q8g, q8h, q8i, q8j⟩ := Y_14.out.cells
  go_wp2_with fail
  refine at_world ?_
  intro W5 hW5
  clear q7a q7b q7c q7d q7e q7f q7g q7h q7i q7j q8a q8b q8c q8d q8e q8f q8g q8h q8i q8j
  have G_16 : Hid (Below w.heap.size w W5) := Lib.hid (by rw [hW5]; exact G_14.out)
  have X_16 : Hid (XB W5 w.heap.size na (.slice A1 n1 c1) s1 f1) := Lib.hid (by rw [hW5]; exact X_14.out)
  have Y_16 : Hid (XB W5 (w.heap.size + 1) nb (.slice B1 m1 d1) t1 g1) := Lib.hid (by rw [hW5]; exact Y_14.out)
  have OX_16 : Hid (XOk W5 (.slice A1 n1 c1) L s1 f1) := Lib.hid (by rw [hW5]; exact OX_14.out)
  have OY_16 : Hid (XOk W5 (.slice B1 m1 d1) M t1 g1) := Lib.hid (by rw [hW5]; exact OY_14.out)
  have Q_16 : Hid (IsN W5 (.slice A4 n4 c4) X) := Lib.hid (by rw [hW5]; exact Q_15.out)
  clear G_14 X_14 Y_14 OX_14 OY_14 Q_15
  clear hW5
  with_reducible (refine (F2.out _ _ OX_16.out).mono ?_)
  rintro _ w5 ⟨⟨A5, n5, c5, rfl, j5⟩, b5⟩
  have G_17 := Lib.hid (bthen G_16.out b5)
  have X_17 := Lib.hid (X_16.out.below b5)
  have Y_17 := Lib.hid (Y_16.out.below b5)
  have OX_17 := Lib.hid (OX_16.out.below b5)
  have OY_17 := Lib.hid (OY_16.out.below b5)
  have Q_17 := Lib.hid (Q_16.out.below b5)
  clear G_16 X_16 Y_16 OX_16 OY_16 Q_16
  have P_18 : Hid (IsN w5 (.slice A5 n5 c5) X) := Lib.hid (j5)
  clear b5 j5 F2
  obtain ⟨q9a, q9b, q9c, q9d, q9e, q9f, q9g, q9h, q9i, q9j⟩ := X_17.out.cells
  obtain ⟨q10a, q10b, q10c, q10d, q10e, q10f, q10g, q10h, q10i, q10j⟩ := Y_17.out.cells
  go_wp2_with fail
  refine at_code ?_
  intro W6 hW6
  clear q9a q9b q9c q9d q9e q9f q9g q9h q9i q9j q10a q10b q10c q10d q10e q10f q10g q10h q10i q10j
  have G_19 : Hid (Below w.heap.size w W6) := Lib.hid (by rw [hW6]; exact G_17.out)
  have X_19 : Hid (XB W6 w.heap.size na (.slice A1 n1 c1) s1 f1) := Lib.hid (by rw [hW6]; exact X_17.out)
  have Y_19 : Hid (XB W6 (w.heap.size + 1) nb (.slice B1 m1 d1) t1 g1) := Lib.hid (by rw [hW6]; exact Y_17.out)
  have OX_19 : Hid (XOk W6 (.slice A1 n1 c1) L s1 f1) := Lib.hid (by rw [hW6]; exact OX_17.out)
  have OY_19 : Hid (XOk W6 (.slice B1 m1 d1) M t1 g1) := Lib.hid (by rw [hW6]; exact OY_17.out)
  have Q_19 : Hid (IsN W6 (.slice A4 n4 c4) X) := Lib.hid (by rw [hW6]; exact Q_17.out)
  have P_19 : Hid (IsN W6 (.slice A5 n5 c5) X) := Lib.hid (by rw [hW6]; exact P_18.out)
  clear G_17 X_17 Y_17 OX_17 OY_17 Q_17 P_18
  clear hW6
  have K1_6 : Hid (∀ w', Hid (Below W6.heap.size W6 w') → Hid (Below W6.heap.size W6 w') ∧ (w'.cell? { block := w.heap.size, off := 0 } = some (.bool na) ∧ w'.cell? { block := w.heap.size, off := 1 } = some (.slice A1 n1 c1) ∧ w'.cell? { block := w.heap.size, off := 2 } = some (.int .i64 s1) ∧ w'.cell? { block := w.heap.size, off := 3 } = some (.int .i64 f1)) ∧ (w'.cell? { block := (w.heap.size + 1), off := 0 } = some (.bool nb) ∧ w'.cell? { block := (w.heap.size + 1), off := 1 } = some (.slice B1 m1 d1) ∧ w'.cell? { block := (w.heap.size + 1), off := 2 } = some (.int .i64 t1) ∧ w'.cell? { block := (w.heap.size + 1), off := 3 } = some (.int .i64 g1))) := Lib.hid (fun w' h => ⟨h, (X_19.out.below h.out).four, (Y_19.out.below h.out).four⟩)
  have KS_6 := Lib.hid (fun w1 w2 (h : Hid (Below W6.heap.size W6 w1)) (b : Below w1.heap.size w1 w2) => K1_6.out w2 (hbthen h b))
  have K0_6 := Lib.hid (K1_6.out _ (Lib.hid (bdrewN (Below.refl _ _) 1)))
  go_region_held3 (fun w' => Hid (Below W6.heap.size W6 w') ∧ (w'.cell? { block := w.heap.size, off := 0 } = some (.bool na) ∧ w'.cell? { block := w.heap.size, off := 1 } = some (.slice A1 n1 c1) ∧ w'.cell? { block := w.heap.size, off := 2 } = some (.int .i64 s1) ∧ w'.cell? { block := w.heap.size, off := 3 } = some (.int .i64 f1)) ∧ (w'.cell? { block := (w.heap.size + 1), off := 0 } = some (.bool nb) ∧ w'.cell? { block := (w.heap.size + 1), off := 1 } = some (.slice B1 m1 d1) ∧ w'.cell? { block := (w.heap.size + 1), off := 2 } = some (.int .i64 t1) ∧ w'.cell? { block := (w.heap.size + 1), off := 3 } = some (.int .i64 g1)))
    (first | assumption | exact K0_6.out | exact KS_6.out _ _ (And.left (by assumption)) (by assumption))
    (first | ((go_at_call 15); (with_reducible (refine Calls.mono (K1.out _ _ _ (OX_19.out.below (Hid.out (And.left (by assumption)))) (OY_19.out.below (Hid.out (And.left (by assumption))))) ?_)); (rintro e wz ⟨rfl, ba⟩))
           | ((go_at_call 16); (with_reducible (refine Calls.mono (K2.out _ _ _ (OX_19.out.below (Hid.out (And.left (by assumption)))) (OY_19.out.below (Hid.out (And.left (by assumption))))) ?_)); (rintro e wz ⟨rfl, ba⟩))
           | ((go_at_call 18); (with_reducible (refine Calls.mono (K3.out _ _ (P_19.out.below (Hid.out (And.left (by assumption))))) ?_)); (rintro e wz ⟨⟨rh, rfl, hh⟩, ba⟩))
           | ((go_at_call 17); (with_reducible (refine Calls.mono (K4.out _ _ _ (Q_19.out.below (Hid.out (And.left (by assumption)))) (by first | assumption | exact IsH.below (by assumption) (by assumption))) ?_)); (rintro e wz ⟨rfl, ba⟩))
           | ((go_at_call 19); (with_reducible (refine Calls.mono (K5.out _ _ (OX_19.out.below (Hid.out (And.left (by assumption))))) ?_)); (rintro e wz ⟨rfl, ba⟩))
           | ((go_at_call 20); (with_reducible (refine Calls.mono (K6.out _ _ (OX_19.out.below (Hid.out (And.left (by assumption))))) ?_)); (rintro e wz ⟨rfl, ba⟩)))
  all_goals
    rename_i hS6
    have b6 := hS6.1.out
    have G_20 := Lib.hid (bthen G_19.out b6)
    have X_20 := Lib.hid (X_19.out.below b6)
    have Y_20 := Lib.hid (Y_19.out.below b6)
    have OX_20 := Lib.hid (OX_19.out.below b6)
    have OY_20 := Lib.hid (OY_19.out.below b6)
    have Q_20 := Lib.hid (Q_19.out.below b6)
    have P_20 := Lib.hid (P_19.out.below b6)
    clear G_19 X_19 Y_19 OX_19 OY_19 Q_19 P_19
    clear b6 K1_6 KS_6 K0_6
    go_wp2_with fail
    go_ret
    exact ⟨rfl, G_20.out⟩
end Go.Proofs.Yteiajccjlbghoaa

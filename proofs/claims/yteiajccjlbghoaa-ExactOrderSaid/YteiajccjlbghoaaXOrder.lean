/- caliperlaw02.ExactOrder walked. Conditions: as each theorem names them. -/
import Derived.Test.YteiajccjlbghoaaXlw
set_option linter.unusedVariables false
namespace Go.Proofs.Yteiajccjlbghoaa
open Go.RowKit

/-- how two compare, both ways -/
theorem cmpN_both (a b : Nat) : ∃ r t, cmpN a b = r ∧ cmpN b a = t ∧ IntKind.i64.wrap (-t) = r := by
  refine ⟨_, _, rfl, rfl, ?_⟩
  have h := cmpN_range b a
  rw [IntWalk.i64_in _ (by omega), cmpN_neg a b]; omega
theorem cmpI_neg (a b : Int) : cmpI b a = -cmpI a b := by
  rcases cmpI_cases a b with ⟨e, h⟩ | ⟨e, h⟩ | ⟨e, h⟩ <;> rcases cmpI_cases b a with ⟨e2, h2⟩ | ⟨e2, h2⟩ | ⟨e2, h2⟩ <;> rw [e, e2] <;> omega
theorem cmpI_range (a b : Int) : -1 ≤ cmpI a b ∧ cmpI a b ≤ 1 := by
  rcases cmpI_cases a b with ⟨e, h⟩ | ⟨e, h⟩ | ⟨e, h⟩ <;> rw [e] <;> decide
theorem cmpI_both (a b : Int) : ∃ r t, cmpI a b = r ∧ cmpI b a = t ∧ IntKind.i64.wrap (-t) = r := by
  refine ⟨_, _, rfl, rfl, ?_⟩
  have h := cmpI_range b a
  rw [IntWalk.i64_in _ (by omega), cmpI_neg a b]; omega
theorem cmpI_self (a : Int) : cmpI a a = 0 := by unfold cmpI; simp
theorem cmpI_flip (na nb : Bool) (M N : Nat) (s f t g : Int) : cmpI (sx (!na) M s f) (sx (!nb) N t g) = cmpI (sx nb N t g) (sx na M s f) := by
  have e : ∀ (n : Bool) (M : Nat) (s f : Int), sx (!n) M s f = -sx n M s f := by
    intro n M s f; unfold sx; cases n <;> simp
  rw [e, e]
  rcases cmpI_cases (-sx na M s f) (-sx nb N t g) with ⟨e, h⟩ | ⟨e, h⟩ | ⟨e, h⟩ <;> rcases cmpI_cases (sx nb N t g) (sx na M s f) with ⟨e2, h2⟩ | ⟨e2, h2⟩ | ⟨e2, h2⟩ <;> rw [e, e2] <;> omega
theorem cmpN_trans {a b c : Nat} (h1 : cmpN a b ≤ 0) (h2 : cmpN b c ≤ 0) : ¬ 0 < cmpN a c := by
  rcases cmpN_cases3 a b with ⟨e, h⟩ | ⟨e, h⟩ | ⟨e, h⟩ <;> rcases cmpN_cases3 b c with ⟨e2, h3⟩ | ⟨e2, h3⟩ | ⟨e2, h3⟩ <;> rcases cmpN_cases3 a c with ⟨e4, h4⟩ | ⟨e4, h4⟩ | ⟨e4, h4⟩ <;> omega
theorem cmpI_trans {a b c : Int} (h1 : cmpI a b ≤ 0) (h2 : cmpI b c ≤ 0) : ¬ 0 < cmpI a c := by
  rcases cmpI_cases a b with ⟨e, h⟩ | ⟨e, h⟩ | ⟨e, h⟩ <;> rcases cmpI_cases b c with ⟨e2, h3⟩ | ⟨e2, h3⟩ | ⟨e2, h3⟩ <;> rcases cmpI_cases a c with ⟨e4, h4⟩ | ⟨e4, h4⟩ | ⟨e4, h4⟩ <;> omega
set_option maxRecDepth 100000 in
set_option maxHeartbeats 40000000 in
theorem walk_ExactOrder (na : Bool) (A : Option Addr) (n c : Nat) (F : Nat → Nat) (s f : Int) (nb : Bool) (B : Option Addr) (m d : Nat) (G : Nat → Nat) (t g : Int) (nc : Bool) (C : Option Addr) (l e : Nat) (K : Nat → Nat) (u i : Int) (w : World) (hA : RdW w A n c F) (hB : RdW w B m d G) (hC : RdW w C l e K) :
    Calls Try.prog 5 #[xv na (.slice A n c) s f, xv nb (.slice B m d) t g, xv nc (.slice C l e) u i] w fun e w' => e = .returned (.bool true) ∧ Below w.heap.size w w' := by
  have HA := Lib.hid hA
  have HB := Lib.hid hB
  have HC := Lib.hid hC
  have SX := Lib.hid (small_sm A n c F s f 5000 w hA)
  have CX := Lib.hid (fun w' h => small_X na A n c F s f 5000 w' h (by decide))
  obtain ⟨L, hL⟩ : ∃ L, S F (min n 12) = L := ⟨_, rfl⟩
  obtain ⟨s1, hs1⟩ : ∃ x, s.tmod ((5000 + 1 : Nat) : Int) = x := ⟨_, rfl⟩
  obtain ⟨f1, hf1⟩ : ∃ x, f.tmod ((5000 + 1 : Nat) : Int) = x := ⟨_, rfl⟩
  rw [hL, hs1, hf1] at SX
  rw [hL, hs1, hf1] at CX
  unfold xv at CX
  clear hL hs1 hf1 hA
  have SY := Lib.hid (small_sm B m d G t g 5000 w hB)
  have CY := Lib.hid (fun w' h => small_X nb B m d G t g 5000 w' h (by decide))
  obtain ⟨M, hM⟩ : ∃ M, S G (min m 12) = M := ⟨_, rfl⟩
  obtain ⟨t1, ht1⟩ : ∃ x, t.tmod ((5000 + 1 : Nat) : Int) = x := ⟨_, rfl⟩
  obtain ⟨g1, hg1⟩ : ∃ x, g.tmod ((5000 + 1 : Nat) : Int) = x := ⟨_, rfl⟩
  rw [hM, ht1, hg1] at SY
  rw [hM, ht1, hg1] at CY
  unfold xv at CY
  clear hM ht1 hg1 hB
  have SZ := Lib.hid (small_sm C l e K u i 5000 w hC)
  have CZ := Lib.hid (fun w' h => small_X nc C l e K u i 5000 w' h (by decide))
  obtain ⟨N, hN⟩ : ∃ N, S K (min l 12) = N := ⟨_, rfl⟩
  obtain ⟨u1, hu1⟩ : ∃ x, u.tmod ((5000 + 1 : Nat) : Int) = x := ⟨_, rfl⟩
  obtain ⟨i1, hi1⟩ : ∃ x, i.tmod ((5000 + 1 : Nat) : Int) = x := ⟨_, rfl⟩
  rw [hN, hu1, hi1] at SZ
  rw [hN, hu1, hi1] at CZ
  unfold xv at CZ
  clear hN hu1 hi1 hC
  unfold xv
  go_enter Try.func5, Try.ntmps5
  go_wp2_with fail
  refine at_world ?_
  intro W1 hW1
  have G_1 : Hid (Below w.heap.size w W1) := Lib.hid (by rw [hW1]; exact bgrow (bgrow (bgrow (Below.refl _ _) _) _) _)
  have X_2 : Hid (XB W1 w.heap.size na (.slice A n c) s f) := Lib.hid (by rw [hW1]; exact ((XB.new w _ _ _ _).alloc _).alloc _)
  have Y_3 : Hid (XB W1 (w.heap.size + 1) nb (.slice B m d) t g) := Lib.hid (by rw [hW1]; have hh := (XB.new (w.alloc (.cells #[.bool na, .slice A n c, .int .i64 s, .int .i64 f] 25)) nb (.slice B m d) t g).alloc (.cells #[.bool nc, .slice C l e, .int .i64 u, .int .i64 i] 25); simpa using hh)
  have Z_4 : Hid (XB W1 (w.heap.size + 1 + 1) nc (.slice C l e) u i) := Lib.hid (by rw [hW1]; have hh := XB.new ((w.alloc (.cells #[.bool na, .slice A n c, .int .i64 s, .int .i64 f] 25)).alloc (.cells #[.bool nb, .slice B m d, .int .i64 t, .int .i64 g] 25)) nc (.slice C l e) u i; simpa using hh)
  have R_5 : Hid (RdW W1 A n c F) := Lib.hid (HA.out.below G_1.out)
  have S_6 : Hid (RdW W1 B m d G) := Lib.hid (HB.out.below G_1.out)
  have T_7 : Hid (RdW W1 C l e K) := Lib.hid (HC.out.below G_1.out)
  clear hW1
  clear HA HB HC
  have C1 := Lib.hid (shown_true W1)
  with_reducible (refine C1.out.mono ?_)
  rintro e w1 ⟨rfl, b1⟩
  have G_8 := Lib.hid (bthen G_1.out b1)
  have X_8 := Lib.hid (X_2.out.below b1)
  have Y_8 := Lib.hid (Y_3.out.below b1)
  have Z_8 := Lib.hid (Z_4.out.below b1)
  have R_8 := Lib.hid (R_5.out.below b1)
  have S_8 := Lib.hid (S_6.out.below b1)
  have T_8 := Lib.hid (T_7.out.below b1)
  clear G_1 X_2 Y_3 Z_4 R_5 S_6 T_7
  clear b1 C1
  obtain ⟨q1a, q1b, q1c, q1d, q1e, q1f, q1g, q1h, q1i, q1j⟩ := X_8.out.cells
  obtain ⟨q2a, q2b, q2c, q2d, q2e, q2f, q2g, q2h, q2i, q2j⟩ := Y_8.out.cells
  obtain ⟨q3a, q3b, q3c, q3d, q3e, q3f, q3g, q3h, q3i, q3j⟩ := Z_8.out.cells
  go_wp2_with fail
  refine at_world ?_
  intro W2 hW2
  clear q1a q1b q1c q1d q1e q1f q1g q1h q1i q1j q2a q2b q2c q2d q2e q2f q2g q2h q2i q2j q3a q3b q3c q3d q3e q3f q3g q3h q3i q3j
  have G_9 : Hid (Below w.heap.size w W2) := Lib.hid (by rw [hW2]; exact G_8.out)
  have X_9 : Hid (XB W2 w.heap.size na (.slice A n c) s f) := Lib.hid (by rw [hW2]; exact X_8.out)
  have Y_9 : Hid (XB W2 (w.heap.size + 1) nb (.slice B m d) t g) := Lib.hid (by rw [hW2]; exact Y_8.out)
  have Z_9 : Hid (XB W2 (w.heap.size + 1 + 1) nc (.slice C l e) u i) := Lib.hid (by rw [hW2]; exact Z_8.out)
  have R_9 : Hid (RdW W2 A n c F) := Lib.hid (by rw [hW2]; exact R_8.out)
  have S_9 : Hid (RdW W2 B m d G) := Lib.hid (by rw [hW2]; exact S_8.out)
  have T_9 : Hid (RdW W2 C l e K) := Lib.hid (by rw [hW2]; exact T_8.out)
  clear G_8 X_8 Y_8 Z_8 R_8 S_8 T_8
  clear hW2
  have D2 := Lib.hid (show Calls Try.prog 12 #[.agg #[.bool na, .slice A n c, .int .i64 s, .int .i64 f], .int .i64 5000] W2 _ from CX.out W2 R_9.out)
  with_reducible (refine D2.out.mono ?_)
  rintro _ w2 ⟨⟨A1, n1, c1, rfl, i2⟩, b2⟩
  clear R_9
  have G_10 := Lib.hid (bthen G_9.out b2)
  have X_10 := Lib.hid (X_9.out.below b2)
  have Y_10 := Lib.hid (Y_9.out.below b2)
  have Z_10 := Lib.hid (Z_9.out.below b2)
  have S_10 := Lib.hid (S_9.out.below b2)
  have T_10 := Lib.hid (T_9.out.below b2)
  clear G_9 X_9 Y_9 Z_9 S_9 T_9
  have OX_11 : Hid (XOk w2 (.slice A1 n1 c1) L s1 f1) := Lib.hid (SX.out.ok (by decide) i2)
  clear b2 D2 i2 CX
  obtain ⟨q4a, q4b, q4c, q4d, q4e, q4f, q4g, q4h, q4i, q4j⟩ := X_10.out.cells
  obtain ⟨q5a, q5b, q5c, q5d, q5e, q5f, q5g, q5h, q5i, q5j⟩ := Y_10.out.cells
  obtain ⟨q6a, q6b, q6c, q6d, q6e, q6f, q6g, q6h, q6i, q6j⟩ := Z_10.out.cells
  go_wp2_with fail
  refine at_world ?_
  intro W3 hW3
  clear q4a q4b q4c q4d q4e q4f q4g q4h q4i q4j q5a q5b q5c q5d q5e q5f q5g q5h q5i q5j q6a q6b q6c q6d q6e q6f q6g q6h q6i q6j
  have G_12 : Hid (Below w.heap.size w W3) := Lib.hid (by rw [hW3]; exact (below_set4 G_10.out (by first | omega | simp) _ _ _ _))
  have X_12 : Hid (XB W3 w.heap.size na (.slice A1 n1 c1) s1 f1) := Lib.hid (by rw [hW3]; exact (X_10.out.set4 na (.slice A1 n1 c1) s1 f1))
  have Y_12 : Hid (XB W3 (w.heap.size + 1) nb (.slice B m d) t g) := Lib.hid (by rw [hW3]; exact (Y_10.out.far4 (by first | omega | simp | (simp; omega)) _ _ _ _))
  have Z_12 : Hid (XB W3 (w.heap.size + 1 + 1) nc (.slice C l e) u i) := Lib.hid (by rw [hW3]; exact (Z_10.out.far4 (by first | omega | simp | (simp; omega)) _ _ _ _))
  have S_12 : Hid (RdW W3 B m d G) := Lib.hid (by rw [hW3]; exact (S_10.out.set4 X_10.out _ _ _ _))
  have T_12 : Hid (RdW W3 C l e K) := Lib.hid (by rw [hW3]; exact (T_10.out.set4 X_10.out _ _ _ _))
  have OX_12 : Hid (XOk W3 (.slice A1 n1 c1) L s1 f1) := Lib.hid (by rw [hW3]; exact (OX_11.out.set4 X_10.out _ _ _ _))
  clear G_10 X_10 Y_10 Z_10 S_10 T_10 OX_11
  clear hW3
  have D3 := Lib.hid (show Calls Try.prog 12 #[.agg #[.bool nb, .slice B m d, .int .i64 t, .int .i64 g], .int .i64 5000] W3 _ from CY.out W3 S_12.out)
  with_reducible (refine D3.out.mono ?_)
  rintro _ w3 ⟨⟨B1, m1, d1, rfl, i3⟩, b3⟩
  clear S_12
  have G_13 := Lib.hid (bthen G_12.out b3)
  have X_13 := Lib.hid (X_12.out.below b3)
  have Y_13 := Lib.hid (Y_12.out.below b3)
  have Z_13 := Lib.hid (Z_12.out.below b3)
  have T_13 := Lib.hid (T_12.out.below b3)
  have OX_13 := Lib.hid (OX_12.out.below b3)
  clear G_12 X_12 Y_12 Z_12 T_12 OX_12
  have OY_14 : Hid (XOk w3 (.slice B1 m1 d1) M t1 g1) := Lib.hid (SY.out.ok (by decide) i3)
  clear b3 D3 i3 CY
  obtain ⟨q7a, q7b, q7c, q7d, q7e, q7f, q7g, q7h, q7i, q7j⟩ := X_13.out.cells
  obtain ⟨q8a, q8b, q8c, q8d, q8e, q8f, q8g, q8h, q8i, q8j⟩ := Y_13.out.cells
  obtain ⟨q9a, q9b, q9c, q9d, q9e, q9f, q9g, q9h, q9i, q9j⟩ := Z_13.out.cells
  go_wp2_with fail
  refine at_world ?_
  intro W4 hW4
  clear q7a q7b q7c q7d q7e q7f q7g q7h q7i q7j q8a q8b q8c q8d q8e q8f q8g q8h q8i q8j q9a q9b q9c q9d q9e q9f q9g q9h q9i q9j
  have G_15 : Hid (Below w.heap.size w W4) := Lib.hid (by rw [hW4]; exact (below_set4 G_13.out (by first | omega | simp) _ _ _ _))
  have X_15 : Hid (XB W4 w.heap.size na (.slice A1 n1 c1) s1 f1) := Lib.hid (by rw [hW4]; exact (X_13.out.far4 (by first | omega | simp | (simp; omega)) _ _ _ _))
  have Y_15 : Hid (XB W4 (w.heap.size + 1) nb (.slice B1 m1 d1) t1 g1) := Lib.hid (by rw [hW4]; exact (Y_13.out.set4 nb (.slice B1 m1 d1) t1 g1))
  have Z_15 : Hid (XB W4 (w.heap.size + 1 + 1) nc (.slice C l e) u i) := Lib.hid (by rw [hW4]; exact (Z_13.out.far4 (by first | omega | simp | (simp; omega)) _ _ _ _))
  have T_15 : Hid (RdW W4 C l e K) := Lib.hid (by rw [hW4]; exact (T_13.out.set4 Y_13.out _ _ _ _))
  have OX_15 : Hid (XOk W4 (.slice A1 n1 c1) L s1 f1) := Lib.hid (by rw [hW4]; exact (OX_13.out.set4 Y_13.out _ _ _ _))
  have OY_15 : Hid (XOk W4 (.slice B1 m1 d1) M t1 g1) := Lib.hid (by rw [hW4]; exact (OY_14.out.set4 Y_13.out _ _ _ _))
  clear G_13 X_13 Y_13 Z_13 T_13 OX_13 OY_14
  clear hW4
  have D4 := Lib.hid (show Calls Try.prog 12 #[.agg #[.bool nc, .slice C l e, .int .i64 u, .int .i64 i], .int .i64 5000] W4 _ from CZ.out W4 T_15.out)
  with_reducible (refine D4.out.mono ?_)
  rintro _ w4 ⟨⟨C1, l1, e1, rfl, i4⟩, b4⟩
  clear T_15
  have G_16 := Lib.hid (bthen G_15.out b4)
  have X_16 := Lib.hid (X_15.out.below b4)
  have Y_16 := Lib.hid (Y_15.out.below b4)
  have Z_16 := Lib.hid (Z_15.out.below b4)
  have OX_16 := Lib.hid (OX_15.out.below b4)
  have OY_16 := Lib.hid (OY_15.out.below b4)
  clear G_15 X_15 Y_15 Z_15 OX_15 OY_15
  have OZ_17 : Hid (XOk w4 (.slice C1 l1 e1) N u1 i1) := Lib.hid (SZ.out.ok (by decide) i4)
  clear b4 D4 i4 CZ
  clear SX SY SZ
  obtain ⟨xy, yx, hxy, hyx, exy⟩ := cmpN_both (vx L s1 f1) (vx M t1 g1)
  obtain ⟨pq, qp, hpq, hqp, epq⟩ := cmpI_both (sx na L s1 f1) (sx nb M t1 g1)
  obtain ⟨yz, hyz⟩ : ∃ r, cmpN (vx M t1 g1) (vx N u1 i1) = r := ⟨_, rfl⟩
  obtain ⟨xz, hxz⟩ : ∃ r, cmpN (vx L s1 f1) (vx N u1 i1) = r := ⟨_, rfl⟩
  obtain ⟨qr, hqr⟩ : ∃ r, cmpI (sx nb M t1 g1) (sx nc N u1 i1) = r := ⟨_, rfl⟩
  obtain ⟨pr, hpr⟩ : ∃ r, cmpI (sx na L s1 f1) (sx nc N u1 i1) = r := ⟨_, rfl⟩
  have Kxy := Lib.hid (fun w' h1 h2 => cmp_X na nb (.slice A1 n1 c1) (.slice B1 m1 d1) s1 f1 t1 g1 L M xy w' h1 h2 hxy)
  have Kyx := Lib.hid (fun w' h1 h2 => cmp_X nb na (.slice B1 m1 d1) (.slice A1 n1 c1) t1 g1 s1 f1 M L yx w' h1 h2 hyx)
  have Kyz := Lib.hid (fun w' h1 h2 => cmp_X nb nc (.slice B1 m1 d1) (.slice C1 l1 e1) t1 g1 u1 i1 M N yz w' h1 h2 hyz)
  have Kxz := Lib.hid (fun w' h1 h2 => cmp_X na nc (.slice A1 n1 c1) (.slice C1 l1 e1) s1 f1 u1 i1 L N xz w' h1 h2 hxz)
  have Kxx := Lib.hid (fun w' h1 h2 => cmp_X na na (.slice A1 n1 c1) (.slice A1 n1 c1) s1 f1 s1 f1 L L 0 w' h1 h2 (xcmp_self _ _ _))
  have Spq := Lib.hid (fun w' h1 h2 => sgn_X na nb (.slice A1 n1 c1) (.slice B1 m1 d1) s1 f1 t1 g1 L M pq w' h1 h2 hpq)
  have Sqp := Lib.hid (fun w' h1 h2 => sgn_X nb na (.slice B1 m1 d1) (.slice A1 n1 c1) t1 g1 s1 f1 M L qp w' h1 h2 hqp)
  have Sqr := Lib.hid (fun w' h1 h2 => sgn_X nb nc (.slice B1 m1 d1) (.slice C1 l1 e1) t1 g1 u1 i1 M N qr w' h1 h2 hqr)
  have Spr := Lib.hid (fun w' h1 h2 => sgn_X na nc (.slice A1 n1 c1) (.slice C1 l1 e1) s1 f1 u1 i1 L N pr w' h1 h2 hpr)
  have Spp := Lib.hid (fun w' h1 h2 => sgn_X na na (.slice A1 n1 c1) (.slice A1 n1 c1) s1 f1 s1 f1 L L 0 w' h1 h2 (cmpI_self _))
  have Kn := Lib.hid (fun w' h1 h2 => cmp_X (!na) (!nb) (.slice A1 n1 c1) (.slice B1 m1 d1) s1 f1 t1 g1 L M xy w' h1 h2 hxy)
  have Sn := Lib.hid (fun w' h1 h2 => sgn_X (!na) (!nb) (.slice A1 n1 c1) (.slice B1 m1 d1) s1 f1 t1 g1 L M qp w' h1 h2 ((cmpI_flip _ _ _ _ _ _ _ _).trans hqp))
  unfold xv at Kxy Kyx Kyz Kxz Kxx Spq Sqp Sqr Spr Spp Kn Sn
  have H1 := Lib.hid (And.intro hxy (And.intro hyz hxz))
  have H2 := Lib.hid (And.intro hpq (And.intro hqr hpr))
  clear hxy hyx hpq hqp hyz hxz hqr hpr
  obtain ⟨q10a, q10b, q10c, q10d, q10e, q10f, q10g, q10h, q10i, q10j⟩ := X_16.out.cells
  obtain ⟨q11a, q11b, q11c, q11d, q11e, q11f, q11g, q11h, q11i, q11j⟩ := Y_16.out.cells
  obtain ⟨q12a, q12b, q12c, q12d, q12e, q12f, q12g, q12h, q12i, q12j⟩ := Z_16.out.cells
  go_wp2_with fail
  refine at_code ?_
  intro W5 hW5
  clear q10a q10b q10c q10d q10e q10f q10g q10h q10i q10j q11a q11b q11c q11d q11e q11f q11g q11h q11i q11j q12a q12b q12c q12d q12e q12f q12g q12h q12i q12j
  have G_18 : Hid (Below w.heap.size w W5) := Lib.hid (by rw [hW5]; exact (below_set4 G_16.out (by first | omega | simp) _ _ _ _))
  have X_18 : Hid (XB W5 w.heap.size na (.slice A1 n1 c1) s1 f1) := Lib.hid (by rw [hW5]; exact (X_16.out.far4 (by first | omega | simp | (simp; omega)) _ _ _ _))
  have Y_18 : Hid (XB W5 (w.heap.size + 1) nb (.slice B1 m1 d1) t1 g1) := Lib.hid (by rw [hW5]; exact (Y_16.out.far4 (by first | omega | simp | (simp; omega)) _ _ _ _))
  have Z_18 : Hid (XB W5 (w.heap.size + 1 + 1) nc (.slice C1 l1 e1) u1 i1) := Lib.hid (by rw [hW5]; exact (Z_16.out.set4 nc (.slice C1 l1 e1) u1 i1))
  have OX_18 : Hid (XOk W5 (.slice A1 n1 c1) L s1 f1) := Lib.hid (by rw [hW5]; exact (OX_16.out.set4 Z_16.out _ _ _ _))
  have OY_18 : Hid (XOk W5 (.slice B1 m1 d1) M t1 g1) := Lib.hid (by rw [hW5]; exact (OY_16.out.set4 Z_16.out _ _ _ _))
  have OZ_18 : Hid (XOk W5 (.slice C1 l1 e1) N u1 i1) := Lib.hid (by rw [hW5]; exact (OZ_17.out.set4 Z_16.out _ _ _ _))
  clear G_16 X_16 Y_16 Z_16 OX_16 OY_16 OZ_17
  clear hW5
  have K1_5 : Hid (∀ w', Hid (Below W5.heap.size W5 w') → Hid (Below W5.heap.size W5 w') ∧ (w'.cell? { block := w.heap.size, off := 0 } = some (.bool na) ∧ w'.cell? { block := w.heap.size, off := 1 } = some (.slice A1 n1 c1) ∧ w'.cell? { block := w.heap.size, off := 2 } = some (.int .i64 s1) ∧ w'.cell? { block := w.heap.size, off := 3 } = some (.int .i64 f1)) ∧ (w'.cell? { block := (w.heap.size + 1), off := 0 } = some (.bool nb) ∧ w'.cell? { block := (w.heap.size + 1), off := 1 } = some (.slice B1 m1 d1) ∧ w'.cell? { block := (w.heap.size + 1), off := 2 } = some (.int .i64 t1) ∧ w'.cell? { block := (w.heap.size + 1), off := 3 } = some (.int .i64 g1)) ∧ (w'.cell? { block := (w.heap.size + 1 + 1), off := 0 } = some (.bool nc) ∧ w'.cell? { block := (w.heap.size + 1 + 1), off := 1 } = some (.slice C1 l1 e1) ∧ w'.cell? { block := (w.heap.size + 1 + 1), off := 2 } = some (.int .i64 u1) ∧ w'.cell? { block := (w.heap.size + 1 + 1), off := 3 } = some (.int .i64 i1))) := Lib.hid (fun w' h => ⟨h, (X_18.out.below h.out).four, (Y_18.out.below h.out).four, (Z_18.out.below h.out).four⟩)
  have KS_5 := Lib.hid (fun w1 w2 (h : Hid (Below W5.heap.size W5 w1)) (b : Below w1.heap.size w1 w2) => K1_5.out w2 (hbthen h b))
  have K0_5 := Lib.hid (K1_5.out _ (Lib.hid (bdrewN (Below.refl _ _) 1)))
  go_region_held3 (fun w' => Hid (Below W5.heap.size W5 w') ∧ (w'.cell? { block := w.heap.size, off := 0 } = some (.bool na) ∧ w'.cell? { block := w.heap.size, off := 1 } = some (.slice A1 n1 c1) ∧ w'.cell? { block := w.heap.size, off := 2 } = some (.int .i64 s1) ∧ w'.cell? { block := w.heap.size, off := 3 } = some (.int .i64 f1)) ∧ (w'.cell? { block := (w.heap.size + 1), off := 0 } = some (.bool nb) ∧ w'.cell? { block := (w.heap.size + 1), off := 1 } = some (.slice B1 m1 d1) ∧ w'.cell? { block := (w.heap.size + 1), off := 2 } = some (.int .i64 t1) ∧ w'.cell? { block := (w.heap.size + 1), off := 3 } = some (.int .i64 g1)) ∧ (w'.cell? { block := (w.heap.size + 1 + 1), off := 0 } = some (.bool nc) ∧ w'.cell? { block := (w.heap.size + 1 + 1), off := 1 } = some (.slice C1 l1 e1) ∧ w'.cell? { block := (w.heap.size + 1 + 1), off := 2 } = some (.int .i64 u1) ∧ w'.cell? { block := (w.heap.size + 1 + 1), off := 3 } = some (.int .i64 i1)))
    (first | exact K0_5.out | exact KS_5.out _ _ (And.left (by assumption)) (by assumption))
    (first | ((go_at_call 15); (with_reducible (refine Calls.mono (Kxy.out _ (OX_18.out.below (Hid.out (And.left (by assumption)))) (OY_18.out.below (Hid.out (And.left (by assumption))))) ?_)); (rintro e wz ⟨rfl, ba⟩))
           | ((go_at_call 15); (with_reducible (refine Calls.mono (Kyx.out _ (OY_18.out.below (Hid.out (And.left (by assumption)))) (OX_18.out.below (Hid.out (And.left (by assumption))))) ?_)); (rintro e wz ⟨rfl, ba⟩))
           | ((go_at_call 28); (with_reducible (refine Calls.mono (Spq.out _ (OX_18.out.below (Hid.out (And.left (by assumption)))) (OY_18.out.below (Hid.out (And.left (by assumption))))) ?_)); (rintro e wz ⟨rfl, ba⟩))
           | ((go_at_call 28); (with_reducible (refine Calls.mono (Sqp.out _ (OY_18.out.below (Hid.out (And.left (by assumption)))) (OX_18.out.below (Hid.out (And.left (by assumption))))) ?_)); (rintro e wz ⟨rfl, ba⟩))
           | ((go_at_call 15); (with_reducible (refine Calls.mono (Kxx.out _ (OX_18.out.below (Hid.out (And.left (by assumption)))) (OX_18.out.below (Hid.out (And.left (by assumption))))) ?_)); (rintro e wz ⟨rfl, ba⟩))
           | ((go_at_call 28); (with_reducible (refine Calls.mono (Spp.out _ (OX_18.out.below (Hid.out (And.left (by assumption)))) (OX_18.out.below (Hid.out (And.left (by assumption))))) ?_)); (rintro e wz ⟨rfl, ba⟩)))
  rename_i hS5
  have b5 := hS5.1.out
  have G_19 := Lib.hid (bthen G_18.out b5)
  have X_19 := Lib.hid (X_18.out.below b5)
  have Y_19 := Lib.hid (Y_18.out.below b5)
  have Z_19 := Lib.hid (Z_18.out.below b5)
  have OX_19 := Lib.hid (OX_18.out.below b5)
  have OY_19 := Lib.hid (OY_18.out.below b5)
  have OZ_19 := Lib.hid (OZ_18.out.below b5)
  clear G_18 X_18 Y_18 Z_18 OX_18 OY_18 OZ_18
  clear b5 K1_5 KS_5 K0_5
  have DX : (decide (xy ≤ 0) = false) ∨ (decide (xy ≤ 0) = true ∧ decide (yz ≤ 0) = false) ∨ (decide (xy ≤ 0) = true ∧ decide (yz ≤ 0) = true ∧ decide (0 < xz) = false) := by
    obtain ⟨h1, h2, h3⟩ := H1.out
    by_cases a : xy ≤ 0
    · by_cases b : yz ≤ 0
      · exact Or.inr (Or.inr ⟨decide_eq_true a, decide_eq_true b, decide_eq_false (by rw [← h3]; exact cmpN_trans (by rw [h1]; exact a) (by rw [h2]; exact b))⟩)
      · exact Or.inr (Or.inl ⟨decide_eq_true a, decide_eq_false b⟩)
    · exact Or.inl (decide_eq_false a)
  have DP : (decide (pq ≤ 0) = false) ∨ (decide (pq ≤ 0) = true ∧ decide (qr ≤ 0) = false) ∨ (decide (pq ≤ 0) = true ∧ decide (qr ≤ 0) = true ∧ decide (0 < pr) = false) := by
    obtain ⟨h1, h2, h3⟩ := H2.out
    by_cases a : pq ≤ 0
    · by_cases b : qr ≤ 0
      · exact Or.inr (Or.inr ⟨decide_eq_true a, decide_eq_true b, decide_eq_false (by rw [← h3]; exact cmpI_trans (by rw [h1]; exact a) (by rw [h2]; exact b))⟩)
      · exact Or.inr (Or.inl ⟨decide_eq_true a, decide_eq_false b⟩)
    · exact Or.inl (decide_eq_false a)
  rcases DX with dx1 | ⟨dx1, dx2⟩ | ⟨dx1, dx2, dx3⟩ <;> rcases DP with dp1 | ⟨dp1, dp2⟩ | ⟨dp1, dp2, dp3⟩
  · obtain ⟨q13a, q13b, q13c, q13d, q13e, q13f, q13g, q13h, q13i, q13j⟩ := X_19.out.cells
    obtain ⟨q14a, q14b, q14c, q14d, q14e, q14f, q14g, q14h, q14i, q14j⟩ := Y_19.out.cells
    obtain ⟨q15a, q15b, q15c, q15d, q15e, q15f, q15g, q15h, q15i, q15j⟩ := Z_19.out.cells
    go_wp2_with fail
    refine at_world ?_
    intro W10 hW10
    clear q13a q13b q13c q13d q13e q13f q13g q13h q13i q13j q14a q14b q14c q14d q14e q14f q14g q14h q14i q14j q15a q15b q15c q15d q15e q15f q15g q15h q15i q15j
    have G_20 : Hid (Below w.heap.size w W10) := Lib.hid (by rw [hW10]; exact G_19.out)
    have X_20 : Hid (XB W10 w.heap.size na (.slice A1 n1 c1) s1 f1) := Lib.hid (by rw [hW10]; exact X_19.out)
    have Y_20 : Hid (XB W10 (w.heap.size + 1) nb (.slice B1 m1 d1) t1 g1) := Lib.hid (by rw [hW10]; exact Y_19.out)
    have Z_20 : Hid (XB W10 (w.heap.size + 1 + 1) nc (.slice C1 l1 e1) u1 i1) := Lib.hid (by rw [hW10]; exact Z_19.out)
    have OX_20 : Hid (XOk W10 (.slice A1 n1 c1) L s1 f1) := Lib.hid (by rw [hW10]; exact OX_19.out)
    have OY_20 : Hid (XOk W10 (.slice B1 m1 d1) M t1 g1) := Lib.hid (by rw [hW10]; exact OY_19.out)
    have OZ_20 : Hid (XOk W10 (.slice C1 l1 e1) N u1 i1) := Lib.hid (by rw [hW10]; exact OZ_19.out)
    clear G_19 X_19 Y_19 Z_19 OX_19 OY_19 OZ_19
    clear hW10
    with_reducible (refine (Kxy.out _ OX_20.out OY_20.out).mono ?_)
    rintro _ w10 ⟨rfl, b10⟩
    have G_21 := Lib.hid (bthen G_20.out b10)
    have X_21 := Lib.hid (X_20.out.below b10)
    have Y_21 := Lib.hid (Y_20.out.below b10)
    have Z_21 := Lib.hid (Z_20.out.below b10)
    have OX_21 := Lib.hid (OX_20.out.below b10)
    have OY_21 := Lib.hid (OY_20.out.below b10)
    have OZ_21 := Lib.hid (OZ_20.out.below b10)
    clear G_20 X_20 Y_20 Z_20 OX_20 OY_20 OZ_20
    clear b10
    obtain ⟨q16a, q16b, q16c, q16d, q16e, q16f, q16g, q16h, q16i, q16j⟩ := X_21.out.cells
    obtain ⟨q17a, q17b, q17c, q17d, q17e, q17f, q17g, q17h, q17i, q17j⟩ := Y_21.out.cells
    obtain ⟨q18a, q18b, q18c, q18d, q18e, q18f, q18g, q18h, q18i, q18j⟩ := Z_21.out.cells
    go_wp2_with fail
    refine at_world ?_
    intro W11 hW11
    clear q16a q16b q16c q16d q16e q16f q16g q16h q16i q16j q17a q17b q17c q17d q17e q17f q17g q17h q17i q17j q18a q18b q18c q18d q18e q18f q18g q18h q18i q18j
    have G_22 : Hid (Below w.heap.size w W11) := Lib.hid (by rw [hW11]; exact G_21.out)
    have X_22 : Hid (XB W11 w.heap.size na (.slice A1 n1 c1) s1 f1) := Lib.hid (by rw [hW11]; exact X_21.out)
    have Y_22 : Hid (XB W11 (w.heap.size + 1) nb (.slice B1 m1 d1) t1 g1) := Lib.hid (by rw [hW11]; exact Y_21.out)
    have Z_22 : Hid (XB W11 (w.heap.size + 1 + 1) nc (.slice C1 l1 e1) u1 i1) := Lib.hid (by rw [hW11]; exact Z_21.out)
    have OX_22 : Hid (XOk W11 (.slice A1 n1 c1) L s1 f1) := Lib.hid (by rw [hW11]; exact OX_21.out)
    have OY_22 : Hid (XOk W11 (.slice B1 m1 d1) M t1 g1) := Lib.hid (by rw [hW11]; exact OY_21.out)
    have OZ_22 : Hid (XOk W11 (.slice C1 l1 e1) N u1 i1) := Lib.hid (by rw [hW11]; exact OZ_21.out)
    clear G_21 X_21 Y_21 Z_21 OX_21 OY_21 OZ_21
    clear hW11
    with_reducible (refine (Spq.out _ OX_22.out OY_22.out).mono ?_)
    rintro _ w11 ⟨rfl, b11⟩
    have G_23 := Lib.hid (bthen G_22.out b11)
    have X_23 := Lib.hid (X_22.out.below b11)
    have Y_23 := Lib.hid (Y_22.out.below b11)
    have Z_23 := Lib.hid (Z_22.out.below b11)
    have OX_23 := Lib.hid (OX_22.out.below b11)
    have OY_23 := Lib.hid (OY_22.out.below b11)
    have OZ_23 := Lib.hid (OZ_22.out.below b11)
    clear G_22 X_22 Y_22 Z_22 OX_22 OY_22 OZ_22
    clear b11
    obtain ⟨q19a, q19b, q19c, q19d, q19e, q19f, q19g, q19h, q19i, q19j⟩ := X_23.out.cells
    obtain ⟨q20a, q20b, q20c, q20d, q20e, q20f, q20g, q20h, q20i, q20j⟩ := Y_23.out.cells
    obtain ⟨q21a, q21b, q21c, q21d, q21e, q21f, q21g, q21h, q21i, q21j⟩ := Z_23.out.cells
    go_wp2_with fail
    refine at_code ?_
    intro W6 hW6
    clear q19a q19b q19c q19d q19e q19f q19g q19h q19i q19j q20a q20b q20c q20d q20e q20f q20g q20h q20i q20j q21a q21b q21c q21d q21e q21f q21g q21h q21i q21j
    have G_24 : Hid (Below w.heap.size w W6) := Lib.hid (by rw [hW6]; exact (bgrow (bgrow G_23.out _) _))
    have X_24 : Hid (XB W6 w.heap.size na (.slice A1 n1 c1) s1 f1) := Lib.hid (by rw [hW6]; exact ((X_23.out.alloc _).alloc _))
    have Y_24 : Hid (XB W6 (w.heap.size + 1) nb (.slice B1 m1 d1) t1 g1) := Lib.hid (by rw [hW6]; exact ((Y_23.out.alloc _).alloc _))
    have Z_24 : Hid (XB W6 (w.heap.size + 1 + 1) nc (.slice C1 l1 e1) u1 i1) := Lib.hid (by rw [hW6]; exact ((Z_23.out.alloc _).alloc _))
    have OX_24 : Hid (XOk W6 (.slice A1 n1 c1) L s1 f1) := Lib.hid (by rw [hW6]; exact ((OX_23.out.alloc _).alloc _))
    have OY_24 : Hid (XOk W6 (.slice B1 m1 d1) M t1 g1) := Lib.hid (by rw [hW6]; exact ((OY_23.out.alloc _).alloc _))
    have OZ_24 : Hid (XOk W6 (.slice C1 l1 e1) N u1 i1) := Lib.hid (by rw [hW6]; exact ((OZ_23.out.alloc _).alloc _))
    clear G_23 X_23 Y_23 Z_23 OX_23 OY_23 OZ_23
    have P_25 : Hid (XB W6 w11.heap.size (!na) (.slice A1 n1 c1) s1 f1) := Lib.hid (by rw [hW6]; exact (XB.new w11 (!na) (.slice A1 n1 c1) s1 f1).alloc _)
    have Q_26 : Hid (XB W6 (w11.heap.size + 1) (!nb) (.slice B1 m1 d1) t1 g1) := Lib.hid (by rw [hW6]; have hh := XB.new (w11.alloc (.cells #[.bool (!na), (.slice A1 n1 c1), .int .i64 s1, .int .i64 f1] 25)) (!nb) (.slice B1 m1 d1) t1 g1; simpa using hh)
    clear hW6
    have K1_6 : Hid (∀ w', Hid (Below W6.heap.size W6 w') → Hid (Below W6.heap.size W6 w') ∧ (w'.cell? { block := w.heap.size, off := 0 } = some (.bool na) ∧ w'.cell? { block := w.heap.size, off := 1 } = some (.slice A1 n1 c1) ∧ w'.cell? { block := w.heap.size, off := 2 } = some (.int .i64 s1) ∧ w'.cell? { block := w.heap.size, off := 3 } = some (.int .i64 f1)) ∧ (w'.cell? { block := (w.heap.size + 1), off := 0 } = some (.bool nb) ∧ w'.cell? { block := (w.heap.size + 1), off := 1 } = some (.slice B1 m1 d1) ∧ w'.cell? { block := (w.heap.size + 1), off := 2 } = some (.int .i64 t1) ∧ w'.cell? { block := (w.heap.size + 1), off := 3 } = some (.int .i64 g1)) ∧ (w'.cell? { block := w11.heap.size, off := 0 } = some (.bool (!na)) ∧ w'.cell? { block := w11.heap.size, off := 1 } = some (.slice A1 n1 c1) ∧ w'.cell? { block := w11.heap.size, off := 2 } = some (.int .i64 s1) ∧ w'.cell? { block := w11.heap.size, off := 3 } = some (.int .i64 f1)) ∧ (w'.cell? { block := (w11.heap.size + 1), off := 0 } = some (.bool (!nb)) ∧ w'.cell? { block := (w11.heap.size + 1), off := 1 } = some (.slice B1 m1 d1) ∧ w'.cell? { block := (w11.heap.size + 1), off := 2 } = some (.int .i64 t1) ∧ w'.cell? { block := (w11.heap.size + 1), off := 3 } = some (.int .i64 g1))) := Lib.hid (fun w' h => ⟨h, (X_24.out.below h.out).four, (Y_24.out.below h.out).four, (P_25.out.below h.out).four, (Q_26.out.below h.out).four⟩)
    have KS_6 := Lib.hid (fun w1 w2 (h : Hid (Below W6.heap.size W6 w1)) (b : Below w1.heap.size w1 w2) => K1_6.out w2 (hbthen h b))
    have K0_6 := Lib.hid (K1_6.out _ (Lib.hid (bdrewN (Below.refl _ _) 1)))
    go_region_held3 (fun w' => Hid (Below W6.heap.size W6 w') ∧ (w'.cell? { block := w.heap.size, off := 0 } = some (.bool na) ∧ w'.cell? { block := w.heap.size, off := 1 } = some (.slice A1 n1 c1) ∧ w'.cell? { block := w.heap.size, off := 2 } = some (.int .i64 s1) ∧ w'.cell? { block := w.heap.size, off := 3 } = some (.int .i64 f1)) ∧ (w'.cell? { block := (w.heap.size + 1), off := 0 } = some (.bool nb) ∧ w'.cell? { block := (w.heap.size + 1), off := 1 } = some (.slice B1 m1 d1) ∧ w'.cell? { block := (w.heap.size + 1), off := 2 } = some (.int .i64 t1) ∧ w'.cell? { block := (w.heap.size + 1), off := 3 } = some (.int .i64 g1)) ∧ (w'.cell? { block := w11.heap.size, off := 0 } = some (.bool (!na)) ∧ w'.cell? { block := w11.heap.size, off := 1 } = some (.slice A1 n1 c1) ∧ w'.cell? { block := w11.heap.size, off := 2 } = some (.int .i64 s1) ∧ w'.cell? { block := w11.heap.size, off := 3 } = some (.int .i64 f1)) ∧ (w'.cell? { block := (w11.heap.size + 1), off := 0 } = some (.bool (!nb)) ∧ w'.cell? { block := (w11.heap.size + 1), off := 1 } = some (.slice B1 m1 d1) ∧ w'.cell? { block := (w11.heap.size + 1), off := 2 } = some (.int .i64 t1) ∧ w'.cell? { block := (w11.heap.size + 1), off := 3 } = some (.int .i64 g1)))
      (first | exact K0_6.out | exact KS_6.out _ _ (And.left (by assumption)) (by assumption))
      (first | ((go_at_call 28); (with_reducible (refine Calls.mono (Sn.out _ (OX_24.out.below (Hid.out (And.left (by assumption)))) (OY_24.out.below (Hid.out (And.left (by assumption))))) ?_)); (rintro e wz ⟨rfl, ba⟩))
             | ((go_at_call 28); (with_reducible (refine Calls.mono (Sqp.out _ (OY_24.out.below (Hid.out (And.left (by assumption)))) (OX_24.out.below (Hid.out (And.left (by assumption))))) ?_)); (rintro e wz ⟨rfl, ba⟩))
             | ((go_at_call 15); (with_reducible (refine Calls.mono (Kn.out _ (OX_24.out.below (Hid.out (And.left (by assumption)))) (OY_24.out.below (Hid.out (And.left (by assumption))))) ?_)); (rintro e wz ⟨rfl, ba⟩))
             | ((go_at_call 15); (with_reducible (refine Calls.mono (Kxy.out _ (OX_24.out.below (Hid.out (And.left (by assumption)))) (OY_24.out.below (Hid.out (And.left (by assumption))))) ?_)); (rintro e wz ⟨rfl, ba⟩)))
    rename_i hS6
    have b6 := hS6.1.out
    have G_27 := Lib.hid (bthen G_24.out b6)
    have X_27 := Lib.hid (X_24.out.below b6)
    have Y_27 := Lib.hid (Y_24.out.below b6)
    have Z_27 := Lib.hid (Z_24.out.below b6)
    have OX_27 := Lib.hid (OX_24.out.below b6)
    have OY_27 := Lib.hid (OY_24.out.below b6)
    have OZ_27 := Lib.hid (OZ_24.out.below b6)
    have P_27 := Lib.hid (P_25.out.below b6)
    have Q_27 := Lib.hid (Q_26.out.below b6)
    clear G_24 X_24 Y_24 Z_24 OX_24 OY_24 OZ_24 P_25 Q_26
    clear b6 K1_6 KS_6 K0_6
    go_wp2_with fail
    go_ret
    exact ⟨rfl, G_27.out⟩
  · obtain ⟨q13a, q13b, q13c, q13d, q13e, q13f, q13g, q13h, q13i, q13j⟩ := X_19.out.cells
    obtain ⟨q14a, q14b, q14c, q14d, q14e, q14f, q14g, q14h, q14i, q14j⟩ := Y_19.out.cells
    obtain ⟨q15a, q15b, q15c, q15d, q15e, q15f, q15g, q15h, q15i, q15j⟩ := Z_19.out.cells
    go_wp2_with fail
    refine at_world ?_
    intro W10 hW10
    clear q13a q13b q13c q13d q13e q13f q13g q13h q13i q13j q14a q14b q14c q14d q14e q14f q14g q14h q14i q14j q15a q15b q15c q15d q15e q15f q15g q15h q15i q15j
    have G_20 : Hid (Below w.heap.size w W10) := Lib.hid (by rw [hW10]; exact G_19.out)
    have X_20 : Hid (XB W10 w.heap.size na (.slice A1 n1 c1) s1 f1) := Lib.hid (by rw [hW10]; exact X_19.out)
    have Y_20 : Hid (XB W10 (w.heap.size + 1) nb (.slice B1 m1 d1) t1 g1) := Lib.hid (by rw [hW10]; exact Y_19.out)
    have Z_20 : Hid (XB W10 (w.heap.size + 1 + 1) nc (.slice C1 l1 e1) u1 i1) := Lib.hid (by rw [hW10]; exact Z_19.out)
    have OX_20 : Hid (XOk W10 (.slice A1 n1 c1) L s1 f1) := Lib.hid (by rw [hW10]; exact OX_19.out)
    have OY_20 : Hid (XOk W10 (.slice B1 m1 d1) M t1 g1) := Lib.hid (by rw [hW10]; exact OY_19.out)
    have OZ_20 : Hid (XOk W10 (.slice C1 l1 e1) N u1 i1) := Lib.hid (by rw [hW10]; exact OZ_19.out)
    clear G_19 X_19 Y_19 Z_19 OX_19 OY_19 OZ_19
    clear hW10
    with_reducible (refine (Kxy.out _ OX_20.out OY_20.out).mono ?_)
    rintro _ w10 ⟨rfl, b10⟩
    have G_21 := Lib.hid (bthen G_20.out b10)
    have X_21 := Lib.hid (X_20.out.below b10)
    have Y_21 := Lib.hid (Y_20.out.below b10)
    have Z_21 := Lib.hid (Z_20.out.below b10)
    have OX_21 := Lib.hid (OX_20.out.below b10)
    have OY_21 := Lib.hid (OY_20.out.below b10)
    have OZ_21 := Lib.hid (OZ_20.out.below b10)
    clear G_20 X_20 Y_20 Z_20 OX_20 OY_20 OZ_20
    clear b10
    obtain ⟨q16a, q16b, q16c, q16d, q16e, q16f, q16g, q16h, q16i, q16j⟩ := X_21.out.cells
    obtain ⟨q17a, q17b, q17c, q17d, q17e, q17f, q17g, q17h, q17i, q17j⟩ := Y_21.out.cells
    obtain ⟨q18a, q18b, q18c, q18d, q18e, q18f, q18g, q18h, q18i, q18j⟩ := Z_21.out.cells
    go_wp2_with fail
    refine at_world ?_
    intro W11 hW11
    clear q16a q16b q16c q16d q16e q16f q16g q16h q16i q16j q17a q17b q17c q17d q17e q17f q17g q17h q17i q17j q18a q18b q18c q18d q18e q18f q18g q18h q18i q18j
    have G_22 : Hid (Below w.heap.size w W11) := Lib.hid (by rw [hW11]; exact G_21.out)
    have X_22 : Hid (XB W11 w.heap.size na (.slice A1 n1 c1) s1 f1) := Lib.hid (by rw [hW11]; exact X_21.out)
    have Y_22 : Hid (XB W11 (w.heap.size + 1) nb (.slice B1 m1 d1) t1 g1) := Lib.hid (by rw [hW11]; exact Y_21.out)
    have Z_22 : Hid (XB W11 (w.heap.size + 1 + 1) nc (.slice C1 l1 e1) u1 i1) := Lib.hid (by rw [hW11]; exact Z_21.out)
    have OX_22 : Hid (XOk W11 (.slice A1 n1 c1) L s1 f1) := Lib.hid (by rw [hW11]; exact OX_21.out)
    have OY_22 : Hid (XOk W11 (.slice B1 m1 d1) M t1 g1) := Lib.hid (by rw [hW11]; exact OY_21.out)
    have OZ_22 : Hid (XOk W11 (.slice C1 l1 e1) N u1 i1) := Lib.hid (by rw [hW11]; exact OZ_21.out)
    clear G_21 X_21 Y_21 Z_21 OX_21 OY_21 OZ_21
    clear hW11
    with_reducible (refine (Spq.out _ OX_22.out OY_22.out).mono ?_)
    rintro _ w11 ⟨rfl, b11⟩
    have G_23 := Lib.hid (bthen G_22.out b11)
    have X_23 := Lib.hid (X_22.out.below b11)
    have Y_23 := Lib.hid (Y_22.out.below b11)
    have Z_23 := Lib.hid (Z_22.out.below b11)
    have OX_23 := Lib.hid (OX_22.out.below b11)
    have OY_23 := Lib.hid (OY_22.out.below b11)
    have OZ_23 := Lib.hid (OZ_22.out.below b11)
    clear G_22 X_22 Y_22 Z_22 OX_22 OY_22 OZ_22
    clear b11
    obtain ⟨q19a, q19b, q19c, q19d, q19e, q19f, q19g, q19h, q19i, q19j⟩ := X_23.out.cells
    obtain ⟨q20a, q20b, q20c, q20d, q20e, q20f, q20g, q20h, q20i, q20j⟩ := Y_23.out.cells
    obtain ⟨q21a, q21b, q21c, q21d, q21e, q21f, q21g, q21h, q21i, q21j⟩ := Z_23.out.cells
    go_wp2_with fail
    refine at_world ?_
    intro W12 hW12
    clear q19a q19b q19c q19d q19e q19f q19g q19h q19i q19j q20a q20b q20c q20d q20e q20f q20g q20h q20i q20j q21a q21b q21c q21d q21e q21f q21g q21h q21i q21j
    have G_24 : Hid (Below w.heap.size w W12) := Lib.hid (by rw [hW12]; exact G_23.out)
    have X_24 : Hid (XB W12 w.heap.size na (.slice A1 n1 c1) s1 f1) := Lib.hid (by rw [hW12]; exact X_23.out)
    have Y_24 : Hid (XB W12 (w.heap.size + 1) nb (.slice B1 m1 d1) t1 g1) := Lib.hid (by rw [hW12]; exact Y_23.out)
    have Z_24 : Hid (XB W12 (w.heap.size + 1 + 1) nc (.slice C1 l1 e1) u1 i1) := Lib.hid (by rw [hW12]; exact Z_23.out)
    have OX_24 : Hid (XOk W12 (.slice A1 n1 c1) L s1 f1) := Lib.hid (by rw [hW12]; exact OX_23.out)
    have OY_24 : Hid (XOk W12 (.slice B1 m1 d1) M t1 g1) := Lib.hid (by rw [hW12]; exact OY_23.out)
    have OZ_24 : Hid (XOk W12 (.slice C1 l1 e1) N u1 i1) := Lib.hid (by rw [hW12]; exact OZ_23.out)
    clear G_23 X_23 Y_23 Z_23 OX_23 OY_23 OZ_23
    clear hW12
    with_reducible (refine (Sqr.out _ OY_24.out OZ_24.out).mono ?_)
    rintro _ w12 ⟨rfl, b12⟩
    have G_25 := Lib.hid (bthen G_24.out b12)
    have X_25 := Lib.hid (X_24.out.below b12)
    have Y_25 := Lib.hid (Y_24.out.below b12)
    have Z_25 := Lib.hid (Z_24.out.below b12)
    have OX_25 := Lib.hid (OX_24.out.below b12)
    have OY_25 := Lib.hid (OY_24.out.below b12)
    have OZ_25 := Lib.hid (OZ_24.out.below b12)
    clear G_24 X_24 Y_24 Z_24 OX_24 OY_24 OZ_24
    clear b12
    obtain ⟨q22a, q22b, q22c, q22d, q22e, q22f, q22g, q22h, q22i, q22j⟩ := X_25.out.cells
    obtain ⟨q23a, q23b, q23c, q23d, q23e, q23f, q23g, q23h, q23i, q23j⟩ := Y_25.out.cells
    obtain ⟨q24a, q24b, q24c, q24d, q24e, q24f, q24g, q24h, q24i, q24j⟩ := Z_25.out.cells
    go_wp2_with fail
    refine at_code ?_
    intro W6 hW6
    clear q22a q22b q22c q22d q22e q22f q22g q22h q22i q22j q23a q23b q23c q23d q23e q23f q23g q23h q23i q23j q24a q24b q24c q24d q24e q24f q24g q24h q24i q24j
    have G_26 : Hid (Below w.heap.size w W6) := Lib.hid (by rw [hW6]; exact (bgrow (bgrow G_25.out _) _))
    have X_26 : Hid (XB W6 w.heap.size na (.slice A1 n1 c1) s1 f1) := Lib.hid (by rw [hW6]; exact ((X_25.out.alloc _).alloc _))
    have Y_26 : Hid (XB W6 (w.heap.size + 1) nb (.slice B1 m1 d1) t1 g1) := Lib.hid (by rw [hW6]; exact ((Y_25.out.alloc _).alloc _))
    have Z_26 : Hid (XB W6 (w.heap.size + 1 + 1) nc (.slice C1 l1 e1) u1 i1) := Lib.hid (by rw [hW6]; exact ((Z_25.out.alloc _).alloc _))
    have OX_26 : Hid (XOk W6 (.slice A1 n1 c1) L s1 f1) := Lib.hid (by rw [hW6]; exact ((OX_25.out.alloc _).alloc _))
    have OY_26 : Hid (XOk W6 (.slice B1 m1 d1) M t1 g1) := Lib.hid (by rw [hW6]; exact ((OY_25.out.alloc _).alloc _))
    have OZ_26 : Hid (XOk W6 (.slice C1 l1 e1) N u1 i1) := Lib.hid (by rw [hW6]; exact ((OZ_25.out.alloc _).alloc _))
    clear G_25 X_25 Y_25 Z_25 OX_25 OY_25 OZ_25
    have P_27 : Hid (XB W6 w12.heap.size (!na) (.slice A1 n1 c1) s1 f1) := Lib.hid (by rw [hW6]; exact (XB.new w12 (!na) (.slice A1 n1 c1) s1 f1).alloc _)
    have Q_28 : Hid (XB W6 (w12.heap.size + 1) (!nb) (.slice B1 m1 d1) t1 g1) := Lib.hid (by rw [hW6]; have hh := XB.new (w12.alloc (.cells #[.bool (!na), (.slice A1 n1 c1), .int .i64 s1, .int .i64 f1] 25)) (!nb) (.slice B1 m1 d1) t1 g1; simpa using hh)
    clear hW6
    have K1_6 : Hid (∀ w', Hid (Below W6.heap.size W6 w') → Hid (Below W6.heap.size W6 w') ∧ (w'.cell? { block := w.heap.size, off := 0 } = some (.bool na) ∧ w'.cell? { block := w.heap.size, off := 1 } = some (.slice A1 n1 c1) ∧ w'.cell? { block := w.heap.size, off := 2 } = some (.int .i64 s1) ∧ w'.cell? { block := w.heap.size, off := 3 } = some (.int .i64 f1)) ∧ (w'.cell? { block := (w.heap.size + 1), off := 0 } = some (.bool nb) ∧ w'.cell? { block := (w.heap.size + 1), off := 1 } = some (.slice B1 m1 d1) ∧ w'.cell? { block := (w.heap.size + 1), off := 2 } = some (.int .i64 t1) ∧ w'.cell? { block := (w.heap.size + 1), off := 3 } = some (.int .i64 g1)) ∧ (w'.cell? { block := w12.heap.size, off := 0 } = some (.bool (!na)) ∧ w'.cell? { block := w12.heap.size, off := 1 } = some (.slice A1 n1 c1) ∧ w'.cell? { block := w12.heap.size, off := 2 } = some (.int .i64 s1) ∧ w'.cell? { block := w12.heap.size, off := 3 } = some (.int .i64 f1)) ∧ (w'.cell? { block := (w12.heap.size + 1), off := 0 } = some (.bool (!nb)) ∧ w'.cell? { block := (w12.heap.size + 1), off := 1 } = some (.slice B1 m1 d1) ∧ w'.cell? { block := (w12.heap.size + 1), off := 2 } = some (.int .i64 t1) ∧ w'.cell? { block := (w12.heap.size + 1), off := 3 } = some (.int .i64 g1))) := Lib.hid (fun w' h => ⟨h, (X_26.out.below h.out).four, (Y_26.out.below h.out).four, (P_27.out.below h.out).four, (Q_28.out.below h.out).four⟩)
    have KS_6 := Lib.hid (fun w1 w2 (h : Hid (Below W6.heap.size W6 w1)) (b : Below w1.heap.size w1 w2) => K1_6.out w2 (hbthen h b))
    have K0_6 := Lib.hid (K1_6.out _ (Lib.hid (bdrewN (Below.refl _ _) 1)))
    go_region_held3 (fun w' => Hid (Below W6.heap.size W6 w') ∧ (w'.cell? { block := w.heap.size, off := 0 } = some (.bool na) ∧ w'.cell? { block := w.heap.size, off := 1 } = some (.slice A1 n1 c1) ∧ w'.cell? { block := w.heap.size, off := 2 } = some (.int .i64 s1) ∧ w'.cell? { block := w.heap.size, off := 3 } = some (.int .i64 f1)) ∧ (w'.cell? { block := (w.heap.size + 1), off := 0 } = some (.bool nb) ∧ w'.cell? { block := (w.heap.size + 1), off := 1 } = some (.slice B1 m1 d1) ∧ w'.cell? { block := (w.heap.size + 1), off := 2 } = some (.int .i64 t1) ∧ w'.cell? { block := (w.heap.size + 1), off := 3 } = some (.int .i64 g1)) ∧ (w'.cell? { block := w12.heap.size, off := 0 } = some (.bool (!na)) ∧ w'.cell? { block := w12.heap.size, off := 1 } = some (.slice A1 n1 c1) ∧ w'.cell? { block := w12.heap.size, off := 2 } = some (.int .i64 s1) ∧ w'.cell? { block := w12.heap.size, off := 3 } = some (.int .i64 f1)) ∧ (w'.cell? { block := (w12.heap.size + 1), off := 0 } = some (.bool (!nb)) ∧ w'.cell? { block := (w12.heap.size + 1), off := 1 } = some (.slice B1 m1 d1) ∧ w'.cell? { block := (w12.heap.size + 1), off := 2 } = some (.int .i64 t1) ∧ w'.cell? { block := (w12.heap.size + 1), off := 3 } = some (.int .i64 g1)))
      (first | exact K0_6.out | exact KS_6.out _ _ (And.left (by assumption)) (by assumption))
      (first | ((go_at_call 28); (with_reducible (refine Calls.mono (Sn.out _ (OX_26.out.below (Hid.out (And.left (by assumption)))) (OY_26.out.below (Hid.out (And.left (by assumption))))) ?_)); (rintro e wz ⟨rfl, ba⟩))
             | ((go_at_call 28); (with_reducible (refine Calls.mono (Sqp.out _ (OY_26.out.below (Hid.out (And.left (by assumption)))) (OX_26.out.below (Hid.out (And.left (by assumption))))) ?_)); (rintro e wz ⟨rfl, ba⟩))
             | ((go_at_call 15); (with_reducible (refine Calls.mono (Kn.out _ (OX_26.out.below (Hid.out (And.left (by assumption)))) (OY_26.out.below (Hid.out (And.left (by assumption))))) ?_)); (rintro e wz ⟨rfl, ba⟩))
             | ((go_at_call 15); (with_reducible (refine Calls.mono (Kxy.out _ (OX_26.out.below (Hid.out (And.left (by assumption)))) (OY_26.out.below (Hid.out (And.left (by assumption))))) ?_)); (rintro e wz ⟨rfl, ba⟩)))
    rename_i hS6
    have b6 := hS6.1.out
    have G_29 := Lib.hid (bthen G_26.out b6)
    have X_29 := Lib.hid (X_26.out.below b6)
    have Y_29 := Lib.hid (Y_26.out.below b6)
    have Z_29 := Lib.hid (Z_26.out.below b6)
    have OX_29 := Lib.hid (OX_26.out.below b6)
    have OY_29 := Lib.hid (OY_26.out.below b6)
    have OZ_29 := Lib.hid (OZ_26.out.below b6)
    have P_29 := Lib.hid (P_27.out.below b6)
    have Q_29 := Lib.hid (Q_28.out.below b6)
    clear G_26 X_26 Y_26 Z_26 OX_26 OY_26 OZ_26 P_27 Q_28
    clear b6 K1_6 KS_6 K0_6
    go_wp2_with fail
    go_ret
    exact ⟨rfl, G_29.out⟩
  · obtain ⟨q13a, q13b, q13c, q13d, q13e, q13f, q13g, q13h, q13i, q13j⟩ := X_19.out.cells
    obtain ⟨q14a, q14b, q14c, q14d, q14e, q14f, q14g, q14h, q14i, q14j⟩ := Y_19.out.cells
    obtain ⟨q15a, q15b, q15c, q15d, q15e, q15f, q15g, q15h, q15i, q15j⟩ := Z_19.out.cells
    go_wp2_with fail
    refine at_world ?_
    intro W10 hW10
    clear q13a q13b q13c q13d q13e q13f q13g q13h q13i q13j q14a q14b q14c q14d q14e q14f q14g q14h q14i q14j q15a q15b q15c q15d q15e q15f q15g q15h q15i q15j
    have G_20 : Hid (Below w.heap.size w W10) := Lib.hid (by rw [hW10]; exact G_19.out)
    have X_20 : Hid (XB W10 w.heap.size na (.slice A1 n1 c1) s1 f1) := Lib.hid (by rw [hW10]; exact X_19.out)
    have Y_20 : Hid (XB W10 (w.heap.size + 1) nb (.slice B1 m1 d1) t1 g1) := Lib.hid (by rw [hW10]; exact Y_19.out)
    have Z_20 : Hid (XB W10 (w.heap.size + 1 + 1) nc (.slice C1 l1 e1) u1 i1) := Lib.hid (by rw [hW10]; exact Z_19.out)
    have OX_20 : Hid (XOk W10 (.slice A1 n1 c1) L s1 f1) := Lib.hid (by rw [hW10]; exact OX_19.out)
    have OY_20 : Hid (XOk W10 (.slice B1 m1 d1) M t1 g1) := Lib.hid (by rw [hW10]; exact OY_19.out)
    have OZ_20 : Hid (XOk W10 (.slice C1 l1 e1) N u1 i1) := Lib.hid (by rw [hW10]; exact OZ_19.out)
    clear G_19 X_19 Y_19 Z_19 OX_19 OY_19 OZ_19
    clear hW10
    with_reducible (refine (Kxy.out _ OX_20.out OY_20.out).mono ?_)
    rintro _ w10 ⟨rfl, b10⟩
    have G_21 := Lib.hid (bthen G_20.out b10)
    have X_21 := Lib.hid (X_20.out.below b10)
    have Y_21 := Lib.hid (Y_20.out.below b10)
    have Z_21 := Lib.hid (Z_20.out.below b10)
    have OX_21 := Lib.hid (OX_20.out.below b10)
    have OY_21 := Lib.hid (OY_20.out.below b10)
    have OZ_21 := Lib.hid (OZ_20.out.below b10)
    clear G_20 X_20 Y_20 Z_20 OX_20 OY_20 OZ_20
    clear b10
    obtain ⟨q16a, q16b, q16c, q16d, q16e, q16f, q16g, q16h, q16i, q16j⟩ := X_21.out.cells
    obtain ⟨q17a, q17b, q17c, q17d, q17e, q17f, q17g, q17h, q17i, q17j⟩ := Y_21.out.cells
    obtain ⟨q18a, q18b, q18c, q18d, q18e, q18f, q18g, q18h, q18i, q18j⟩ := Z_21.out.cells
    go_wp2_with fail
    refine at_world ?_
    intro W11 hW11
    clear q16a q16b q16c q16d q16e q16f q16g q16h q16i q16j q17a q17b q17c q17d q17e q17f q17g q17h q17i q17j q18a q18b q18c q18d q18e q18f q18g q18h q18i q18j
    have G_22 : Hid (Below w.heap.size w W11) := Lib.hid (by rw [hW11]; exact G_21.out)
    have X_22 : Hid (XB W11 w.heap.size na (.slice A1 n1 c1) s1 f1) := Lib.hid (by rw [hW11]; exact X_21.out)
    have Y_22 : Hid (XB W11 (w.heap.size + 1) nb (.slice B1 m1 d1) t1 g1) := Lib.hid (by rw [hW11]; exact Y_21.out)
    have Z_22 : Hid (XB W11 (w.heap.size + 1 + 1) nc (.slice C1 l1 e1) u1 i1) := Lib.hid (by rw [hW11]; exact Z_21.out)
    have OX_22 : Hid (XOk W11 (.slice A1 n1 c1) L s1 f1) := Lib.hid (by rw [hW11]; exact OX_21.out)
    have OY_22 : Hid (XOk W11 (.slice B1 m1 d1) M t1 g1) := Lib.hid (by rw [hW11]; exact OY_21.out)
    have OZ_22 : Hid (XOk W11 (.slice C1 l1 e1) N u1 i1) := Lib.hid (by rw [hW11]; exact OZ_21.out)
    clear G_21 X_21 Y_21 Z_21 OX_21 OY_21 OZ_21
    clear hW11
    with_reducible (refine (Spq.out _ OX_22.out OY_22.out).mono ?_)
    rintro _ w11 ⟨rfl, b11⟩
    have G_23 := Lib.hid (bthen G_22.out b11)
    have X_23 := Lib.hid (X_22.out.below b11)
    have Y_23 := Lib.hid (Y_22.out.below b11)
    have Z_23 := Lib.hid (Z_22.out.below b11)
    have OX_23 := Lib.hid (OX_22.out.below b11)
    have OY_23 := Lib.hid (OY_22.out.below b11)
    have OZ_23 := Lib.hid (OZ_22.out.below b11)
    clear G_22 X_22 Y_22 Z_22 OX_22 OY_22 OZ_22
    clear b11
    obtain ⟨q19a, q19b, q19c, q19d, q19e, q19f, q19g, q19h, q19i, q19j⟩ := X_23.out.cells
    obtain ⟨q20a, q20b, q20c, q20d, q20e, q20f, q20g, q20h, q20i, q20j⟩ := Y_23.out.cells
    obtain ⟨q21a, q21b, q21c, q21d, q21e, q21f, q21g, q21h, q21i, q21j⟩ := Z_23.out.cells
    go_wp2_with fail
    refine at_world ?_
    intro W12 hW12
    clear q19a q19b q19c q19d q19e q19f q19g q19h q19i q19j q20a q20b q20c q20d q20e q20f q20g q20h q20i q20j q21a q21b q21c q21d q21e q21f q21g q21h q21i q21j
    have G_24 : Hid (Below w.heap.size w W12) := Lib.hid (by rw [hW12]; exact G_23.out)
    have X_24 : Hid (XB W12 w.heap.size na (.slice A1 n1 c1) s1 f1) := Lib.hid (by rw [hW12]; exact X_23.out)
    have Y_24 : Hid (XB W12 (w.heap.size + 1) nb (.slice B1 m1 d1) t1 g1) := Lib.hid (by rw [hW12]; exact Y_23.out)
    have Z_24 : Hid (XB W12 (w.heap.size + 1 + 1) nc (.slice C1 l1 e1) u1 i1) := Lib.hid (by rw [hW12]; exact Z_23.out)
    have OX_24 : Hid (XOk W12 (.slice A1 n1 c1) L s1 f1) := Lib.hid (by rw [hW12]; exact OX_23.out)
    have OY_24 : Hid (XOk W12 (.slice B1 m1 d1) M t1 g1) := Lib.hid (by rw [hW12]; exact OY_23.out)
    have OZ_24 : Hid (XOk W12 (.slice C1 l1 e1) N u1 i1) := Lib.hid (by rw [hW12]; exact OZ_23.out)
    clear G_23 X_23 Y_23 Z_23 OX_23 OY_23 OZ_23
    clear hW12
    with_reducible (refine (Sqr.out _ OY_24.out OZ_24.out).mono ?_)
    rintro _ w12 ⟨rfl, b12⟩
    have G_25 := Lib.hid (bthen G_24.out b12)
    have X_25 := Lib.hid (X_24.out.below b12)
    have Y_25 := Lib.hid (Y_24.out.below b12)
    have Z_25 := Lib.hid (Z_24.out.below b12)
    have OX_25 := Lib.hid (OX_24.out.below b12)
    have OY_25 := Lib.hid (OY_24.out.below b12)
    have OZ_25 := Lib.hid (OZ_24.out.below b12)
    clear G_24 X_24 Y_24 Z_24 OX_24 OY_24 OZ_24
    clear b12
    obtain ⟨q22a, q22b, q22c, q22d, q22e, q22f, q22g, q22h, q22i, q22j⟩ := X_25.out.cells
    obtain ⟨q23a, q23b, q23c, q23d, q23e, q23f, q23g, q23h, q23i, q23j⟩ := Y_25.out.cells
    obtain ⟨q24a, q24b, q24c, q24d, q24e, q24f, q24g, q24h, q24i, q24j⟩ := Z_25.out.cells
    go_wp2_with fail
    refine at_world ?_
    intro W13 hW13
    clear q22a q22b q22c q22d q22e q22f q22g q22h q22i q22j q23a q23b q23c q23d q23e q23f q23g q23h q23i q23j q24a q24b q24c q24d q24e q24f q24g q24h q24i q24j
    have G_26 : Hid (Below w.heap.size w W13) := Lib.hid (by rw [hW13]; exact G_25.out)
    have X_26 : Hid (XB W13 w.heap.size na (.slice A1 n1 c1) s1 f1) := Lib.hid (by rw [hW13]; exact X_25.out)
    have Y_26 : Hid (XB W13 (w.heap.size + 1) nb (.slice B1 m1 d1) t1 g1) := Lib.hid (by rw [hW13]; exact Y_25.out)
    have Z_26 : Hid (XB W13 (w.heap.size + 1 + 1) nc (.slice C1 l1 e1) u1 i1) := Lib.hid (by rw [hW13]; exact Z_25.out)
    have OX_26 : Hid (XOk W13 (.slice A1 n1 c1) L s1 f1) := Lib.hid (by rw [hW13]; exact OX_25.out)
    have OY_26 : Hid (XOk W13 (.slice B1 m1 d1) M t1 g1) := Lib.hid (by rw [hW13]; exact OY_25.out)
    have OZ_26 : Hid (XOk W13 (.slice C1 l1 e1) N u1 i1) := Lib.hid (by rw [hW13]; exact OZ_25.out)
    clear G_25 X_25 Y_25 Z_25 OX_25 OY_25 OZ_25
    clear hW13
    with_reducible (refine (Spr.out _ OX_26.out OZ_26.out).mono ?_)
    rintro _ w13 ⟨rfl, b13⟩
    have G_27 := Lib.hid (bthen G_26.out b13)
    have X_27 := Lib.hid (X_26.out.below b13)
    have Y_27 := Lib.hid (Y_26.out.below b13)
    have Z_27 := Lib.hid (Z_26.out.below b13)
    have OX_27 := Lib.hid (OX_26.out.below b13)
    have OY_27 := Lib.hid (OY_26.out.below b13)
    have OZ_27 := Lib.hid (OZ_26.out.below b13)
    clear G_26 X_26 Y_26 Z_26 OX_26 OY_26 OZ_26
    clear b13
    obtain ⟨q25a, q25b, q25c, q25d, q25e, q25f, q25g, q25h, q25i, q25j⟩ := X_27.out.cells
    obtain ⟨q26a, q26b, q26c, q26d, q26e, q26f, q26g, q26h, q26i, q26j⟩ := Y_27.out.cells
    obtain ⟨q27a, q27b, q27c, q27d, q27e, q27f, q27g, q27h, q27i, q27j⟩ := Z_27.out.cells
    go_wp2_with fail
    refine at_code ?_
    intro W6 hW6
    clear q25a q25b q25c q25d q25e q25f q25g q25h q25i q25j q26a q26b q26c q26d q26e q26f q26g q26h q26i q26j q27a q27b q27c q27d q27e q27f q27g q27h q27i q27j
    have G_28 : Hid (Below w.heap.size w W6) := Lib.hid (by rw [hW6]; exact (bgrow (bgrow G_27.out _) _))
    have X_28 : Hid (XB W6 w.heap.size na (.slice A1 n1 c1) s1 f1) := Lib.hid (by rw [hW6]; exact ((X_27.out.alloc _).alloc _))
    have Y_28 : Hid (XB W6 (w.heap.size + 1) nb (.slice B1 m1 d1) t1 g1) := Lib.hid (by rw [hW6]; exact ((Y_27.out.alloc _).alloc _))
    have Z_28 : Hid (XB W6 (w.heap.size + 1 + 1) nc (.slice C1 l1 e1) u1 i1) := Lib.hid (by rw [hW6]; exact ((Z_27.out.alloc _).alloc _))
    have OX_28 : Hid (XOk W6 (.slice A1 n1 c1) L s1 f1) := Lib.hid (by rw [hW6]; exact ((OX_27.out.alloc _).alloc _))
    have OY_28 : Hid (XOk W6 (.slice B1 m1 d1) M t1 g1) := Lib.hid (by rw [hW6]; exact ((OY_27.out.alloc _).alloc _))
    have OZ_28 : Hid (XOk W6 (.slice C1 l1 e1) N u1 i1) := Lib.hid (by rw [hW6]; exact ((OZ_27.out.alloc _).alloc _))
    clear G_27 X_27 Y_27 Z_27 OX_27 OY_27 OZ_27
    have P_29 : Hid (XB W6 w13.heap.size (!na) (.slice A1 n1 c1) s1 f1) := Lib.hid (by rw [hW6]; exact (XB.new w13 (!na) (.slice A1 n1 c1) s1 f1).alloc _)
    have Q_30 : Hid (XB W6 (w13.heap.size + 1) (!nb) (.slice B1 m1 d1) t1 g1) := Lib.hid (by rw [hW6]; have hh := XB.new (w13.alloc (.cells #[.bool (!na), (.slice A1 n1 c1), .int .i64 s1, .int .i64 f1] 25)) (!nb) (.slice B1 m1 d1) t1 g1; simpa using hh)
    clear hW6
    have K1_6 : Hid (∀ w', Hid (Below W6.heap.size W6 w') → Hid (Below W6.heap.size W6 w') ∧ (w'.cell? { block := w.heap.size, off := 0 } = some (.bool na) ∧ w'.cell? { block := w.heap.size, off := 1 } = some (.slice A1 n1 c1) ∧ w'.cell? { block := w.heap.size, off := 2 } = some (.int .i64 s1) ∧ w'.cell? { block := w.heap.size, off := 3 } = some (.int .i64 f1)) ∧ (w'.cell? { block := (w.heap.size + 1), off := 0 } = some (.bool nb) ∧ w'.cell? { block := (w.heap.size + 1), off := 1 } = some (.slice B1 m1 d1) ∧ w'.cell? { block := (w.heap.size + 1), off := 2 } = some (.int .i64 t1) ∧ w'.cell? { block := (w.heap.size + 1), off := 3 } = some (.int .i64 g1)) ∧ (w'.cell? { block := w13.heap.size, off := 0 } = some (.bool (!na)) ∧ w'.cell? { block := w13.heap.size, off := 1 } = some (.slice A1 n1 c1) ∧ w'.cell? { block := w13.heap.size, off := 2 } = some (.int .i64 s1) ∧ w'.cell? { block := w13.heap.size, off := 3 } = some (.int .i64 f1)) ∧ (w'.cell? { block := (w13.heap.size + 1), off := 0 } = some (.bool (!nb)) ∧ w'.cell? { block := (w13.heap.size + 1), off := 1 } = some (.slice B1 m1 d1) ∧ w'.cell? { block := (w13.heap.size + 1), off := 2 } = some (.int .i64 t1) ∧ w'.cell? { block := (w13.heap.size + 1), off := 3 } = some (.int .i64 g1))) := Lib.hid (fun w' h => ⟨h, (X_28.out.below h.out).four, (Y_28.out.below h.out).four, (P_29.out.below h.out).four, (Q_30.out.below h.out).four⟩)
    have KS_6 := Lib.hid (fun w1 w2 (h : Hid (Below W6.heap.size W6 w1)) (b : Below w1.heap.size w1 w2) => K1_6.out w2 (hbthen h b))
    have K0_6 := Lib.hid (K1_6.out _ (Lib.hid (bdrewN (Below.refl _ _) 1)))
    go_region_held3 (fun w' => Hid (Below W6.heap.size W6 w') ∧ (w'.cell? { block := w.heap.size, off := 0 } = some (.bool na) ∧ w'.cell? { block := w.heap.size, off := 1 } = some (.slice A1 n1 c1) ∧ w'.cell? { block := w.heap.size, off := 2 } = some (.int .i64 s1) ∧ w'.cell? { block := w.heap.size, off := 3 } = some (.int .i64 f1)) ∧ (w'.cell? { block := (w.heap.size + 1), off := 0 } = some (.bool nb) ∧ w'.cell? { block := (w.heap.size + 1), off := 1 } = some (.slice B1 m1 d1) ∧ w'.cell? { block := (w.heap.size + 1), off := 2 } = some (.int .i64 t1) ∧ w'.cell? { block := (w.heap.size + 1), off := 3 } = some (.int .i64 g1)) ∧ (w'.cell? { block := w13.heap.size, off := 0 } = some (.bool (!na)) ∧ w'.cell? { block := w13.heap.size, off := 1 } = some (.slice A1 n1 c1) ∧ w'.cell? { block := w13.heap.size, off := 2 } = some (.int .i64 s1) ∧ w'.cell? { block := w13.heap.size, off := 3 } = some (.int .i64 f1)) ∧ (w'.cell? { block := (w13.heap.size + 1), off := 0 } = some (.bool (!nb)) ∧ w'.cell? { block := (w13.heap.size + 1), off := 1 } = some (.slice B1 m1 d1) ∧ w'.cell? { block := (w13.heap.size + 1), off := 2 } = some (.int .i64 t1) ∧ w'.cell? { block := (w13.heap.size + 1), off := 3 } = some (.int .i64 g1)))
      (first | exact K0_6.out | exact KS_6.out _ _ (And.left (by assumption)) (by assumption))
      (first | ((go_at_call 28); (with_reducible (refine Calls.mono (Sn.out _ (OX_28.out.below (Hid.out (And.left (by assumption)))) (OY_28.out.below (Hid.out (And.left (by assumption))))) ?_)); (rintro e wz ⟨rfl, ba⟩))
             | ((go_at_call 28); (with_reducible (refine Calls.mono (Sqp.out _ (OY_28.out.below (Hid.out (And.left (by assumption)))) (OX_28.out.below (Hid.out (And.left (by assumption))))) ?_)); (rintro e wz ⟨rfl, ba⟩))
             | ((go_at_call 15); (with_reducible (refine Calls.mono (Kn.out _ (OX_28.out.below (Hid.out (And.left (by assumption)))) (OY_28.out.below (Hid.out (And.left (by assumption))))) ?_)); (rintro e wz ⟨rfl, ba⟩))
             | ((go_at_call 15); (with_reducible (refine Calls.mono (Kxy.out _ (OX_28.out.below (Hid.out (And.left (by assumption)))) (OY_28.out.below (Hid.out (And.left (by assumption))))) ?_)); (rintro e wz ⟨rfl, ba⟩)))
    rename_i hS6
    have b6 := hS6.1.out
    have G_31 := Lib.hid (bthen G_28.out b6)
    have X_31 := Lib.hid (X_28.out.below b6)
    have Y_31 := Lib.hid (Y_28.out.below b6)
    have Z_31 := Lib.hid (Z_28.out.below b6)
    have OX_31 := Lib.hid (OX_28.out.below b6)
    have OY_31 := Lib.hid (OY_28.out.below b6)
    have OZ_31 := Lib.hid (OZ_28.out.below b6)
    have P_31 := Lib.hid (P_29.out.below b6)
    have Q_31 := Lib.hid (Q_30.out.below b6)
    clear G_28 X_28 Y_28 Z_28 OX_28 OY_28 OZ_28 P_29 Q_30
    clear b6 K1_6 KS_6 K0_6
    go_wp2_with fail
    go_ret
    exact ⟨rfl, G_31.out⟩
  · obtain ⟨q13a, q13b, q13c, q13d, q13e, q13f, q13g, q13h, q13i, q13j⟩ := X_19.out.cells
    obtain ⟨q14a, q14b, q14c, q14d, q14e, q14f, q14g, q14h, q14i, q14j⟩ := Y_19.out.cells
    obtain ⟨q15a, q15b, q15c, q15d, q15e, q15f, q15g, q15h, q15i, q15j⟩ := Z_19.out.cells
    go_wp2_with fail
    refine at_world ?_
    intro W10 hW10
    clear q13a q13b q13c q13d q13e q13f q13g q13h q13i q13j q14a q14b q14c q14d q14e q14f q14g q14h q14i q14j q15a q15b q15c q15d q15e q15f q15g q15h q15i q15j
    have G_20 : Hid (Below w.heap.size w W10) := Lib.hid (by rw [hW10]; exact G_19.out)
    have X_20 : Hid (XB W10 w.heap.size na (.slice A1 n1 c1) s1 f1) := Lib.hid (by rw [hW10]; exact X_19.out)
    have Y_20 : Hid (XB W10 (w.heap.size + 1) nb (.slice B1 m1 d1) t1 g1) := Lib.hid (by rw [hW10]; exact Y_19.out)
    have Z_20 : Hid (XB W10 (w.heap.size + 1 + 1) nc (.slice C1 l1 e1) u1 i1) := Lib.hid (by rw [hW10]; exact Z_19.out)
    have OX_20 : Hid (XOk W10 (.slice A1 n1 c1) L s1 f1) := Lib.hid (by rw [hW10]; exact OX_19.out)
    have OY_20 : Hid (XOk W10 (.slice B1 m1 d1) M t1 g1) := Lib.hid (by rw [hW10]; exact OY_19.out)
    have OZ_20 : Hid (XOk W10 (.slice C1 l1 e1) N u1 i1) := Lib.hid (by rw [hW10]; exact OZ_19.out)
    clear G_19 X_19 Y_19 Z_19 OX_19 OY_19 OZ_19
    clear hW10
    with_reducible (refine (Kxy.out _ OX_20.out OY_20.out).mono ?_)
    rintro _ w10 ⟨rfl, b10⟩
    have G_21 := Lib.hid (bthen G_20.out b10)
    have X_21 := Lib.hid (X_20.out.below b10)
    have Y_21 := Lib.hid (Y_20.out.below b10)
    have Z_21 := Lib.hid (Z_20.out.below b10)
    have OX_21 := Lib.hid (OX_20.out.below b10)
    have OY_21 := Lib.hid (OY_20.out.below b10)
    have OZ_21 := Lib.hid (OZ_20.out.below b10)
    clear G_20 X_20 Y_20 Z_20 OX_20 OY_20 OZ_20
    clear b10
    obtain ⟨q16a, q16b, q16c, q16d, q16e, q16f, q16g, q16h, q16i, q16j⟩ := X_21.out.cells
    obtain ⟨q17a, q17b, q17c, q17d, q17e, q17f, q17g, q17h, q17i, q17j⟩ := Y_21.out.cells
    obtain ⟨q18a, q18b, q18c, q18d, q18e, q18f, q18g, q18h, q18i, q18j⟩ := Z_21.out.cells
    go_wp2_with fail
    refine at_world ?_
    intro W11 hW11
    clear q16a q16b q16c q16d q16e q16f q16g q16h q16i q16j q17a q17b q17c q17d q17e q17f q17g q17h q17i q17j q18a q18b q18c q18d q18e q18f q18g q18h q18i q18j
    have G_22 : Hid (Below w.heap.size w W11) := Lib.hid (by rw [hW11]; exact G_21.out)
    have X_22 : Hid (XB W11 w.heap.size na (.slice A1 n1 c1) s1 f1) := Lib.hid (by rw [hW11]; exact X_21.out)
    have Y_22 : Hid (XB W11 (w.heap.size + 1) nb (.slice B1 m1 d1) t1 g1) := Lib.hid (by rw [hW11]; exact Y_21.out)
    have Z_22 : Hid (XB W11 (w.heap.size + 1 + 1) nc (.slice C1 l1 e1) u1 i1) := Lib.hid (by rw [hW11]; exact Z_21.out)
    have OX_22 : Hid (XOk W11 (.slice A1 n1 c1) L s1 f1) := Lib.hid (by rw [hW11]; exact OX_21.out)
    have OY_22 : Hid (XOk W11 (.slice B1 m1 d1) M t1 g1) := Lib.hid (by rw [hW11]; exact OY_21.out)
    have OZ_22 : Hid (XOk W11 (.slice C1 l1 e1) N u1 i1) := Lib.hid (by rw [hW11]; exact OZ_21.out)
    clear G_21 X_21 Y_21 Z_21 OX_21 OY_21 OZ_21
    clear hW11
    with_reducible (refine (Kyz.out _ OY_22.out OZ_22.out).mono ?_)
    rintro _ w11 ⟨rfl, b11⟩
    have G_23 := Lib.hid (bthen G_22.out b11)
    have X_23 := Lib.hid (X_22.out.below b11)
    have Y_23 := Lib.hid (Y_22.out.below b11)
    have Z_23 := Lib.hid (Z_22.out.below b11)
    have OX_23 := Lib.hid (OX_22.out.below b11)
    have OY_23 := Lib.hid (OY_22.out.below b11)
    have OZ_23 := Lib.hid (OZ_22.out.below b11)
    clear G_22 X_22 Y_22 Z_22 OX_22 OY_22 OZ_22
    clear b11
    obtain ⟨q19a, q19b, q19c, q19d, q19e, q19f, q19g, q19h, q19i, q19j⟩ := X_23.out.cells
    obtain ⟨q20a, q20b, q20c, q20d, q20e, q20f, q20g, q20h, q20i, q20j⟩ := Y_23.out.cells
    obtain ⟨q21a, q21b, q21c, q21d, q21e, q21f, q21g, q21h, q21i, q21j⟩ := Z_23.out.cells
    go_wp2_with fail
    refine at_world ?_
    intro W12 hW12
    clear q19a q19b q19c q19d q19e q19f q19g q19h q19i q19j q20a q20b q20c q20d q20e q20f q20g q20h q20i q20j q21a q21b q21c q21d q21e q21f q21g q21h q21i q21j
    have G_24 : Hid (Below w.heap.size w W12) := Lib.hid (by rw [hW12]; exact G_23.out)
    have X_24 : Hid (XB W12 w.heap.size na (.slice A1 n1 c1) s1 f1) := Lib.hid (by rw [hW12]; exact X_23.out)
    have Y_24 : Hid (XB W12 (w.heap.size + 1) nb (.slice B1 m1 d1) t1 g1) := Lib.hid (by rw [hW12]; exact Y_23.out)
    have Z_24 : Hid (XB W12 (w.heap.size + 1 + 1) nc (.slice C1 l1 e1) u1 i1) := Lib.hid (by rw [hW12]; exact Z_23.out)
    have OX_24 : Hid (XOk W12 (.slice A1 n1 c1) L s1 f1) := Lib.hid (by rw [hW12]; exact OX_23.out)
    have OY_24 : Hid (XOk W12 (.slice B1 m1 d1) M t1 g1) := Lib.hid (by rw [hW12]; exact OY_23.out)
    have OZ_24 : Hid (XOk W12 (.slice C1 l1 e1) N u1 i1) := Lib.hid (by rw [hW12]; exact OZ_23.out)
    clear G_23 X_23 Y_23 Z_23 OX_23 OY_23 OZ_23
    clear hW12
    with_reducible (refine (Spq.out _ OX_24.out OY_24.out).mono ?_)
    rintro _ w12 ⟨rfl, b12⟩
    have G_25 := Lib.hid (bthen G_24.out b12)
    have X_25 := Lib.hid (X_24.out.below b12)
    have Y_25 := Lib.hid (Y_24.out.below b12)
    have Z_25 := Lib.hid (Z_24.out.below b12)
    have OX_25 := Lib.hid (OX_24.out.below b12)
    have OY_25 := Lib.hid (OY_24.out.below b12)
    have OZ_25 := Lib.hid (OZ_24.out.below b12)
    clear G_24 X_24 Y_24 Z_24 OX_24 OY_24 OZ_24
    clear b12
    obtain ⟨q22a, q22b, q22c, q22d, q22e, q22f, q22g, q22h, q22i, q22j⟩ := X_25.out.cells
    obtain ⟨q23a, q23b, q23c, q23d, q23e, q23f, q23g, q23h, q23i, q23j⟩ := Y_25.out.cells
    obtain ⟨q24a, q24b, q24c, q24d, q24e, q24f, q24g, q24h, q24i, q24j⟩ := Z_25.out.cells
    go_wp2_with fail
    refine at_code ?_
    intro W6 hW6
    clear q22a q22b q22c q22d q22e q22f q22g q22h q22i q22j q23a q23b q23c q23d q23e q23f q23g q23h q23i q23j q24a q24b q24c q24d q24e q24f q24g q24h q24i q24j
    have G_26 : Hid (Below w.heap.size w W6) := Lib.hid (by rw [hW6]; exact (bgrow (bgrow G_25.out _) _))
    have X_26 : Hid (XB W6 w.heap.size na (.slice A1 n1 c1) s1 f1) := Lib.hid (by rw [hW6]; exact ((X_25.out.alloc _).alloc _))
    have Y_26 : Hid (XB W6 (w.heap.size + 1) nb (.slice B1 m1 d1) t1 g1) := Lib.hid (by rw [hW6]; exact ((Y_25.out.alloc _).alloc _))
    have Z_26 : Hid (XB W6 (w.heap.size + 1 + 1) nc (.slice C1 l1 e1) u1 i1) := Lib.hid (by rw [hW6]; exact ((Z_25.out.alloc _).alloc _))
    have OX_26 : Hid (XOk W6 (.slice A1 n1 c1) L s1 f1) := Lib.hid (by rw [hW6]; exact ((OX_25.out.alloc _).alloc _))
    have OY_26 : Hid (XOk W6 (.slice B1 m1 d1) M t1 g1) := Lib.hid (by rw [hW6]; exact ((OY_25.out.alloc _).alloc _))
    have OZ_26 : Hid (XOk W6 (.slice C1 l1 e1) N u1 i1) := Lib.hid (by rw [hW6]; exact ((OZ_25.out.alloc _).alloc _))
    clear G_25 X_25 Y_25 Z_25 OX_25 OY_25 OZ_25
    have P_27 : Hid (XB W6 w12.heap.size (!na) (.slice A1 n1 c1) s1 f1) := Lib.hid (by rw [hW6]; exact (XB.new w12 (!na) (.slice A1 n1 c1) s1 f1).alloc _)
    have Q_28 : Hid (XB W6 (w12.heap.size + 1) (!nb) (.slice B1 m1 d1) t1 g1) := Lib.hid (by rw [hW6]; have hh := XB.new (w12.alloc (.cells #[.bool (!na), (.slice A1 n1 c1), .int .i64 s1, .int .i64 f1] 25)) (!nb) (.slice B1 m1 d1) t1 g1; simpa using hh)
    clear hW6
    have K1_6 : Hid (∀ w', Hid (Below W6.heap.size W6 w') → Hid (Below W6.heap.size W6 w') ∧ (w'.cell? { block := w.heap.size, off := 0 } = some (.bool na) ∧ w'.cell? { block := w.heap.size, off := 1 } = some (.slice A1 n1 c1) ∧ w'.cell? { block := w.heap.size, off := 2 } = some (.int .i64 s1) ∧ w'.cell? { block := w.heap.size, off := 3 } = some (.int .i64 f1)) ∧ (w'.cell? { block := (w.heap.size + 1), off := 0 } = some (.bool nb) ∧ w'.cell? { block := (w.heap.size + 1), off := 1 } = some (.slice B1 m1 d1) ∧ w'.cell? { block := (w.heap.size + 1), off := 2 } = some (.int .i64 t1) ∧ w'.cell? { block := (w.heap.size + 1), off := 3 } = some (.int .i64 g1)) ∧ (w'.cell? { block := w12.heap.size, off := 0 } = some (.bool (!na)) ∧ w'.cell? { block := w12.heap.size, off := 1 } = some (.slice A1 n1 c1) ∧ w'.cell? { block := w12.heap.size, off := 2 } = some (.int .i64 s1) ∧ w'.cell? { block := w12.heap.size, off := 3 } = some (.int .i64 f1)) ∧ (w'.cell? { block := (w12.heap.size + 1), off := 0 } = some (.bool (!nb)) ∧ w'.cell? { block := (w12.heap.size + 1), off := 1 } = some (.slice B1 m1 d1) ∧ w'.cell? { block := (w12.heap.size + 1), off := 2 } = some (.int .i64 t1) ∧ w'.cell? { block := (w12.heap.size + 1), off := 3 } = some (.int .i64 g1))) := Lib.hid (fun w' h => ⟨h, (X_26.out.below h.out).four, (Y_26.out.below h.out).four, (P_27.out.below h.out).four, (Q_28.out.below h.out).four⟩)
    have KS_6 := Lib.hid (fun w1 w2 (h : Hid (Below W6.heap.size W6 w1)) (b : Below w1.heap.size w1 w2) => K1_6.out w2 (hbthen h b))
    have K0_6 := Lib.hid (K1_6.out _ (Lib.hid (bdrewN (Below.refl _ _) 1)))
    go_region_held3 (fun w' => Hid (Below W6.heap.size W6 w') ∧ (w'.cell? { block := w.heap.size, off := 0 } = some (.bool na) ∧ w'.cell? { block := w.heap.size, off := 1 } = some (.slice A1 n1 c1) ∧ w'.cell? { block := w.heap.size, off := 2 } = some (.int .i64 s1) ∧ w'.cell? { block := w.heap.size, off := 3 } = some (.int .i64 f1)) ∧ (w'.cell? { block := (w.heap.size + 1), off := 0 } = some (.bool nb) ∧ w'.cell? { block := (w.heap.size + 1), off := 1 } = some (.slice B1 m1 d1) ∧ w'.cell? { block := (w.heap.size + 1), off := 2 } = some (.int .i64 t1) ∧ w'.cell? { block := (w.heap.size + 1), off := 3 } = some (.int .i64 g1)) ∧ (w'.cell? { block := w12.heap.size, off := 0 } = some (.bool (!na)) ∧ w'.cell? { block := w12.heap.size, off := 1 } = some (.slice A1 n1 c1) ∧ w'.cell? { block := w12.heap.size, off := 2 } = some (.int .i64 s1) ∧ w'.cell? { block := w12.heap.size, off := 3 } = some (.int .i64 f1)) ∧ (w'.cell? { block := (w12.heap.size + 1), off := 0 } = some (.bool (!nb)) ∧ w'.cell? { block := (w12.heap.size + 1), off := 1 } = some (.slice B1 m1 d1) ∧ w'.cell? { block := (w12.heap.size + 1), off := 2 } = some (.int .i64 t1) ∧ w'.cell? { block := (w12.heap.size + 1), off := 3 } = some (.int .i64 g1)))
      (first | exact K0_6.out | exact KS_6.out _ _ (And.left (by assumption)) (by assumption))
      (first | ((go_at_call 28); (with_reducible (refine Calls.mono (Sn.out _ (OX_26.out.below (Hid.out (And.left (by assumption)))) (OY_26.out.below (Hid.out (And.left (by assumption))))) ?_)); (rintro e wz ⟨rfl, ba⟩))
             | ((go_at_call 28); (with_reducible (refine Calls.mono (Sqp.out _ (OY_26.out.below (Hid.out (And.left (by assumption)))) (OX_26.out.below (Hid.out (And.left (by assumption))))) ?_)); (rintro e wz ⟨rfl, ba⟩))
             | ((go_at_call 15); (with_reducible (refine Calls.mono (Kn.out _ (OX_26.out.below (Hid.out (And.left (by assumption)))) (OY_26.out.below (Hid.out (And.left (by assumption))))) ?_)); (rintro e wz ⟨rfl, ba⟩))
             | ((go_at_call 15); (with_reducible (refine Calls.mono (Kxy.out _ (OX_26.out.below (Hid.out (And.left (by assumption)))) (OY_26.out.below (Hid.out (And.left (by assumption))))) ?_)); (rintro e wz ⟨rfl, ba⟩)))
    rename_i hS6
    have b6 := hS6.1.out
    have G_29 := Lib.hid (bthen G_26.out b6)
    have X_29 := Lib.hid (X_26.out.below b6)
    have Y_29 := Lib.hid (Y_26.out.below b6)
    have Z_29 := Lib.hid (Z_26.out.below b6)
    have OX_29 := Lib.hid (OX_26.out.below b6)
    have OY_29 := Lib.hid (OY_26.out.below b6)
    have OZ_29 := Lib.hid (OZ_26.out.below b6)
    have P_29 := Lib.hid (P_27.out.below b6)
    have Q_29 := Lib.hid (Q_28.out.below b6)
    clear G_26 X_26 Y_26 Z_26 OX_26 OY_26 OZ_26 P_27 Q_28
    clear b6 K1_6 KS_6 K0_6
    go_wp2_with fail
    go_ret
    exact ⟨rfl, G_29.out⟩
  · obtain ⟨q13a, q13b, q13c, q13d, q13e, q13f, q13g, q13h, q13i, q13j⟩ := X_19.out.cells
    obtain ⟨q14a, q14b, q14c, q14d, q14e, q14f, q14g, q14h, q14i, q14j⟩ := Y_19.out.cells
    obtain ⟨q15a, q15b, q15c, q15d, q15e, q15f, q15g, q15h, q15i, q15j⟩ := Z_19.out.cells
    go_wp2_with fail
    refine at_world ?_
    intro W10 hW10
    clear q13a q13b q13c q13d q13e q13f q13g q13h q13i q13j q14a q14b q14c q14d q14e q14f q14g q14h q14i q14j q15a q15b q15c q15d q15e q15f q15g q15h q15i q15j
    have G_20 : Hid (Below w.heap.size w W10) := Lib.hid (by rw [hW10]; exact G_19.out)
    have X_20 : Hid (XB W10 w.heap.size na (.slice A1 n1 c1) s1 f1) := Lib.hid (by rw [hW10]; exact X_19.out)
    have Y_20 : Hid (XB W10 (w.heap.size + 1) nb (.slice B1 m1 d1) t1 g1) := Lib.hid (by rw [hW10]; exact Y_19.out)
    have Z_20 : Hid (XB W10 (w.heap.size + 1 + 1) nc (.slice C1 l1 e1) u1 i1) := Lib.hid (by rw [hW10]; exact Z_19.out)
    have OX_20 : Hid (XOk W10 (.slice A1 n1 c1) L s1 f1) := Lib.hid (by rw [hW10]; exact OX_19.out)
    have OY_20 : Hid (XOk W10 (.slice B1 m1 d1) M t1 g1) := Lib.hid (by rw [hW10]; exact OY_19.out)
    have OZ_20 : Hid (XOk W10 (.slice C1 l1 e1) N u1 i1) := Lib.hid (by rw [hW10]; exact OZ_19.out)
    clear G_19 X_19 Y_19 Z_19 OX_19 OY_19 OZ_19
    clear hW10
    with_reducible (refine (Kxy.out _ OX_20.out OY_20.out).mono ?_)
    rintro _ w10 ⟨rfl, b10⟩
    have G_21 := Lib.hid (bthen G_20.out b10)
    have X_21 := Lib.hid (X_20.out.below b10)
    have Y_21 := Lib.hid (Y_20.out.below b10)
    have Z_21 := Lib.hid (Z_20.out.below b10)
    have OX_21 := Lib.hid (OX_20.out.below b10)
    have OY_21 := Lib.hid (OY_20.out.below b10)
    have OZ_21 := Lib.hid (OZ_20.out.below b10)
    clear G_20 X_20 Y_20 Z_20 OX_20 OY_20 OZ_20
    clear b10
    obtain ⟨q16a, q16b, q16c, q16d, q16e, q16f, q16g, q16h, q16i, q16j⟩ := X_21.out.cells
    obtain ⟨q17a, q17b, q17c, q17d, q17e, q17f, q17g, q17h, q17i, q17j⟩ := Y_21.out.cells
    obtain ⟨q18a, q18b, q18c, q18d, q18e, q18f, q18g, q18h, q18i, q18j⟩ := Z_21.out.cells
    go_wp2_with fail
    refine at_world ?_
    intro W11 hW11
    clear q16a q16b q16c q16d q16e q16f q16g q16h q16i q16j q17a q17b q17c q17d q17e q17f q17g q17h q17i q17j q18a q18b q18c q18d q18e q18f q18g q18h q18i q18j
    have G_22 : Hid (Below w.heap.size w W11) := Lib.hid (by rw [hW11]; exact G_21.out)
    have X_22 : Hid (XB W11 w.heap.size na (.slice A1 n1 c1) s1 f1) := Lib.hid (by rw [hW11]; exact X_21.out)
    have Y_22 : Hid (XB W11 (w.heap.size + 1) nb (.slice B1 m1 d1) t1 g1) := Lib.hid (by rw [hW11]; exact Y_21.out)
    have Z_22 : Hid (XB W11 (w.heap.size + 1 + 1) nc (.slice C1 l1 e1) u1 i1) := Lib.hid (by rw [hW11]; exact Z_21.out)
    have OX_22 : Hid (XOk W11 (.slice A1 n1 c1) L s1 f1) := Lib.hid (by rw [hW11]; exact OX_21.out)
    have OY_22 : Hid (XOk W11 (.slice B1 m1 d1) M t1 g1) := Lib.hid (by rw [hW11]; exact OY_21.out)
    have OZ_22 : Hid (XOk W11 (.slice C1 l1 e1) N u1 i1) := Lib.hid (by rw [hW11]; exact OZ_21.out)
    clear G_21 X_21 Y_21 Z_21 OX_21 OY_21 OZ_21
    clear hW11
    with_reducible (refine (Kyz.out _ OY_22.out OZ_22.out).mono ?_)
    rintro _ w11 ⟨rfl, b11⟩
    have G_23 := Lib.hid (bthen G_22.out b11)
    have X_23 := Lib.hid (X_22.out.below b11)
    have Y_23 := Lib.hid (Y_22.out.below b11)
    have Z_23 := Lib.hid (Z_22.out.below b11)
    have OX_23 := Lib.hid (OX_22.out.below b11)
    have OY_23 := Lib.hid (OY_22.out.below b11)
    have OZ_23 := Lib.hid (OZ_22.out.below b11)
    clear G_22 X_22 Y_22 Z_22 OX_22 OY_22 OZ_22
    clear b11
    obtain ⟨q19a, q19b, q19c, q19d, q19e, q19f, q19g, q19h, q19i, q19j⟩ := X_23.out.cells
    obtain ⟨q20a, q20b, q20c, q20d, q20e, q20f, q20g, q20h, q20i, q20j⟩ := Y_23.out.cells
    obtain ⟨q21a, q21b, q21c, q21d, q21e, q21f, q21g, q21h, q21i, q21j⟩ := Z_23.out.cells
    go_wp2_with fail
    refine at_world ?_
    intro W12 hW12
    clear q19a q19b q19c q19d q19e q19f q19g q19h q19i q19j q20a q20b q20c q20d q20e q20f q20g q20h q20i q20j q21a q21b q21c q21d q21e q21f q21g q21h q21i q21j
    have G_24 : Hid (Below w.heap.size w W12) := Lib.hid (by rw [hW12]; exact G_23.out)
    have X_24 : Hid (XB W12 w.heap.size na (.slice A1 n1 c1) s1 f1) := Lib.hid (by rw [hW12]; exact X_23.out)
    have Y_24 : Hid (XB W12 (w.heap.size + 1) nb (.slice B1 m1 d1) t1 g1) := Lib.hid (by rw [hW12]; exact Y_23.out)
    have Z_24 : Hid (XB W12 (w.heap.size + 1 + 1) nc (.slice C1 l1 e1) u1 i1) := Lib.hid (by rw [hW12]; exact Z_23.out)
    have OX_24 : Hid (XOk W12 (.slice A1 n1 c1) L s1 f1) := Lib.hid (by rw [hW12]; exact OX_23.out)
    have OY_24 : Hid (XOk W12 (.slice B1 m1 d1) M t1 g1) := Lib.hid (by rw [hW12]; exact OY_23.out)
    have OZ_24 : Hid (XOk W12 (.slice C1 l1 e1) N u1 i1) := Lib.hid (by rw [hW12]; exact OZ_23.out)
    clear G_23 X_23 Y_23 Z_23 OX_23 OY_23 OZ_23
    clear hW12
    with_reducible (refine (Spq.out _ OX_24.out OY_24.out).mono ?_)
    rintro _ w12 ⟨rfl, b12⟩
    have G_25 := Lib.hid (bthen G_24.out b12)
    have X_25 := Lib.hid (X_24.out.below b12)
    have Y_25 := Lib.hid (Y_24.out.below b12)
    have Z_25 := Lib.hid (Z_24.out.below b12)
    have OX_25 := Lib.hid (OX_24.out.below b12)
    have OY_25 := Lib.hid (OY_24.out.below b12)
    have OZ_25 := Lib.hid (OZ_24.out.below b12)
    clear G_24 X_24 Y_24 Z_24 OX_24 OY_24 OZ_24
    clear b12
    obtain ⟨q22a, q22b, q22c, q22d, q22e, q22f, q22g, q22h, q22i, q22j⟩ := X_25.out.cells
    obtain ⟨q23a, q23b, q23c, q23d, q23e, q23f, q23g, q23h, q23i, q23j⟩ := Y_25.out.cells
    obtain ⟨q24a, q24b, q24c, q24d, q24e, q24f, q24g, q24h, q24i, q24j⟩ := Z_25.out.cells
    go_wp2_with fail
    refine at_world ?_
    intro W13 hW13
    clear q22a q22b q22c q22d q22e q22f q22g q22h q22i q22j q23a q23b q23c q23d q23e q23f q23g q23h q23i q23j q24a q24b q24c q24d q24e q24f q24g q24h q24i q24j
    have G_26 : Hid (Below w.heap.size w W13) := Lib.hid (by rw [hW13]; exact G_25.out)
    have X_26 : Hid (XB W13 w.heap.size na (.slice A1 n1 c1) s1 f1) := Lib.hid (by rw [hW13]; exact X_25.out)
    have Y_26 : Hid (XB W13 (w.heap.size + 1) nb (.slice B1 m1 d1) t1 g1) := Lib.hid (by rw [hW13]; exact Y_25.out)
    have Z_26 : Hid (XB W13 (w.heap.size + 1 + 1) nc (.slice C1 l1 e1) u1 i1) := Lib.hid (by rw [hW13]; exact Z_25.out)
    have OX_26 : Hid (XOk W13 (.slice A1 n1 c1) L s1 f1) := Lib.hid (by rw [hW13]; exact OX_25.out)
    have OY_26 : Hid (XOk W13 (.slice B1 m1 d1) M t1 g1) := Lib.hid (by rw [hW13]; exact OY_25.out)
    have OZ_26 : Hid (XOk W13 (.slice C1 l1 e1) N u1 i1) := Lib.hid (by rw [hW13]; exact OZ_25.out)
    clear G_25 X_25 Y_25 Z_25 OX_25 OY_25 OZ_25
    clear hW13
    with_reducible (refine (Sqr.out _ OY_26.out OZ_26.out).mono ?_)
    rintro _ w13 ⟨rfl, b13⟩
    have G_27 := Lib.hid (bthen G_26.out b13)
    have X_27 := Lib.hid (X_26.out.below b13)
    have Y_27 := Lib.hid (Y_26.out.below b13)
    have Z_27 := Lib.hid (Z_26.out.below b13)
    have OX_27 := Lib.hid (OX_26.out.below b13)
    have OY_27 := Lib.hid (OY_26.out.below b13)
    have OZ_27 := Lib.hid (OZ_26.out.below b13)
    clear G_26 X_26 Y_26 Z_26 OX_26 OY_26 OZ_26
    clear b13
    obtain ⟨q25a, q25b, q25c, q25d, q25e, q25f, q25g, q25h, q25i, q25j⟩ := X_27.out.cells
    obtain ⟨q26a, q26b, q26c, q26d, q26e, q26f, q26g, q26h, q26i, q26j⟩ := Y_27.out.cells
    obtain ⟨q27a, q27b, q27c, q27d, q27e, q27f, q27g, q27h, q27i, q27j⟩ := Z_27.out.cells
    go_wp2_with fail
    refine at_code ?_
    intro W6 hW6
    clear q25a q25b q25c q25d q25e q25f q25g q25h q25i q25j q26a q26b q26c q26d q26e q26f q26g q26h q26i q26j q27a q27b q27c q27d q27e q27f q27g q27h q27i q27j
    have G_28 : Hid (Below w.heap.size w W6) := Lib.hid (by rw [hW6]; exact (bgrow (bgrow G_27.out _) _))
    have X_28 : Hid (XB W6 w.heap.size na (.slice A1 n1 c1) s1 f1) := Lib.hid (by rw [hW6]; exact ((X_27.out.alloc _).alloc _))
    have Y_28 : Hid (XB W6 (w.heap.size + 1) nb (.slice B1 m1 d1) t1 g1) := Lib.hid (by rw [hW6]; exact ((Y_27.out.alloc _).alloc _))
    have Z_28 : Hid (XB W6 (w.heap.size + 1 + 1) nc (.slice C1 l1 e1) u1 i1) := Lib.hid (by rw [hW6]; exact ((Z_27.out.alloc _).alloc _))
    have OX_28 : Hid (XOk W6 (.slice A1 n1 c1) L s1 f1) := Lib.hid (by rw [hW6]; exact ((OX_27.out.alloc _).alloc _))
    have OY_28 : Hid (XOk W6 (.slice B1 m1 d1) M t1 g1) := Lib.hid (by rw [hW6]; exact ((OY_27.out.alloc _).alloc _))
    have OZ_28 : Hid (XOk W6 (.slice C1 l1 e1) N u1 i1) := Lib.hid (by rw [hW6]; exact ((OZ_27.out.alloc _).alloc _))
    clear G_27 X_27 Y_27 Z_27 OX_27 OY_27 OZ_27
    have P_29 : Hid (XB W6 w13.heap.size (!na) (.slice A1 n1 c1) s1 f1) := Lib.hid (by rw [hW6]; exact (XB.new w13 (!na) (.slice A1 n1 c1) s1 f1).alloc _)
    have Q_30 : Hid (XB W6 (w13.heap.size + 1) (!nb) (.slice B1 m1 d1) t1 g1) := Lib.hid (by rw [hW6]; have hh := XB.new (w13.alloc (.cells #[.bool (!na), (.slice A1 n1 c1), .int .i64 s1, .int .i64 f1] 25)) (!nb) (.slice B1 m1 d1) t1 g1; simpa using hh)
    clear hW6
    have K1_6 : Hid (∀ w', Hid (Below W6.heap.size W6 w') → Hid (Below W6.heap.size W6 w') ∧ (w'.cell? { block := w.heap.size, off := 0 } = some (.bool na) ∧ w'.cell? { block := w.heap.size, off := 1 } = some (.slice A1 n1 c1) ∧ w'.cell? { block := w.heap.size, off := 2 } = some (.int .i64 s1) ∧ w'.cell? { block := w.heap.size, off := 3 } = some (.int .i64 f1)) ∧ (w'.cell? { block := (w.heap.size + 1), off := 0 } = some (.bool nb) ∧ w'.cell? { block := (w.heap.size + 1), off := 1 } = some (.slice B1 m1 d1) ∧ w'.cell? { block := (w.heap.size + 1), off := 2 } = some (.int .i64 t1) ∧ w'.cell? { block := (w.heap.size + 1), off := 3 } = some (.int .i64 g1)) ∧ (w'.cell? { block := w13.heap.size, off := 0 } = some (.bool (!na)) ∧ w'.cell? { block := w13.heap.size, off := 1 } = some (.slice A1 n1 c1) ∧ w'.cell? { block := w13.heap.size, off := 2 } = some (.int .i64 s1) ∧ w'.cell? { block := w13.heap.size, off := 3 } = some (.int .i64 f1)) ∧ (w'.cell? { block := (w13.heap.size + 1), off := 0 } = some (.bool (!nb)) ∧ w'.cell? { block := (w13.heap.size + 1), off := 1 } = some (.slice B1 m1 d1) ∧ w'.cell? { block := (w13.heap.size + 1), off := 2 } = some (.int .i64 t1) ∧ w'.cell? { block := (w13.heap.size + 1), off := 3 } = some (.int .i64 g1))) := Lib.hid (fun w' h => ⟨h, (X_28.out.below h.out).four, (Y_28.out.below h.out).four, (P_29.out.below h.out).four, (Q_30.out.below h.out).four⟩)
    have KS_6 := Lib.hid (fun w1 w2 (h : Hid (Below W6.heap.size W6 w1)) (b : Below w1.heap.size w1 w2) => K1_6.out w2 (hbthen h b))
    have K0_6 := Lib.hid (K1_6.out _ (Lib.hid (bdrewN (Below.refl _ _) 1)))
    go_region_held3 (fun w' => Hid (Below W6.heap.size W6 w') ∧ (w'.cell? { block := w.heap.size, off := 0 } = some (.bool na) ∧ w'.cell? { block := w.heap.size, off := 1 } = some (.slice A1 n1 c1) ∧ w'.cell? { block := w.heap.size, off := 2 } = some (.int .i64 s1) ∧ w'.cell? { block := w.heap.size, off := 3 } = some (.int .i64 f1)) ∧ (w'.cell? { block := (w.heap.size + 1), off := 0 } = some (.bool nb) ∧ w'.cell? { block := (w.heap.size + 1), off := 1 } = some (.slice B1 m1 d1) ∧ w'.cell? { block := (w.heap.size + 1), off := 2 } = some (.int .i64 t1) ∧ w'.cell? { block := (w.heap.size + 1), off := 3 } = some (.int .i64 g1)) ∧ (w'.cell? { block := w13.heap.size, off := 0 } = some (.bool (!na)) ∧ w'.cell? { block := w13.heap.size, off := 1 } = some (.slice A1 n1 c1) ∧ w'.cell? { block := w13.heap.size, off := 2 } = some (.int .i64 s1) ∧ w'.cell? { block := w13.heap.size, off := 3 } = some (.int .i64 f1)) ∧ (w'.cell? { block := (w13.heap.size + 1), off := 0 } = some (.bool (!nb)) ∧ w'.cell? { block := (w13.heap.size + 1), off := 1 } = some (.slice B1 m1 d1) ∧ w'.cell? { block := (w13.heap.size + 1), off := 2 } = some (.int .i64 t1) ∧ w'.cell? { block := (w13.heap.size + 1), off := 3 } = some (.int .i64 g1)))
      (first | exact K0_6.out | exact KS_6.out _ _ (And.left (by assumption)) (by assumption))
      (first | ((go_at_call 28); (with_reducible (refine Calls.mono (Sn.out _ (OX_28.out.below (Hid.out (And.left (by assumption)))) (OY_28.out.below (Hid.out (And.left (by assumption))))) ?_)); (rintro e wz ⟨rfl, ba⟩))
             | ((go_at_call 28); (with_reducible (refine Calls.mono (Sqp.out _ (OY_28.out.below (Hid.out (And.left (by assumption)))) (OX_28.out.below (Hid.out (And.left (by assumption))))) ?_)); (rintro e wz ⟨rfl, ba⟩))
             | ((go_at_call 15); (with_reducible (refine Calls.mono (Kn.out _ (OX_28.out.below (Hid.out (And.left (by assumption)))) (OY_28.out.below (Hid.out (And.left (by assumption))))) ?_)); (rintro e wz ⟨rfl, ba⟩))
             | ((go_at_call 15); (with_reducible (refine Calls.mono (Kxy.out _ (OX_28.out.below (Hid.out (And.left (by assumption)))) (OY_28.out.below (Hid.out (And.left (by assumption))))) ?_)); (rintro e wz ⟨rfl, ba⟩)))
    rename_i hS6
    have b6 := hS6.1.out
    have G_31 := Lib.hid (bthen G_28.out b6)
    have X_31 := Lib.hid (X_28.out.below b6)
    have Y_31 := Lib.hid (Y_28.out.below b6)
    have Z_31 := Lib.hid (Z_28.out.below b6)
    have OX_31 := Lib.hid (OX_28.out.below b6)
    have OY_31 := Lib.hid (OY_28.out.below b6)
    have OZ_31 := Lib.hid (OZ_28.out.below b6)
    have P_31 := Lib.hid (P_29.out.below b6)
    have Q_31 := Lib.hid (Q_30.out.below b6)
    clear G_28 X_28 Y_28 Z_28 OX_28 OY_28 OZ_28 P_29 Q_30
    clear b6 K1_6 KS_6 K0_6
    go_wp2_with fail
    go_ret
    exact ⟨rfl, G_31.out⟩
  · obtain ⟨q13a, q13b, q13c, q13d, q13e, q13f, q13g, q13h, q13i, q13j⟩ := X_19.out.cells
    obtain ⟨q14a, q14b, q14c, q14d, q14e, q14f, q14g, q14h, q14i, q14j⟩ := Y_19.out.cells
    obtain ⟨q15a, q15b, q15c, q15d, q15e, q15f, q15g, q15h, q15i, q15j⟩ := Z_19.out.cells
    go_wp2_with fail
    refine at_world ?_
    intro W10 hW10
    clear q13a q13b q13c q13d q13e q13f q13g q13h q13i q13j q14a q14b q14c q14d q14e q14f q14g q14h q14i q14j q15a q15b q15c q15d q15e q15f q15g q15h q15i q15j
    have G_20 : Hid (Below w.heap.size w W10) := Lib.hid (by rw [hW10]; exact G_19.out)
    have X_20 : Hid (XB W10 w.heap.size na (.slice A1 n1 c1) s1 f1) := Lib.hid (by rw [hW10]; exact X_19.out)
    have Y_20 : Hid (XB W10 (w.heap.size + 1) nb (.slice B1 m1 d1) t1 g1) := Lib.hid (by rw [hW10]; exact Y_19.out)
    have Z_20 : Hid (XB W10 (w.heap.size + 1 + 1) nc (.slice C1 l1 e1) u1 i1) := Lib.hid (by rw [hW10]; exact Z_19.out)
    have OX_20 : Hid (XOk W10 (.slice A1 n1 c1) L s1 f1) := Lib.hid (by rw [hW10]; exact OX_19.out)
    have OY_20 : Hid (XOk W10 (.slice B1 m1 d1) M t1 g1) := Lib.hid (by rw [hW10]; exact OY_19.out)
    have OZ_20 : Hid (XOk W10 (.slice C1 l1 e1) N u1 i1) := Lib.hid (by rw [hW10]; exact OZ_19.out)
    clear G_19 X_19 Y_19 Z_19 OX_19 OY_19 OZ_19
    clear hW10
    with_reducible (refine (Kxy.out _ OX_20.out OY_20.out).mono ?_)
    rintro _ w10 ⟨rfl, b10⟩
    have G_21 := Lib.hid (bthen G_20.out b10)
    have X_21 := Lib.hid (X_20.out.below b10)
    have Y_21 := Lib.hid (Y_20.out.below b10)
    have Z_21 := Lib.hid (Z_20.out.below b10)
    have OX_21 := Lib.hid (OX_20.out.below b10)
    have OY_21 := Lib.hid (OY_20.out.below b10)
    have OZ_21 := Lib.hid (OZ_20.out.below b10)
    clear G_20 X_20 Y_20 Z_20 OX_20 OY_20 OZ_20
    clear b10
    obtain ⟨q16a, q16b, q16c, q16d, q16e, q16f, q16g, q16h, q16i, q16j⟩ := X_21.out.cells
    obtain ⟨q17a, q17b, q17c, q17d, q17e, q17f, q17g, q17h, q17i, q17j⟩ := Y_21.out.cells
    obtain ⟨q18a, q18b, q18c, q18d, q18e, q18f, q18g, q18h, q18i, q18j⟩ := Z_21.out.cells
    go_wp2_with fail
    refine at_world ?_
    intro W11 hW11
    clear q16a q16b q16c q16d q16e q16f q16g q16h q16i q16j q17a q17b q17c q17d q17e q17f q17g q17h q17i q17j q18a q18b q18c q18d q18e q18f q18g q18h q18i q18j
    have G_22 : Hid (Below w.heap.size w W11) := Lib.hid (by rw [hW11]; exact G_21.out)
    have X_22 : Hid (XB W11 w.heap.size na (.slice A1 n1 c1) s1 f1) := Lib.hid (by rw [hW11]; exact X_21.out)
    have Y_22 : Hid (XB W11 (w.heap.size + 1) nb (.slice B1 m1 d1) t1 g1) := Lib.hid (by rw [hW11]; exact Y_21.out)
    have Z_22 : Hid (XB W11 (w.heap.size + 1 + 1) nc (.slice C1 l1 e1) u1 i1) := Lib.hid (by rw [hW11]; exact Z_21.out)
    have OX_22 : Hid (XOk W11 (.slice A1 n1 c1) L s1 f1) := Lib.hid (by rw [hW11]; exact OX_21.out)
    have OY_22 : Hid (XOk W11 (.slice B1 m1 d1) M t1 g1) := Lib.hid (by rw [hW11]; exact OY_21.out)
    have OZ_22 : Hid (XOk W11 (.slice C1 l1 e1) N u1 i1) := Lib.hid (by rw [hW11]; exact OZ_21.out)
    clear G_21 X_21 Y_21 Z_21 OX_21 OY_21 OZ_21
    clear hW11
    with_reducible (refine (Kyz.out _ OY_22.out OZ_22.out).mono ?_)
    rintro _ w11 ⟨rfl, b11⟩
    have G_23 := Lib.hid (bthen G_22.out b11)
    have X_23 := Lib.hid (X_22.out.below b11)
    have Y_23 := Lib.hid (Y_22.out.below b11)
    have Z_23 := Lib.hid (Z_22.out.below b11)
    have OX_23 := Lib.hid (OX_22.out.below b11)
    have OY_23 := Lib.hid (OY_22.out.below b11)
    have OZ_23 := Lib.hid (OZ_22.out.below b11)
    clear G_22 X_22 Y_22 Z_22 OX_22 OY_22 OZ_22
    clear b11
    obtain ⟨q19a, q19b, q19c, q19d, q19e, q19f, q19g, q19h, q19i, q19j⟩ := X_23.out.cells
    obtain ⟨q20a, q20b, q20c, q20d, q20e, q20f, q20g, q20h, q20i, q20j⟩ := Y_23.out.cells
    obtain ⟨q21a, q21b, q21c, q21d, q21e, q21f, q21g, q21h, q21i, q21j⟩ := Z_23.out.cells
    go_wp2_with fail
    refine at_world ?_
    intro W12 hW12
    clear q19a q19b q19c q19d q19e q19f q19g q19h q19i q19j q20a q20b q20c q20d q20e q20f q20g q20h q20i q20j q21a q21b q21c q21d q21e q21f q21g q21h q21i q21j
    have G_24 : Hid (Below w.heap.size w W12) := Lib.hid (by rw [hW12]; exact G_23.out)
    have X_24 : Hid (XB W12 w.heap.size na (.slice A1 n1 c1) s1 f1) := Lib.hid (by rw [hW12]; exact X_23.out)
    have Y_24 : Hid (XB W12 (w.heap.size + 1) nb (.slice B1 m1 d1) t1 g1) := Lib.hid (by rw [hW12]; exact Y_23.out)
    have Z_24 : Hid (XB W12 (w.heap.size + 1 + 1) nc (.slice C1 l1 e1) u1 i1) := Lib.hid (by rw [hW12]; exact Z_23.out)
    have OX_24 : Hid (XOk W12 (.slice A1 n1 c1) L s1 f1) := Lib.hid (by rw [hW12]; exact OX_23.out)
    have OY_24 : Hid (XOk W12 (.slice B1 m1 d1) M t1 g1) := Lib.hid (by rw [hW12]; exact OY_23.out)
    have OZ_24 : Hid (XOk W12 (.slice C1 l1 e1) N u1 i1) := Lib.hid (by rw [hW12]; exact OZ_23.out)
    clear G_23 X_23 Y_23 Z_23 OX_23 OY_23 OZ_23
    clear hW12
    with_reducible (refine (Spq.out _ OX_24.out OY_24.out).mono ?_)
    rintro _ w12 ⟨rfl, b12⟩
    have G_25 := Lib.hid (bthen G_24.out b12)
    have X_25 := Lib.hid (X_24.out.below b12)
    have Y_25 := Lib.hid (Y_24.out.below b12)
    have Z_25 := Lib.hid (Z_24.out.below b12)
    have OX_25 := Lib.hid (OX_24.out.below b12)
    have OY_25 := Lib.hid (OY_24.out.below b12)
    have OZ_25 := Lib.hid (OZ_24.out.below b12)
    clear G_24 X_24 Y_24 Z_24 OX_24 OY_24 OZ_24
    clear b12
    obtain ⟨q22a, q22b, q22c, q22d, q22e, q22f, q22g, q22h, q22i, q22j⟩ := X_25.out.cells
    obtain ⟨q23a, q23b, q23c, q23d, q23e, q23f, q23g, q23h, q23i, q23j⟩ := Y_25.out.cells
    obtain ⟨q24a, q24b, q24c, q24d, q24e, q24f, q24g, q24h, q24i, q24j⟩ := Z_25.out.cells
    go_wp2_with fail
    refine at_world ?_
    intro W13 hW13
    clear q22a q22b q22c q22d q22e q22f q22g q22h q22i q22j q23a q23b q23c q23d q23e q23f q23g q23h q23i q23j q24a q24b q24c q24d q24e q24f q24g q24h q24i q24j
    have G_26 : Hid (Below w.heap.size w W13) := Lib.hid (by rw [hW13]; exact G_25.out)
    have X_26 : Hid (XB W13 w.heap.size na (.slice A1 n1 c1) s1 f1) := Lib.hid (by rw [hW13]; exact X_25.out)
    have Y_26 : Hid (XB W13 (w.heap.size + 1) nb (.slice B1 m1 d1) t1 g1) := Lib.hid (by rw [hW13]; exact Y_25.out)
    have Z_26 : Hid (XB W13 (w.heap.size + 1 + 1) nc (.slice C1 l1 e1) u1 i1) := Lib.hid (by rw [hW13]; exact Z_25.out)
    have OX_26 : Hid (XOk W13 (.slice A1 n1 c1) L s1 f1) := Lib.hid (by rw [hW13]; exact OX_25.out)
    have OY_26 : Hid (XOk W13 (.slice B1 m1 d1) M t1 g1) := Lib.hid (by rw [hW13]; exact OY_25.out)
    have OZ_26 : Hid (XOk W13 (.slice C1 l1 e1) N u1 i1) := Lib.hid (by rw [hW13]; exact OZ_25.out)
    clear G_25 X_25 Y_25 Z_25 OX_25 OY_25 OZ_25
    clear hW13
    with_reducible (refine (Sqr.out _ OY_26.out OZ_26.out).mono ?_)
    rintro _ w13 ⟨rfl, b13⟩
    have G_27 := Lib.hid (bthen G_26.out b13)
    have X_27 := Lib.hid (X_26.out.below b13)
    have Y_27 := Lib.hid (Y_26.out.below b13)
    have Z_27 := Lib.hid (Z_26.out.below b13)
    have OX_27 := Lib.hid (OX_26.out.below b13)
    have OY_27 := Lib.hid (OY_26.out.below b13)
    have OZ_27 := Lib.hid (OZ_26.out.below b13)
    clear G_26 X_26 Y_26 Z_26 OX_26 OY_26 OZ_26
    clear b13
    obtain ⟨q25a, q25b, q25c, q25d, q25e, q25f, q25g, q25h, q25i, q25j⟩ := X_27.out.cells
    obtain ⟨q26a, q26b, q26c, q26d, q26e, q26f, q26g, q26h, q26i, q26j⟩ := Y_27.out.cells
    obtain ⟨q27a, q27b, q27c, q27d, q27e, q27f, q27g, q27h, q27i, q27j⟩ := Z_27.out.cells
    go_wp2_with fail
    refine at_world ?_
    intro W14 hW14
    clear q25a q25b q25c q25d q25e q25f q25g q25h q25i q25j q26a q26b q26c q26d q26e q26f q26g q26h q26i q26j q27a q27b q27c q27d q27e q27f q27g q27h q27i q27j
    have G_28 : Hid (Below w.heap.size w W14) := Lib.hid (by rw [hW14]; exact G_27.out)
    have X_28 : Hid (XB W14 w.heap.size na (.slice A1 n1 c1) s1 f1) := Lib.hid (by rw [hW14]; exact X_27.out)
    have Y_28 : Hid (XB W14 (w.heap.size + 1) nb (.slice B1 m1 d1) t1 g1) := Lib.hid (by rw [hW14]; exact Y_27.out)
    have Z_28 : Hid (XB W14 (w.heap.size + 1 + 1) nc (.slice C1 l1 e1) u1 i1) := Lib.hid (by rw [hW14]; exact Z_27.out)
    have OX_28 : Hid (XOk W14 (.slice A1 n1 c1) L s1 f1) := Lib.hid (by rw [hW14]; exact OX_27.out)
    have OY_28 : Hid (XOk W14 (.slice B1 m1 d1) M t1 g1) := Lib.hid (by rw [hW14]; exact OY_27.out)
    have OZ_28 : Hid (XOk W14 (.slice C1 l1 e1) N u1 i1) := Lib.hid (by rw [hW14]; exact OZ_27.out)
    clear G_27 X_27 Y_27 Z_27 OX_27 OY_27 OZ_27
    clear hW14
    with_reducible (refine (Spr.out _ OX_28.out OZ_28.out).mono ?_)
    rintro _ w14 ⟨rfl, b14⟩
    have G_29 := Lib.hid (bthen G_28.out b14)
    have X_29 := Lib.hid (X_28.out.below b14)
    have Y_29 := Lib.hid (Y_28.out.below b14)
    have Z_29 := Lib.hid (Z_28.out.below b14)
    have OX_29 := Lib.hid (OX_28.out.below b14)
    have OY_29 := Lib.hid (OY_28.out.below b14)
    have OZ_29 := Lib.hid (OZ_28.out.below b14)
    clear G_28 X_28 Y_28 Z_28 OX_28 OY_28 OZ_28
    clear b14
    obtain ⟨q28a, q28b, q28c, q28d, q28e, q28f, q28g, q28h, q28i, q28j⟩ := X_29.out.cells
    obtain ⟨q29a, q29b, q29c, q29d, q29e, q29f, q29g, q29h, q29i, q29j⟩ := Y_29.out.cells
    obtain ⟨q30a, q30b, q30c, q30d, q30e, q30f, q30g, q30h, q30i, q30j⟩ := Z_29.out.cells
    go_wp2_with fail
    refine at_code ?_
    intro W6 hW6
    clear q28a q28b q28c q28d q28e q28f q28g q28h q28i q28j q29a q29b q29c q29d q29e q29f q29g q29h q29i q29j q30a q30b q30c q30d q30e q30f q30g q30h q30i q30j
    have G_30 : Hid (Below w.heap.size w W6) := Lib.hid (by rw [hW6]; exact (bgrow (bgrow G_29.out _) _))
    have X_30 : Hid (XB W6 w.heap.size na (.slice A1 n1 c1) s1 f1) := Lib.hid (by rw [hW6]; exact ((X_29.out.alloc _).alloc _))
    have Y_30 : Hid (XB W6 (w.heap.size + 1) nb (.slice B1 m1 d1) t1 g1) := Lib.hid (by rw [hW6]; exact ((Y_29.out.alloc _).alloc _))
    have Z_30 : Hid (XB W6 (w.heap.size + 1 + 1) nc (.slice C1 l1 e1) u1 i1) := Lib.hid (by rw [hW6]; exact ((Z_29.out.alloc _).alloc _))
    have OX_30 : Hid (XOk W6 (.slice A1 n1 c1) L s1 f1) := Lib.hid (by rw [hW6]; exact ((OX_29.out.alloc _).alloc _))
    have OY_30 : Hid (XOk W6 (.slice B1 m1 d1) M t1 g1) := Lib.hid (by rw [hW6]; exact ((OY_29.out.alloc _).alloc _))
    have OZ_30 : Hid (XOk W6 (.slice C1 l1 e1) N u1 i1) := Lib.hid (by rw [hW6]; exact ((OZ_29.out.alloc _).alloc _))
    clear G_29 X_29 Y_29 Z_29 OX_29 OY_29 OZ_29
    have P_31 : Hid (XB W6 w14.heap.size (!na) (.slice A1 n1 c1) s1 f1) := Lib.hid (by rw [hW6]; exact (XB.new w14 (!na) (.slice A1 n1 c1) s1 f1).alloc _)
    have Q_32 : Hid (XB W6 (w14.heap.size + 1) (!nb) (.slice B1 m1 d1) t1 g1) := Lib.hid (by rw [hW6]; have hh := XB.new (w14.alloc (.cells #[.bool (!na), (.slice A1 n1 c1), .int .i64 s1, .int .i64 f1] 25)) (!nb) (.slice B1 m1 d1) t1 g1; simpa using hh)
    clear hW6
    have K1_6 : Hid (∀ w', Hid (Below W6.heap.size W6 w') → Hid (Below W6.heap.size W6 w') ∧ (w'.cell? { block := w.heap.size, off := 0 } = some (.bool na) ∧ w'.cell? { block := w.heap.size, off := 1 } = some (.slice A1 n1 c1) ∧ w'.cell? { block := w.heap.size, off := 2 } = some (.int .i64 s1) ∧ w'.cell? { block := w.heap.size, off := 3 } = some (.int .i64 f1)) ∧ (w'.cell? { block := (w.heap.size + 1), off := 0 } = some (.bool nb) ∧ w'.cell? { block := (w.heap.size + 1), off := 1 } = some (.slice B1 m1 d1) ∧ w'.cell? { block := (w.heap.size + 1), off := 2 } = some (.int .i64 t1) ∧ w'.cell? { block := (w.heap.size + 1), off := 3 } = some (.int .i64 g1)) ∧ (w'.cell? { block := w14.heap.size, off := 0 } = some (.bool (!na)) ∧ w'.cell? { block := w14.heap.size, off := 1 } = some (.slice A1 n1 c1) ∧ w'.cell? { block := w14.heap.size, off := 2 } = some (.int .i64 s1) ∧ w'.cell? { block := w14.heap.size, off := 3 } = some (.int .i64 f1)) ∧ (w'.cell? { block := (w14.heap.size + 1), off := 0 } = some (.bool (!nb)) ∧ w'.cell? { block := (w14.heap.size + 1), off := 1 } = some (.slice B1 m1 d1) ∧ w'.cell? { block := (w14.heap.size + 1), off := 2 } = some (.int .i64 t1) ∧ w'.cell? { block := (w14.heap.size + 1), off := 3 } = some (.int .i64 g1))) := Lib.hid (fun w' h => ⟨h, (X_30.out.below h.out).four, (Y_30.out.below h.out).four, (P_31.out.below h.out).four, (Q_32.out.below h.out).four⟩)
    have KS_6 := Lib.hid (fun w1 w2 (h : Hid (Below W6.heap.size W6 w1)) (b : Below w1.heap.size w1 w2) => K1_6.out w2 (hbthen h b))
    have K0_6 := Lib.hid (K1_6.out _ (Lib.hid (bdrewN (Below.refl _ _) 1)))
    go_region_held3 (fun w' => Hid (Below W6.heap.size W6 w') ∧ (w'.cell? { block := w.heap.size, off := 0 } = some (.bool na) ∧ w'.cell? { block := w.heap.size, off := 1 } = some (.slice A1 n1 c1) ∧ w'.cell? { block := w.heap.size, off := 2 } = some (.int .i64 s1) ∧ w'.cell? { block := w.heap.size, off := 3 } = some (.int .i64 f1)) ∧ (w'.cell? { block := (w.heap.size + 1), off := 0 } = some (.bool nb) ∧ w'.cell? { block := (w.heap.size + 1), off := 1 } = some (.slice B1 m1 d1) ∧ w'.cell? { block := (w.heap.size + 1), off := 2 } = some (.int .i64 t1) ∧ w'.cell? { block := (w.heap.size + 1), off := 3 } = some (.int .i64 g1)) ∧ (w'.cell? { block := w14.heap.size, off := 0 } = some (.bool (!na)) ∧ w'.cell? { block := w14.heap.size, off := 1 } = some (.slice A1 n1 c1) ∧ w'.cell? { block := w14.heap.size, off := 2 } = some (.int .i64 s1) ∧ w'.cell? { block := w14.heap.size, off := 3 } = some (.int .i64 f1)) ∧ (w'.cell? { block := (w14.heap.size + 1), off := 0 } = some (.bool (!nb)) ∧ w'.cell? { block := (w14.heap.size + 1), off := 1 } = some (.slice B1 m1 d1) ∧ w'.cell? { block := (w14.heap.size + 1), off := 2 } = some (.int .i64 t1) ∧ w'.cell? { block := (w14.heap.size + 1), off := 3 } = some (.int .i64 g1)))
      (first | exact K0_6.out | exact KS_6.out _ _ (And.left (by assumption)) (by assumption))
      (first | ((go_at_call 28); (with_reducible (refine Calls.mono (Sn.out _ (OX_30.out.below (Hid.out (And.left (by assumption)))) (OY_30.out.below (Hid.out (And.left (by assumption))))) ?_)); (rintro e wz ⟨rfl, ba⟩))
             | ((go_at_call 28); (with_reducible (refine Calls.mono (Sqp.out _ (OY_30.out.below (Hid.out (And.left (by assumption)))) (OX_30.out.below (Hid.out (And.left (by assumption))))) ?_)); (rintro e wz ⟨rfl, ba⟩))
             | ((go_at_call 15); (with_reducible (refine Calls.mono (Kn.out _ (OX_30.out.below (Hid.out (And.left (by assumption)))) (OY_30.out.below (Hid.out (And.left (by assumption))))) ?_)); (rintro e wz ⟨rfl, ba⟩))
             | ((go_at_call 15); (with_reducible (refine Calls.mono (Kxy.out _ (OX_30.out.below (Hid.out (And.left (by assumption)))) (OY_30.out.below (Hid.out (And.left (by assumption))))) ?_)); (rintro e wz ⟨rfl, ba⟩)))
    rename_i hS6
    have b6 := hS6.1.out
    have G_33 := Lib.hid (bthen G_30.out b6)
    have X_33 := Lib.hid (X_30.out.below b6)
    have Y_33 := Lib.hid (Y_30.out.below b6)
    have Z_33 := Lib.hid (Z_30.out.below b6)
    have OX_33 := Lib.hid (OX_30.out.below b6)
    have OY_33 := Lib.hid (OY_30.out.below b6)
    have OZ_33 := Lib.hid (OZ_30.out.below b6)
    have P_33 := Lib.hid (P_31.out.below b6)
    have Q_33 := Lib.hid (Q_32.out.below b6)
    clear G_30 X_30 Y_30 Z_30 OX_30 OY_30 OZ_30 P_31 Q_32
    clear b6 K1_6 KS_6 K0_6
    go_wp2_with fail
    go_ret
    exact ⟨rfl, G_33.out⟩
  · obtain ⟨q13a, q13b, q13c, q13d, q13e, q13f, q13g, q13h, q13i, q13j⟩ := X_19.out.cells
    obtain ⟨q14a, q14b, q14c, q14d, q14e, q14f, q14g, q14h, q14i, q14j⟩ := Y_19.out.cells
    obtain ⟨q15a, q15b, q15c, q15d, q15e, q15f, q15g, q15h, q15i, q15j⟩ := Z_19.out.cells
    go_wp2_with fail
    refine at_world ?_
    intro W10 hW10
    clear q13a q13b q13c q13d q13e q13f q13g q13h q13i q13j q14a q14b q14c q14d q14e q14f q14g q14h q14i q14j q15a q15b q15c q15d q15e q15f q15g q15h q15i q15j
    have G_20 : Hid (Below w.heap.size w W10) := Lib.hid (by rw [hW10]; exact G_19.out)
    have X_20 : Hid (XB W10 w.heap.size na (.slice A1 n1 c1) s1 f1) := Lib.hid (by rw [hW10]; exact X_19.out)
    have Y_20 : Hid (XB W10 (w.heap.size + 1) nb (.slice B1 m1 d1) t1 g1) := Lib.hid (by rw [hW10]; exact Y_19.out)
    have Z_20 : Hid (XB W10 (w.heap.size + 1 + 1) nc (.slice C1 l1 e1) u1 i1) := Lib.hid (by rw [hW10]; exact Z_19.out)
    have OX_20 : Hid (XOk W10 (.slice A1 n1 c1) L s1 f1) := Lib.hid (by rw [hW10]; exact OX_19.out)
    have OY_20 : Hid (XOk W10 (.slice B1 m1 d1) M t1 g1) := Lib.hid (by rw [hW10]; exact OY_19.out)
    have OZ_20 : Hid (XOk W10 (.slice C1 l1 e1) N u1 i1) := Lib.hid (by rw [hW10]; exact OZ_19.out)
    clear G_19 X_19 Y_19 Z_19 OX_19 OY_19 OZ_19
    clear hW10
    with_reducible (refine (Kxy.out _ OX_20.out OY_20.out).mono ?_)
    rintro _ w10 ⟨rfl, b10⟩
    have G_21 := Lib.hid (bthen G_20.out b10)
    have X_21 := Lib.hid (X_20.out.below b10)
    have Y_21 := Lib.hid (Y_20.out.below b10)
    have Z_21 := Lib.hid (Z_20.out.below b10)
    have OX_21 := Lib.hid (OX_20.out.below b10)
    have OY_21 := Lib.hid (OY_20.out.below b10)
    have OZ_21 := Lib.hid (OZ_20.out.below b10)
    clear G_20 X_20 Y_20 Z_20 OX_20 OY_20 OZ_20
    clear b10
    obtain ⟨q16a, q16b, q16c, q16d, q16e, q16f, q16g, q16h, q16i, q16j⟩ := X_21.out.cells
    obtain ⟨q17a, q17b, q17c, q17d, q17e, q17f, q17g, q17h, q17i, q17j⟩ := Y_21.out.cells
    obtain ⟨q18a, q18b, q18c, q18d, q18e, q18f, q18g, q18h, q18i, q18j⟩ := Z_21.out.cells
    go_wp2_with fail
    refine at_world ?_
    intro W11 hW11
    clear q16a q16b q16c q16d q16e q16f q16g q16h q16i q16j q17a q17b q17c q17d q17e q17f q17g q17h q17i q17j q18a q18b q18c q18d q18e q18f q18g q18h q18i q18j
    have G_22 : Hid (Below w.heap.size w W11) := Lib.hid (by rw [hW11]; exact G_21.out)
    have X_22 : Hid (XB W11 w.heap.size na (.slice A1 n1 c1) s1 f1) := Lib.hid (by rw [hW11]; exact X_21.out)
    have Y_22 : Hid (XB W11 (w.heap.size + 1) nb (.slice B1 m1 d1) t1 g1) := Lib.hid (by rw [hW11]; exact Y_21.out)
    have Z_22 : Hid (XB W11 (w.heap.size + 1 + 1) nc (.slice C1 l1 e1) u1 i1) := Lib.hid (by rw [hW11]; exact Z_21.out)
    have OX_22 : Hid (XOk W11 (.slice A1 n1 c1) L s1 f1) := Lib.hid (by rw [hW11]; exact OX_21.out)
    have OY_22 : Hid (XOk W11 (.slice B1 m1 d1) M t1 g1) := Lib.hid (by rw [hW11]; exact OY_21.out)
    have OZ_22 : Hid (XOk W11 (.slice C1 l1 e1) N u1 i1) := Lib.hid (by rw [hW11]; exact OZ_21.out)
    clear G_21 X_21 Y_21 Z_21 OX_21 OY_21 OZ_21
    clear hW11
    with_reducible (refine (Kyz.out _ OY_22.out OZ_22.out).mono ?_)
    rintro _ w11 ⟨rfl, b11⟩
    have G_23 := Lib.hid (bthen G_22.out b11)
    have X_23 := Lib.hid (X_22.out.below b11)
    have Y_23 := Lib.hid (Y_22.out.below b11)
    have Z_23 := Lib.hid (Z_22.out.below b11)
    have OX_23 := Lib.hid (OX_22.out.below b11)
    have OY_23 := Lib.hid (OY_22.out.below b11)
    have OZ_23 := Lib.hid (OZ_22.out.below b11)
    clear G_22 X_22 Y_22 Z_22 OX_22 OY_22 OZ_22
    clear b11
    obtain ⟨q19a, q19b, q19c, q19d, q19e, q19f, q19g, q19h, q19i, q19j⟩ := X_23.out.cells
    obtain ⟨q20a, q20b, q20c, q20d, q20e, q20f, q20g, q20h, q20i, q20j⟩ := Y_23.out.cells
    obtain ⟨q21a, q21b, q21c, q21d, q21e, q21f, q21g, q21h, q21i, q21j⟩ := Z_23.out.cells
    go_wp2_with fail
    refine at_world ?_
    intro W12 hW12
    clear q19a q19b q19c q19d q19e q19f q19g q19h q19i q19j q20a q20b q20c q20d q20e q20f q20g q20h q20i q20j q21a q21b q21c q21d q21e q21f q21g q21h q21i q21j
    have G_24 : Hid (Below w.heap.size w W12) := Lib.hid (by rw [hW12]; exact G_23.out)
    have X_24 : Hid (XB W12 w.heap.size na (.slice A1 n1 c1) s1 f1) := Lib.hid (by rw [hW12]; exact X_23.out)
    have Y_24 : Hid (XB W12 (w.heap.size + 1) nb (.slice B1 m1 d1) t1 g1) := Lib.hid (by rw [hW12]; exact Y_23.out)
    have Z_24 : Hid (XB W12 (w.heap.size + 1 + 1) nc (.slice C1 l1 e1) u1 i1) := Lib.hid (by rw [hW12]; exact Z_23.out)
    have OX_24 : Hid (XOk W12 (.slice A1 n1 c1) L s1 f1) := Lib.hid (by rw [hW12]; exact OX_23.out)
    have OY_24 : Hid (XOk W12 (.slice B1 m1 d1) M t1 g1) := Lib.hid (by rw [hW12]; exact OY_23.out)
    have OZ_24 : Hid (XOk W12 (.slice C1 l1 e1) N u1 i1) := Lib.hid (by rw [hW12]; exact OZ_23.out)
    clear G_23 X_23 Y_23 Z_23 OX_23 OY_23 OZ_23
    clear hW12
    with_reducible (refine (Kxz.out _ OX_24.out OZ_24.out).mono ?_)
    rintro _ w12 ⟨rfl, b12⟩
    have G_25 := Lib.hid (bthen G_24.out b12)
    have X_25 := Lib.hid (X_24.out.below b12)
    have Y_25 := Lib.hid (Y_24.out.below b12)
    have Z_25 := Lib.hid (Z_24.out.below b12)
    have OX_25 := Lib.hid (OX_24.out.below b12)
    have OY_25 := Lib.hid (OY_24.out.below b12)
    have OZ_25 := Lib.hid (OZ_24.out.below b12)
    clear G_24 X_24 Y_24 Z_24 OX_24 OY_24 OZ_24
    clear b12
    obtain ⟨q22a, q22b, q22c, q22d, q22e, q22f, q22g, q22h, q22i, q22j⟩ := X_25.out.cells
    obtain ⟨q23a, q23b, q23c, q23d, q23e, q23f, q23g, q23h, q23i, q23j⟩ := Y_25.out.cells
    obtain ⟨q24a, q24b, q24c, q24d, q24e, q24f, q24g, q24h, q24i, q24j⟩ := Z_25.out.cells
    go_wp2_with fail
    refine at_world ?_
    intro W13 hW13
    clear q22a q22b q22c q22d q22e q22f q22g q22h q22i q22j q23a q23b q23c q23d q23e q23f q23g q23h q23i q23j q24a q24b q24c q24d q24e q24f q24g q24h q24i q24j
    have G_26 : Hid (Below w.heap.size w W13) := Lib.hid (by rw [hW13]; exact G_25.out)
    have X_26 : Hid (XB W13 w.heap.size na (.slice A1 n1 c1) s1 f1) := Lib.hid (by rw [hW13]; exact X_25.out)
    have Y_26 : Hid (XB W13 (w.heap.size + 1) nb (.slice B1 m1 d1) t1 g1) := Lib.hid (by rw [hW13]; exact Y_25.out)
    have Z_26 : Hid (XB W13 (w.heap.size + 1 + 1) nc (.slice C1 l1 e1) u1 i1) := Lib.hid (by rw [hW13]; exact Z_25.out)
    have OX_26 : Hid (XOk W13 (.slice A1 n1 c1) L s1 f1) := Lib.hid (by rw [hW13]; exact OX_25.out)
    have OY_26 : Hid (XOk W13 (.slice B1 m1 d1) M t1 g1) := Lib.hid (by rw [hW13]; exact OY_25.out)
    have OZ_26 : Hid (XOk W13 (.slice C1 l1 e1) N u1 i1) := Lib.hid (by rw [hW13]; exact OZ_25.out)
    clear G_25 X_25 Y_25 Z_25 OX_25 OY_25 OZ_25
    clear hW13
    with_reducible (refine (Spq.out _ OX_26.out OY_26.out).mono ?_)
    rintro _ w13 ⟨rfl, b13⟩
    have G_27 := Lib.hid (bthen G_26.out b13)
    have X_27 := Lib.hid (X_26.out.below b13)
    have Y_27 := Lib.hid (Y_26.out.below b13)
    have Z_27 := Lib.hid (Z_26.out.below b13)
    have OX_27 := Lib.hid (OX_26.out.below b13)
    have OY_27 := Lib.hid (OY_26.out.below b13)
    have OZ_27 := Lib.hid (OZ_26.out.below b13)
    clear G_26 X_26 Y_26 Z_26 OX_26 OY_26 OZ_26
    clear b13
    obtain ⟨q25a, q25b, q25c, q25d, q25e, q25f, q25g, q25h, q25i, q25j⟩ := X_27.out.cells
    obtain ⟨q26a, q26b, q26c, q26d, q26e, q26f, q26g, q26h, q26i, q26j⟩ := Y_27.out.cells
    obtain ⟨q27a, q27b, q27c, q27d, q27e, q27f, q27g, q27h, q27i, q27j⟩ := Z_27.out.cells
    go_wp2_with fail
    refine at_code ?_
    intro W6 hW6
    clear q25a q25b q25c q25d q25e q25f q25g q25h q25i q25j q26a q26b q26c q26d q26e q26f q26g q26h q26i q26j q27a q27b q27c q27d q27e q27f q27g q27h q27i q27j
    have G_28 : Hid (Below w.heap.size w W6) := Lib.hid (by rw [hW6]; exact (bgrow (bgrow G_27.out _) _))
    have X_28 : Hid (XB W6 w.heap.size na (.slice A1 n1 c1) s1 f1) := Lib.hid (by rw [hW6]; exact ((X_27.out.alloc _).alloc _))
    have Y_28 : Hid (XB W6 (w.heap.size + 1) nb (.slice B1 m1 d1) t1 g1) := Lib.hid (by rw [hW6]; exact ((Y_27.out.alloc _).alloc _))
    have Z_28 : Hid (XB W6 (w.heap.size + 1 + 1) nc (.slice C1 l1 e1) u1 i1) := Lib.hid (by rw [hW6]; exact ((Z_27.out.alloc _).alloc _))
    have OX_28 : Hid (XOk W6 (.slice A1 n1 c1) L s1 f1) := Lib.hid (by rw [hW6]; exact ((OX_27.out.alloc _).alloc _))
    have OY_28 : Hid (XOk W6 (.slice B1 m1 d1) M t1 g1) := Lib.hid (by rw [hW6]; exact ((OY_27.out.alloc _).alloc _))
    have OZ_28 : Hid (XOk W6 (.slice C1 l1 e1) N u1 i1) := Lib.hid (by rw [hW6]; exact ((OZ_27.out.alloc _).alloc _))
    clear G_27 X_27 Y_27 Z_27 OX_27 OY_27 OZ_27
    have P_29 : Hid (XB W6 w13.heap.size (!na) (.slice A1 n1 c1) s1 f1) := Lib.hid (by rw [hW6]; exact (XB.new w13 (!na) (.slice A1 n1 c1) s1 f1).alloc _)
    have Q_30 : Hid (XB W6 (w13.heap.size + 1) (!nb) (.slice B1 m1 d1) t1 g1) := Lib.hid (by rw [hW6]; have hh := XB.new (w13.alloc (.cells #[.bool (!na), (.slice A1 n1 c1), .int .i64 s1, .int .i64 f1] 25)) (!nb) (.slice B1 m1 d1) t1 g1; simpa using hh)
    clear hW6
    have K1_6 : Hid (∀ w', Hid (Below W6.heap.size W6 w') → Hid (Below W6.heap.size W6 w') ∧ (w'.cell? { block := w.heap.size, off := 0 } = some (.bool na) ∧ w'.cell? { block := w.heap.size, off := 1 } = some (.slice A1 n1 c1) ∧ w'.cell? { block := w.heap.size, off := 2 } = some (.int .i64 s1) ∧ w'.cell? { block := w.heap.size, off := 3 } = some (.int .i64 f1)) ∧ (w'.cell? { block := (w.heap.size + 1), off := 0 } = some (.bool nb) ∧ w'.cell? { block := (w.heap.size + 1), off := 1 } = some (.slice B1 m1 d1) ∧ w'.cell? { block := (w.heap.size + 1), off := 2 } = some (.int .i64 t1) ∧ w'.cell? { block := (w.heap.size + 1), off := 3 } = some (.int .i64 g1)) ∧ (w'.cell? { block := w13.heap.size, off := 0 } = some (.bool (!na)) ∧ w'.cell? { block := w13.heap.size, off := 1 } = some (.slice A1 n1 c1) ∧ w'.cell? { block := w13.heap.size, off := 2 } = some (.int .i64 s1) ∧ w'.cell? { block := w13.heap.size, off := 3 } = some (.int .i64 f1)) ∧ (w'.cell? { block := (w13.heap.size + 1), off := 0 } = some (.bool (!nb)) ∧ w'.cell? { block := (w13.heap.size + 1), off := 1 } = some (.slice B1 m1 d1) ∧ w'.cell? { block := (w13.heap.size + 1), off := 2 } = some (.int .i64 t1) ∧ w'.cell? { block := (w13.heap.size + 1), off := 3 } = some (.int .i64 g1))) := Lib.hid (fun w' h => ⟨h, (X_28.out.below h.out).four, (Y_28.out.below h.out).four, (P_29.out.below h.out).four, (Q_30.out.below h.out).four⟩)
    have KS_6 := Lib.hid (fun w1 w2 (h : Hid (Below W6.heap.size W6 w1)) (b : Below w1.heap.size w1 w2) => K1_6.out w2 (hbthen h b))
    have K0_6 := Lib.hid (K1_6.out _ (Lib.hid (bdrewN (Below.refl _ _) 1)))
    go_region_held3 (fun w' => Hid (Below W6.heap.size W6 w') ∧ (w'.cell? { block := w.heap.size, off := 0 } = some (.bool na) ∧ w'.cell? { block := w.heap.size, off := 1 } = some (.slice A1 n1 c1) ∧ w'.cell? { block := w.heap.size, off := 2 } = some (.int .i64 s1) ∧ w'.cell? { block := w.heap.size, off := 3 } = some (.int .i64 f1)) ∧ (w'.cell? { block := (w.heap.size + 1), off := 0 } = some (.bool nb) ∧ w'.cell? { block := (w.heap.size + 1), off := 1 } = some (.slice B1 m1 d1) ∧ w'.cell? { block := (w.heap.size + 1), off := 2 } = some (.int .i64 t1) ∧ w'.cell? { block := (w.heap.size + 1), off := 3 } = some (.int .i64 g1)) ∧ (w'.cell? { block := w13.heap.size, off := 0 } = some (.bool (!na)) ∧ w'.cell? { block := w13.heap.size, off := 1 } = some (.slice A1 n1 c1) ∧ w'.cell? { block := w13.heap.size, off := 2 } = some (.int .i64 s1) ∧ w'.cell? { block := w13.heap.size, off := 3 } = some (.int .i64 f1)) ∧ (w'.cell? { block := (w13.heap.size + 1), off := 0 } = some (.bool (!nb)) ∧ w'.cell? { block := (w13.heap.size + 1), off := 1 } = some (.slice B1 m1 d1) ∧ w'.cell? { block := (w13.heap.size + 1), off := 2 } = some (.int .i64 t1) ∧ w'.cell? { block := (w13.heap.size + 1), off := 3 } = some (.int .i64 g1)))
      (first | exact K0_6.out | exact KS_6.out _ _ (And.left (by assumption)) (by assumption))
      (first | ((go_at_call 28); (with_reducible (refine Calls.mono (Sn.out _ (OX_28.out.below (Hid.out (And.left (by assumption)))) (OY_28.out.below (Hid.out (And.left (by assumption))))) ?_)); (rintro e wz ⟨rfl, ba⟩))
             | ((go_at_call 28); (with_reducible (refine Calls.mono (Sqp.out _ (OY_28.out.below (Hid.out (And.left (by assumption)))) (OX_28.out.below (Hid.out (And.left (by assumption))))) ?_)); (rintro e wz ⟨rfl, ba⟩))
             | ((go_at_call 15); (with_reducible (refine Calls.mono (Kn.out _ (OX_28.out.below (Hid.out (And.left (by assumption)))) (OY_28.out.below (Hid.out (And.left (by assumption))))) ?_)); (rintro e wz ⟨rfl, ba⟩))
             | ((go_at_call 15); (with_reducible (refine Calls.mono (Kxy.out _ (OX_28.out.below (Hid.out (And.left (by assumption)))) (OY_28.out.below (Hid.out (And.left (by assumption))))) ?_)); (rintro e wz ⟨rfl, ba⟩)))
    rename_i hS6
    have b6 := hS6.1.out
    have G_31 := Lib.hid (bthen G_28.out b6)
    have X_31 := Lib.hid (X_28.out.below b6)
    have Y_31 := Lib.hid (Y_28.out.below b6)
    have Z_31 := Lib.hid (Z_28.out.below b6)
    have OX_31 := Lib.hid (OX_28.out.below b6)
    have OY_31 := Lib.hid (OY_28.out.below b6)
    have OZ_31 := Lib.hid (OZ_28.out.below b6)
    have P_31 := Lib.hid (P_29.out.below b6)
    have Q_31 := Lib.hid (Q_30.out.below b6)
    clear G_28 X_28 Y_28 Z_28 OX_28 OY_28 OZ_28 P_29 Q_30
    clear b6 K1_6 KS_6 K0_6
    go_wp2_with fail
    go_ret
    exact ⟨rfl, G_31.out⟩
  · obtain ⟨q13a, q13b, q13c, q13d, q13e, q13f, q13g, q13h, q13i, q13j⟩ := X_19.out.cells
    obtain ⟨q14a, q14b, q14c, q14d, q14e, q14f, q14g, q14h, q14i, q14j⟩ := Y_19.out.cells
    obtain ⟨q15a, q15b, q15c, q15d, q15e, q15f, q15g, q15h, q15i, q15j⟩ := Z_19.out.cells
    go_wp2_with fail
    refine at_world ?_
    intro W10 hW10
    clear q13a q13b q13c q13d q13e q13f q13g q13h q13i q13j q14a q14b q14c q14d q14e q14f q14g q14h q14i q14j q15a q15b q15c q15d q15e q15f q15g q15h q15i q15j
    have G_20 : Hid (Below w.heap.size w W10) := Lib.hid (by rw [hW10]; exact G_19.out)
    have X_20 : Hid (XB W10 w.heap.size na (.slice A1 n1 c1) s1 f1) := Lib.hid (by rw [hW10]; exact X_19.out)
    have Y_20 : Hid (XB W10 (w.heap.size + 1) nb (.slice B1 m1 d1) t1 g1) := Lib.hid (by rw [hW10]; exact Y_19.out)
    have Z_20 : Hid (XB W10 (w.heap.size + 1 + 1) nc (.slice C1 l1 e1) u1 i1) := Lib.hid (by rw [hW10]; exact Z_19.out)
    have OX_20 : Hid (XOk W10 (.slice A1 n1 c1) L s1 f1) := Lib.hid (by rw [hW10]; exact OX_19.out)
    have OY_20 : Hid (XOk W10 (.slice B1 m1 d1) M t1 g1) := Lib.hid (by rw [hW10]; exact OY_19.out)
    have OZ_20 : Hid (XOk W10 (.slice C1 l1 e1) N u1 i1) := Lib.hid (by rw [hW10]; exact OZ_19.out)
    clear G_19 X_19 Y_19 Z_19 OX_19 OY_19 OZ_19
    clear hW10
    with_reducible (refine (Kxy.out _ OX_20.out OY_20.out).mono ?_)
    rintro _ w10 ⟨rfl, b10⟩
    have G_21 := Lib.hid (bthen G_20.out b10)
    have X_21 := Lib.hid (X_20.out.below b10)
    have Y_21 := Lib.hid (Y_20.out.below b10)
    have Z_21 := Lib.hid (Z_20.out.below b10)
    have OX_21 := Lib.hid (OX_20.out.below b10)
    have OY_21 := Lib.hid (OY_20.out.below b10)
    have OZ_21 := Lib.hid (OZ_20.out.below b10)
    clear G_20 X_20 Y_20 Z_20 OX_20 OY_20 OZ_20
    clear b10
    obtain ⟨q16a, q16b, q16c, q16d, q16e, q16f, q16g, q16h, q16i, q16j⟩ := X_21.out.cells
    obtain ⟨q17a, q17b, q17c, q17d, q17e, q17f, q17g, q17h, q17i, q17j⟩ := Y_21.out.cells
    obtain ⟨q18a, q18b, q18c, q18d, q18e, q18f, q18g, q18h, q18i, q18j⟩ := Z_21.out.cells
    go_wp2_with fail
    refine at_world ?_
    intro W11 hW11
    clear q16a q16b q16c q16d q16e q16f q16g q16h q16i q16j q17a q17b q17c q17d q17e q17f q17g q17h q17i q17j q18a q18b q18c q18d q18e q18f q18g q18h q18i q18j
    have G_22 : Hid (Below w.heap.size w W11) := Lib.hid (by rw [hW11]; exact G_21.out)
    have X_22 : Hid (XB W11 w.heap.size na (.slice A1 n1 c1) s1 f1) := Lib.hid (by rw [hW11]; exact X_21.out)
    have Y_22 : Hid (XB W11 (w.heap.size + 1) nb (.slice B1 m1 d1) t1 g1) := Lib.hid (by rw [hW11]; exact Y_21.out)
    have Z_22 : Hid (XB W11 (w.heap.size + 1 + 1) nc (.slice C1 l1 e1) u1 i1) := Lib.hid (by rw [hW11]; exact Z_21.out)
    have OX_22 : Hid (XOk W11 (.slice A1 n1 c1) L s1 f1) := Lib.hid (by rw [hW11]; exact OX_21.out)
    have OY_22 : Hid (XOk W11 (.slice B1 m1 d1) M t1 g1) := Lib.hid (by rw [hW11]; exact OY_21.out)
    have OZ_22 : Hid (XOk W11 (.slice C1 l1 e1) N u1 i1) := Lib.hid (by rw [hW11]; exact OZ_21.out)
    clear G_21 X_21 Y_21 Z_21 OX_21 OY_21 OZ_21
    clear hW11
    with_reducible (refine (Kyz.out _ OY_22.out OZ_22.out).mono ?_)
    rintro _ w11 ⟨rfl, b11⟩
    have G_23 := Lib.hid (bthen G_22.out b11)
    have X_23 := Lib.hid (X_22.out.below b11)
    have Y_23 := Lib.hid (Y_22.out.below b11)
    have Z_23 := Lib.hid (Z_22.out.below b11)
    have OX_23 := Lib.hid (OX_22.out.below b11)
    have OY_23 := Lib.hid (OY_22.out.below b11)
    have OZ_23 := Lib.hid (OZ_22.out.below b11)
    clear G_22 X_22 Y_22 Z_22 OX_22 OY_22 OZ_22
    clear b11
    obtain ⟨q19a, q19b, q19c, q19d, q19e, q19f, q19g, q19h, q19i, q19j⟩ := X_23.out.cells
    obtain ⟨q20a, q20b, q20c, q20d, q20e, q20f, q20g, q20h, q20i, q20j⟩ := Y_23.out.cells
    obtain ⟨q21a, q21b, q21c, q21d, q21e, q21f, q21g, q21h, q21i, q21j⟩ := Z_23.out.cells
    go_wp2_with fail
    refine at_world ?_
    intro W12 hW12
    clear q19a q19b q19c q19d q19e q19f q19g q19h q19i q19j q20a q20b q20c q20d q20e q20f q20g q20h q20i q20j q21a q21b q21c q21d q21e q21f q21g q21h q21i q21j
    have G_24 : Hid (Below w.heap.size w W12) := Lib.hid (by rw [hW12]; exact G_23.out)
    have X_24 : Hid (XB W12 w.heap.size na (.slice A1 n1 c1) s1 f1) := Lib.hid (by rw [hW12]; exact X_23.out)
    have Y_24 : Hid (XB W12 (w.heap.size + 1) nb (.slice B1 m1 d1) t1 g1) := Lib.hid (by rw [hW12]; exact Y_23.out)
    have Z_24 : Hid (XB W12 (w.heap.size + 1 + 1) nc (.slice C1 l1 e1) u1 i1) := Lib.hid (by rw [hW12]; exact Z_23.out)
    have OX_24 : Hid (XOk W12 (.slice A1 n1 c1) L s1 f1) := Lib.hid (by rw [hW12]; exact OX_23.out)
    have OY_24 : Hid (XOk W12 (.slice B1 m1 d1) M t1 g1) := Lib.hid (by rw [hW12]; exact OY_23.out)
    have OZ_24 : Hid (XOk W12 (.slice C1 l1 e1) N u1 i1) := Lib.hid (by rw [hW12]; exact OZ_23.out)
    clear G_23 X_23 Y_23 Z_23 OX_23 OY_23 OZ_23
    clear hW12
    with_reducible (refine (Kxz.out _ OX_24.out OZ_24.out).mono ?_)
    rintro _ w12 ⟨rfl, b12⟩
    have G_25 := Lib.hid (bthen G_24.out b12)
    have X_25 := Lib.hid (X_24.out.below b12)
    have Y_25 := Lib.hid (Y_24.out.below b12)
    have Z_25 := Lib.hid (Z_24.out.below b12)
    have OX_25 := Lib.hid (OX_24.out.below b12)
    have OY_25 := Lib.hid (OY_24.out.below b12)
    have OZ_25 := Lib.hid (OZ_24.out.below b12)
    clear G_24 X_24 Y_24 Z_24 OX_24 OY_24 OZ_24
    clear b12
    obtain ⟨q22a, q22b, q22c, q22d, q22e, q22f, q22g, q22h, q22i, q22j⟩ := X_25.out.cells
    obtain ⟨q23a, q23b, q23c, q23d, q23e, q23f, q23g, q23h, q23i, q23j⟩ := Y_25.out.cells
    obtain ⟨q24a, q24b, q24c, q24d, q24e, q24f, q24g, q24h, q24i, q24j⟩ := Z_25.out.cells
    go_wp2_with fail
    refine at_world ?_
    intro W13 hW13
    clear q22a q22b q22c q22d q22e q22f q22g q22h q22i q22j q23a q23b q23c q23d q23e q23f q23g q23h q23i q23j q24a q24b q24c q24d q24e q24f q24g q24h q24i q24j
    have G_26 : Hid (Below w.heap.size w W13) := Lib.hid (by rw [hW13]; exact G_25.out)
    have X_26 : Hid (XB W13 w.heap.size na (.slice A1 n1 c1) s1 f1) := Lib.hid (by rw [hW13]; exact X_25.out)
    have Y_26 : Hid (XB W13 (w.heap.size + 1) nb (.slice B1 m1 d1) t1 g1) := Lib.hid (by rw [hW13]; exact Y_25.out)
    have Z_26 : Hid (XB W13 (w.heap.size + 1 + 1) nc (.slice C1 l1 e1) u1 i1) := Lib.hid (by rw [hW13]; exact Z_25.out)
    have OX_26 : Hid (XOk W13 (.slice A1 n1 c1) L s1 f1) := Lib.hid (by rw [hW13]; exact OX_25.out)
    have OY_26 : Hid (XOk W13 (.slice B1 m1 d1) M t1 g1) := Lib.hid (by rw [hW13]; exact OY_25.out)
    have OZ_26 : Hid (XOk W13 (.slice C1 l1 e1) N u1 i1) := Lib.hid (by rw [hW13]; exact OZ_25.out)
    clear G_25 X_25 Y_25 Z_25 OX_25 OY_25 OZ_25
    clear hW13
    with_reducible (refine (Spq.out _ OX_26.out OY_26.out).mono ?_)
    rintro _ w13 ⟨rfl, b13⟩
    have G_27 := Lib.hid (bthen G_26.out b13)
    have X_27 := Lib.hid (X_26.out.below b13)
    have Y_27 := Lib.hid (Y_26.out.below b13)
    have Z_27 := Lib.hid (Z_26.out.below b13)
    have OX_27 := Lib.hid (OX_26.out.below b13)
    have OY_27 := Lib.hid (OY_26.out.below b13)
    have OZ_27 := Lib.hid (OZ_26.out.below b13)
    clear G_26 X_26 Y_26 Z_26 OX_26 OY_26 OZ_26
    clear b13
    obtain ⟨q25a, q25b, q25c, q25d, q25e, q25f, q25g, q25h, q25i, q25j⟩ := X_27.out.cells
    obtain ⟨q26a, q26b, q26c, q26d, q26e, q26f, q26g, q26h, q26i, q26j⟩ := Y_27.out.cells
    obtain ⟨q27a, q27b, q27c, q27d, q27e, q27f, q27g, q27h, q27i, q27j⟩ := Z_27.out.cells
    go_wp2_with fail
    refine at_world ?_
    intro W14 hW14
    clear q25a q25b q25c q25d q25e q25f q25g q25h q25i q25j q26a q26b q26c q26d q26e q26f q26g q26h q26i q26j q27a q27b q27c q27d q27e q27f q27g q27h q27i q27j
    have G_28 : Hid (Below w.heap.size w W14) := Lib.hid (by rw [hW14]; exact G_27.out)
    have X_28 : Hid (XB W14 w.heap.size na (.slice A1 n1 c1) s1 f1) := Lib.hid (by rw [hW14]; exact X_27.out)
    have Y_28 : Hid (XB W14 (w.heap.size + 1) nb (.slice B1 m1 d1) t1 g1) := Lib.hid (by rw [hW14]; exact Y_27.out)
    have Z_28 : Hid (XB W14 (w.heap.size + 1 + 1) nc (.slice C1 l1 e1) u1 i1) := Lib.hid (by rw [hW14]; exact Z_27.out)
    have OX_28 : Hid (XOk W14 (.slice A1 n1 c1) L s1 f1) := Lib.hid (by rw [hW14]; exact OX_27.out)
    have OY_28 : Hid (XOk W14 (.slice B1 m1 d1) M t1 g1) := Lib.hid (by rw [hW14]; exact OY_27.out)
    have OZ_28 : Hid (XOk W14 (.slice C1 l1 e1) N u1 i1) := Lib.hid (by rw [hW14]; exact OZ_27.out)
    clear G_27 X_27 Y_27 Z_27 OX_27 OY_27 OZ_27
    clear hW14
    with_reducible (refine (Sqr.out _ OY_28.out OZ_28.out).mono ?_)
    rintro _ w14 ⟨rfl, b14⟩
    have G_29 := Lib.hid (bthen G_28.out b14)
    have X_29 := Lib.hid (X_28.out.below b14)
    have Y_29 := Lib.hid (Y_28.out.below b14)
    have Z_29 := Lib.hid (Z_28.out.below b14)
    have OX_29 := Lib.hid (OX_28.out.below b14)
    have OY_29 := Lib.hid (OY_28.out.below b14)
    have OZ_29 := Lib.hid (OZ_28.out.below b14)
    clear G_28 X_28 Y_28 Z_28 OX_28 OY_28 OZ_28
    clear b14
    obtain ⟨q28a, q28b, q28c, q28d, q28e, q28f, q28g, q28h, q28i, q28j⟩ := X_29.out.cells
    obtain ⟨q29a, q29b, q29c, q29d, q29e, q29f, q29g, q29h, q29i, q29j⟩ := Y_29.out.cells
    obtain ⟨q30a, q30b, q30c, q30d, q30e, q30f, q30g, q30h, q30i, q30j⟩ := Z_29.out.cells
    go_wp2_with fail
    refine at_code ?_
    intro W6 hW6
    clear q28a q28b q28c q28d q28e q28f q28g q28h q28i q28j q29a q29b q29c q29d q29e q29f q29g q29h q29i q29j q30a q30b q30c q30d q30e q30f q30g q30h q30i q30j
    have G_30 : Hid (Below w.heap.size w W6) := Lib.hid (by rw [hW6]; exact (bgrow (bgrow G_29.out _) _))
    have X_30 : Hid (XB W6 w.heap.size na (.slice A1 n1 c1) s1 f1) := Lib.hid (by rw [hW6]; exact ((X_29.out.alloc _).alloc _))
    have Y_30 : Hid (XB W6 (w.heap.size + 1) nb (.slice B1 m1 d1) t1 g1) := Lib.hid (by rw [hW6]; exact ((Y_29.out.alloc _).alloc _))
    have Z_30 : Hid (XB W6 (w.heap.size + 1 + 1) nc (.slice C1 l1 e1) u1 i1) := Lib.hid (by rw [hW6]; exact ((Z_29.out.alloc _).alloc _))
    have OX_30 : Hid (XOk W6 (.slice A1 n1 c1) L s1 f1) := Lib.hid (by rw [hW6]; exact ((OX_29.out.alloc _).alloc _))
    have OY_30 : Hid (XOk W6 (.slice B1 m1 d1) M t1 g1) := Lib.hid (by rw [hW6]; exact ((OY_29.out.alloc _).alloc _))
    have OZ_30 : Hid (XOk W6 (.slice C1 l1 e1) N u1 i1) := Lib.hid (by rw [hW6]; exact ((OZ_29.out.alloc _).alloc _))
    clear G_29 X_29 Y_29 Z_29 OX_29 OY_29 OZ_29
    have P_31 : Hid (XB W6 w14.heap.size (!na) (.slice A1 n1 c1) s1 f1) := Lib.hid (by rw [hW6]; exact (XB.new w14 (!na) (.slice A1 n1 c1) s1 f1).alloc _)
    have Q_32 : Hid (XB W6 (w14.heap.size + 1) (!nb) (.slice B1 m1 d1) t1 g1) := Lib.hid (by rw [hW6]; have hh := XB.new (w14.alloc (.cells #[.bool (!na), (.slice A1 n1 c1), .int .i64 s1, .int .i64 f1] 25)) (!nb) (.slice B1 m1 d1) t1 g1; simpa using hh)
    clear hW6
    have K1_6 : Hid (∀ w', Hid (Below W6.heap.size W6 w') → Hid (Below W6.heap.size W6 w') ∧ (w'.cell? { block := w.heap.size, off := 0 } = some (.bool na) ∧ w'.cell? { block := w.heap.size, off := 1 } = some (.slice A1 n1 c1) ∧ w'.cell? { block := w.heap.size, off := 2 } = some (.int .i64 s1) ∧ w'.cell? { block := w.heap.size, off := 3 } = some (.int .i64 f1)) ∧ (w'.cell? { block := (w.heap.size + 1), off := 0 } = some (.bool nb) ∧ w'.cell? { block := (w.heap.size + 1), off := 1 } = some (.slice B1 m1 d1) ∧ w'.cell? { block := (w.heap.size + 1), off := 2 } = some (.int .i64 t1) ∧ w'.cell? { block := (w.heap.size + 1), off := 3 } = some (.int .i64 g1)) ∧ (w'.cell? { block := w14.heap.size, off := 0 } = some (.bool (!na)) ∧ w'.cell? { block := w14.heap.size, off := 1 } = some (.slice A1 n1 c1) ∧ w'.cell? { block := w14.heap.size, off := 2 } = some (.int .i64 s1) ∧ w'.cell? { block := w14.heap.size, off := 3 } = some (.int .i64 f1)) ∧ (w'.cell? { block := (w14.heap.size + 1), off := 0 } = some (.bool (!nb)) ∧ w'.cell? { block := (w14.heap.size + 1), off := 1 } = some (.slice B1 m1 d1) ∧ w'.cell? { block := (w14.heap.size + 1), off := 2 } = some (.int .i64 t1) ∧ w'.cell? { block := (w14.heap.size + 1), off := 3 } = some (.int .i64 g1))) := Lib.hid (fun w' h => ⟨h, (X_30.out.below h.out).four, (Y_30.out.below h.out).four, (P_31.out.below h.out).four, (Q_32.out.below h.out).four⟩)
    have KS_6 := Lib.hid (fun w1 w2 (h : Hid (Below W6.heap.size W6 w1)) (b : Below w1.heap.size w1 w2) => K1_6.out w2 (hbthen h b))
    have K0_6 := Lib.hid (K1_6.out _ (Lib.hid (bdrewN (Below.refl _ _) 1)))
    go_region_held3 (fun w' => Hid (Below W6.heap.size W6 w') ∧ (w'.cell? { block := w.heap.size, off := 0 } = some (.bool na) ∧ w'.cell? { block := w.heap.size, off := 1 } = some (.slice A1 n1 c1) ∧ w'.cell? { block := w.heap.size, off := 2 } = some (.int .i64 s1) ∧ w'.cell? { block := w.heap.size, off := 3 } = some (.int .i64 f1)) ∧ (w'.cell? { block := (w.heap.size + 1), off := 0 } = some (.bool nb) ∧ w'.cell? { block := (w.heap.size + 1), off := 1 } = some (.slice B1 m1 d1) ∧ w'.cell? { block := (w.heap.size + 1), off := 2 } = some (.int .i64 t1) ∧ w'.cell? { block := (w.heap.size + 1), off := 3 } = some (.int .i64 g1)) ∧ (w'.cell? { block := w14.heap.size, off := 0 } = some (.bool (!na)) ∧ w'.cell? { block := w14.heap.size, off := 1 } = some (.slice A1 n1 c1) ∧ w'.cell? { block := w14.heap.size, off := 2 } = some (.int .i64 s1) ∧ w'.cell? { block := w14.heap.size, off := 3 } = some (.int .i64 f1)) ∧ (w'.cell? { block := (w14.heap.size + 1), off := 0 } = some (.bool (!nb)) ∧ w'.cell? { block := (w14.heap.size + 1), off := 1 } = some (.slice B1 m1 d1) ∧ w'.cell? { block := (w14.heap.size + 1), off := 2 } = some (.int .i64 t1) ∧ w'.cell? { block := (w14.heap.size + 1), off := 3 } = some (.int .i64 g1)))
      (first | exact K0_6.out | exact KS_6.out _ _ (And.left (by assumption)) (by assumption))
      (first | ((go_at_call 28); (with_reducible (refine Calls.mono (Sn.out _ (OX_30.out.below (Hid.out (And.left (by assumption)))) (OY_30.out.below (Hid.out (And.left (by assumption))))) ?_)); (rintro e wz ⟨rfl, ba⟩))
             | ((go_at_call 28); (with_reducible (refine Calls.mono (Sqp.out _ (OY_30.out.below (Hid.out (And.left (by assumption)))) (OX_30.out.below (Hid.out (And.left (by assumption))))) ?_)); (rintro e wz ⟨rfl, ba⟩))
             | ((go_at_call 15); (with_reducible (refine Calls.mono (Kn.out _ (OX_30.out.below (Hid.out (And.left (by assumption)))) (OY_30.out.below (Hid.out (And.left (by assumption))))) ?_)); (rintro e wz ⟨rfl, ba⟩))
             | ((go_at_call 15); (with_reducible (refine Calls.mono (Kxy.out _ (OX_30.out.below (Hid.out (And.left (by assumption)))) (OY_30.out.below (Hid.out (And.left (by assumption))))) ?_)); (rintro e wz ⟨rfl, ba⟩)))
    rename_i hS6
    have b6 := hS6.1.out
    have G_33 := Lib.hid (bthen G_30.out b6)
    have X_33 := Lib.hid (X_30.out.below b6)
    have Y_33 := Lib.hid (Y_30.out.below b6)
    have Z_33 := Lib.hid (Z_30.out.below b6)
    have OX_33 := Lib.hid (OX_30.out.below b6)
    have OY_33 := Lib.hid (OY_30.out.below b6)
    have OZ_33 := Lib.hid (OZ_30.out.below b6)
    have P_33 := Lib.hid (P_31.out.below b6)
    have Q_33 := Lib.hid (Q_32.out.below b6)
    clear G_30 X_30 Y_30 Z_30 OX_30 OY_30 OZ_30 P_31 Q_32
    clear b6 K1_6 KS_6 K0_6
    go_wp2_with fail
    go_ret
    exact ⟨rfl, G_33.out⟩
  · obtain ⟨q13a, q13b, q13c, q13d, q13e, q13f, q13g, q13h, q13i, q13j⟩ := X_19.out.cells
    obtain ⟨q14a, q14b, q14c, q14d, q14e, q14f, q14g, q14h, q14i, q14j⟩ := Y_19.out.cells
    obtain ⟨q15a, q15b, q15c, q15d, q15e, q15f, q15g, q15h, q15i, q15j⟩ := Z_19.out.cells
    go_wp2_with fail
    refine at_world ?_
    intro W10 hW10
    clear q13a q13b q13c q13d q13e q13f q13g q13h q13i q13j q14a q14b q14c q14d q14e q14f q14g q14h q14i q14j q15a q15b q15c q15d q15e q15f q15g q15h q15i q15j
    have G_20 : Hid (Below w.heap.size w W10) := Lib.hid (by rw [hW10]; exact G_19.out)
    have X_20 : Hid (XB W10 w.heap.size na (.slice A1 n1 c1) s1 f1) := Lib.hid (by rw [hW10]; exact X_19.out)
    have Y_20 : Hid (XB W10 (w.heap.size + 1) nb (.slice B1 m1 d1) t1 g1) := Lib.hid (by rw [hW10]; exact Y_19.out)
    have Z_20 : Hid (XB W10 (w.heap.size + 1 + 1) nc (.slice C1 l1 e1) u1 i1) := Lib.hid (by rw [hW10]; exact Z_19.out)
    have OX_20 : Hid (XOk W10 (.slice A1 n1 c1) L s1 f1) := Lib.hid (by rw [hW10]; exact OX_19.out)
    have OY_20 : Hid (XOk W10 (.slice B1 m1 d1) M t1 g1) := Lib.hid (by rw [hW10]; exact OY_19.out)
    have OZ_20 : Hid (XOk W10 (.slice C1 l1 e1) N u1 i1) := Lib.hid (by rw [hW10]; exact OZ_19.out)
    clear G_19 X_19 Y_19 Z_19 OX_19 OY_19 OZ_19
    clear hW10
    with_reducible (refine (Kxy.out _ OX_20.out OY_20.out).mono ?_)
    rintro _ w10 ⟨rfl, b10⟩
    have G_21 := Lib.hid (bthen G_20.out b10)
    have X_21 := Lib.hid (X_20.out.below b10)
    have Y_21 := Lib.hid (Y_20.out.below b10)
    have Z_21 := Lib.hid (Z_20.out.below b10)
    have OX_21 := Lib.hid (OX_20.out.below b10)
    have OY_21 := Lib.hid (OY_20.out.below b10)
    have OZ_21 := Lib.hid (OZ_20.out.below b10)
    clear G_20 X_20 Y_20 Z_20 OX_20 OY_20 OZ_20
    clear b10
    obtain ⟨q16a, q16b, q16c, q16d, q16e, q16f, q16g, q16h, q16i, q16j⟩ := X_21.out.cells
    obtain ⟨q17a, q17b, q17c, q17d, q17e, q17f, q17g, q17h, q17i, q17j⟩ := Y_21.out.cells
    obtain ⟨q18a, q18b, q18c, q18d, q18e, q18f, q18g, q18h, q18i, q18j⟩ := Z_21.out.cells
    go_wp2_with fail
    refine at_world ?_
    intro W11 hW11
    clear q16a q16b q16c q16d q16e q16f q16g q16h q16i q16j q17a q17b q17c q17d q17e q17f q17g q17h q17i q17j q18a q18b q18c q18d q18e q18f q18g q18h q18i q18j
    have G_22 : Hid (Below w.heap.size w W11) := Lib.hid (by rw [hW11]; exact G_21.out)
    have X_22 : Hid (XB W11 w.heap.size na (.slice A1 n1 c1) s1 f1) := Lib.hid (by rw [hW11]; exact X_21.out)
    have Y_22 : Hid (XB W11 (w.heap.size + 1) nb (.slice B1 m1 d1) t1 g1) := Lib.hid (by rw [hW11]; exact Y_21.out)
    have Z_22 : Hid (XB W11 (w.heap.size + 1 + 1) nc (.slice C1 l1 e1) u1 i1) := Lib.hid (by rw [hW11]; exact Z_21.out)
    have OX_22 : Hid (XOk W11 (.slice A1 n1 c1) L s1 f1) := Lib.hid (by rw [hW11]; exact OX_21.out)
    have OY_22 : Hid (XOk W11 (.slice B1 m1 d1) M t1 g1) := Lib.hid (by rw [hW11]; exact OY_21.out)
    have OZ_22 : Hid (XOk W11 (.slice C1 l1 e1) N u1 i1) := Lib.hid (by rw [hW11]; exact OZ_21.out)
    clear G_21 X_21 Y_21 Z_21 OX_21 OY_21 OZ_21
    clear hW11
    with_reducible (refine (Kyz.out _ OY_22.out OZ_22.out).mono ?_)
    rintro _ w11 ⟨rfl, b11⟩
    have G_23 := Lib.hid (bthen G_22.out b11)
    have X_23 := Lib.hid (X_22.out.below b11)
    have Y_23 := Lib.hid (Y_22.out.below b11)
    have Z_23 := Lib.hid (Z_22.out.below b11)
    have OX_23 := Lib.hid (OX_22.out.below b11)
    have OY_23 := Lib.hid (OY_22.out.below b11)
    have OZ_23 := Lib.hid (OZ_22.out.below b11)
    clear G_22 X_22 Y_22 Z_22 OX_22 OY_22 OZ_22
    clear b11
    obtain ⟨q19a, q19b, q19c, q19d, q19e, q19f, q19g, q19h, q19i, q19j⟩ := X_23.out.cells
    obtain ⟨q20a, q20b, q20c, q20d, q20e, q20f, q20g, q20h, q20i, q20j⟩ := Y_23.out.cells
    obtain ⟨q21a, q21b, q21c, q21d, q21e, q21f, q21g, q21h, q21i, q21j⟩ := Z_23.out.cells
    go_wp2_with fail
    refine at_world ?_
    intro W12 hW12
    clear q19a q19b q19c q19d q19e q19f q19g q19h q19i q19j q20a q20b q20c q20d q20e q20f q20g q20h q20i q20j q21a q21b q21c q21d q21e q21f q21g q21h q21i q21j
    have G_24 : Hid (Below w.heap.size w W12) := Lib.hid (by rw [hW12]; exact G_23.out)
    have X_24 : Hid (XB W12 w.heap.size na (.slice A1 n1 c1) s1 f1) := Lib.hid (by rw [hW12]; exact X_23.out)
    have Y_24 : Hid (XB W12 (w.heap.size + 1) nb (.slice B1 m1 d1) t1 g1) := Lib.hid (by rw [hW12]; exact Y_23.out)
    have Z_24 : Hid (XB W12 (w.heap.size + 1 + 1) nc (.slice C1 l1 e1) u1 i1) := Lib.hid (by rw [hW12]; exact Z_23.out)
    have OX_24 : Hid (XOk W12 (.slice A1 n1 c1) L s1 f1) := Lib.hid (by rw [hW12]; exact OX_23.out)
    have OY_24 : Hid (XOk W12 (.slice B1 m1 d1) M t1 g1) := Lib.hid (by rw [hW12]; exact OY_23.out)
    have OZ_24 : Hid (XOk W12 (.slice C1 l1 e1) N u1 i1) := Lib.hid (by rw [hW12]; exact OZ_23.out)
    clear G_23 X_23 Y_23 Z_23 OX_23 OY_23 OZ_23
    clear hW12
    with_reducible (refine (Kxz.out _ OX_24.out OZ_24.out).mono ?_)
    rintro _ w12 ⟨rfl, b12⟩
    have G_25 := Lib.hid (bthen G_24.out b12)
    have X_25 := Lib.hid (X_24.out.below b12)
    have Y_25 := Lib.hid (Y_24.out.below b12)
    have Z_25 := Lib.hid (Z_24.out.below b12)
    have OX_25 := Lib.hid (OX_24.out.below b12)
    have OY_25 := Lib.hid (OY_24.out.below b12)
    have OZ_25 := Lib.hid (OZ_24.out.below b12)
    clear G_24 X_24 Y_24 Z_24 OX_24 OY_24 OZ_24
    clear b12
    obtain ⟨q22a, q22b, q22c, q22d, q22e, q22f, q22g, q22h, q22i, q22j⟩ := X_25.out.cells
    obtain ⟨q23a, q23b, q23c, q23d, q23e, q23f, q23g, q23h, q23i, q23j⟩ := Y_25.out.cells
    obtain ⟨q24a, q24b, q24c, q24d, q24e, q24f, q24g, q24h, q24i, q24j⟩ := Z_25.out.cells
    go_wp2_with fail
    refine at_world ?_
    intro W13 hW13
    clear q22a q22b q22c q22d q22e q22f q22g q22h q22i q22j q23a q23b q23c q23d q23e q23f q23g q23h q23i q23j q24a q24b q24c q24d q24e q24f q24g q24h q24i q24j
    have G_26 : Hid (Below w.heap.size w W13) := Lib.hid (by rw [hW13]; exact G_25.out)
    have X_26 : Hid (XB W13 w.heap.size na (.slice A1 n1 c1) s1 f1) := Lib.hid (by rw [hW13]; exact X_25.out)
    have Y_26 : Hid (XB W13 (w.heap.size + 1) nb (.slice B1 m1 d1) t1 g1) := Lib.hid (by rw [hW13]; exact Y_25.out)
    have Z_26 : Hid (XB W13 (w.heap.size + 1 + 1) nc (.slice C1 l1 e1) u1 i1) := Lib.hid (by rw [hW13]; exact Z_25.out)
    have OX_26 : Hid (XOk W13 (.slice A1 n1 c1) L s1 f1) := Lib.hid (by rw [hW13]; exact OX_25.out)
    have OY_26 : Hid (XOk W13 (.slice B1 m1 d1) M t1 g1) := Lib.hid (by rw [hW13]; exact OY_25.out)
    have OZ_26 : Hid (XOk W13 (.slice C1 l1 e1) N u1 i1) := Lib.hid (by rw [hW13]; exact OZ_25.out)
    clear G_25 X_25 Y_25 Z_25 OX_25 OY_25 OZ_25
    clear hW13
    with_reducible (refine (Spq.out _ OX_26.out OY_26.out).mono ?_)
    rintro _ w13 ⟨rfl, b13⟩
    have G_27 := Lib.hid (bthen G_26.out b13)
    have X_27 := Lib.hid (X_26.out.below b13)
    have Y_27 := Lib.hid (Y_26.out.below b13)
    have Z_27 := Lib.hid (Z_26.out.below b13)
    have OX_27 := Lib.hid (OX_26.out.below b13)
    have OY_27 := Lib.hid (OY_26.out.below b13)
    have OZ_27 := Lib.hid (OZ_26.out.below b13)
    clear G_26 X_26 Y_26 Z_26 OX_26 OY_26 OZ_26
    clear b13
    obtain ⟨q25a, q25b, q25c, q25d, q25e, q25f, q25g, q25h, q25i, q25j⟩ := X_27.out.cells
    obtain ⟨q26a, q26b, q26c, q26d, q26e, q26f, q26g, q26h, q26i, q26j⟩ := Y_27.out.cells
    obtain ⟨q27a, q27b, q27c, q27d, q27e, q27f, q27g, q27h, q27i, q27j⟩ := Z_27.out.cells
    go_wp2_with fail
    refine at_world ?_
    intro W14 hW14
    clear q25a q25b q25c q25d q25e q25f q25g q25h q25i q25j q26a q26b q26c q26d q26e q26f q26g q26h q26i q26j q27a q27b q27c q27d q27e q27f q27g q27h q27i q27j
    have G_28 : Hid (Below w.heap.size w W14) := Lib.hid (by rw [hW14]; exact G_27.out)
    have X_28 : Hid (XB W14 w.heap.size na (.slice A1 n1 c1) s1 f1) := Lib.hid (by rw [hW14]; exact X_27.out)
    have Y_28 : Hid (XB W14 (w.heap.size + 1) nb (.slice B1 m1 d1) t1 g1) := Lib.hid (by rw [hW14]; exact Y_27.out)
    have Z_28 : Hid (XB W14 (w.heap.size + 1 + 1) nc (.slice C1 l1 e1) u1 i1) := Lib.hid (by rw [hW14]; exact Z_27.out)
    have OX_28 : Hid (XOk W14 (.slice A1 n1 c1) L s1 f1) := Lib.hid (by rw [hW14]; exact OX_27.out)
    have OY_28 : Hid (XOk W14 (.slice B1 m1 d1) M t1 g1) := Lib.hid (by rw [hW14]; exact OY_27.out)
    have OZ_28 : Hid (XOk W14 (.slice C1 l1 e1) N u1 i1) := Lib.hid (by rw [hW14]; exact OZ_27.out)
    clear G_27 X_27 Y_27 Z_27 OX_27 OY_27 OZ_27
    clear hW14
    with_reducible (refine (Sqr.out _ OY_28.out OZ_28.out).mono ?_)
    rintro _ w14 ⟨rfl, b14⟩
    have G_29 := Lib.hid (bthen G_28.out b14)
    have X_29 := Lib.hid (X_28.out.below b14)
    have Y_29 := Lib.hid (Y_28.out.below b14)
    have Z_29 := Lib.hid (Z_28.out.below b14)
    have OX_29 := Lib.hid (OX_28.out.below b14)
    have OY_29 := Lib.hid (OY_28.out.below b14)
    have OZ_29 := Lib.hid (OZ_28.out.below b14)
    clear G_28 X_28 Y_28 Z_28 OX_28 OY_28 OZ_28
    clear b14
    obtain ⟨q28a, q28b, q28c, q28d, q28e, q28f, q28g, q28h, q28i, q28j⟩ := X_29.out.cells
    obtain ⟨q29a, q29b, q29c, q29d, q29e, q29f, q29g, q29h, q29i, q29j⟩ := Y_29.out.cells
    obtain ⟨q30a, q30b, q30c, q30d, q30e, q30f, q30g, q30h, q30i, q30j⟩ := Z_29.out.cells
    go_wp2_with fail
    refine at_world ?_
    intro W15 hW15
    clear q28a q28b q28c q28d q28e q28f q28g q28h q28i q28j q29a q29b q29c q29d q29e q29f q29g q29h q29i q29j q30a q30b q30c q30d q30e q30f q30g q30h q30i q30j
    have G_30 : Hid (Below w.heap.size w W15) := Lib.hid (by rw [hW15]; exact G_29.out)
    have X_30 : Hid (XB W15 w.heap.size na (.slice A1 n1 c1) s1 f1) := Lib.hid (by rw [hW15]; exact X_29.out)
    have Y_30 : Hid (XB W15 (w.heap.size + 1) nb (.slice B1 m1 d1) t1 g1) := Lib.hid (by rw [hW15]; exact Y_29.out)
    have Z_30 : Hid (XB W15 (w.heap.size + 1 + 1) nc (.slice C1 l1 e1) u1 i1) := Lib.hid (by rw [hW15]; exact Z_29.out)
    have OX_30 : Hid (XOk W15 (.slice A1 n1 c1) L s1 f1) := Lib.hid (by rw [hW15]; exact OX_29.out)
    have OY_30 : Hid (XOk W15 (.slice B1 m1 d1) M t1 g1) := Lib.hid (by rw [hW15]; exact OY_29.out)
    have OZ_30 : Hid (XOk W15 (.slice C1 l1 e1) N u1 i1) := Lib.hid (by rw [hW15]; exact OZ_29.out)
    clear G_29 X_29 Y_29 Z_29 OX_29 OY_29 OZ_29
    clear hW15
    with_reducible (refine (Spr.out _ OX_30.out OZ_30.out).mono ?_)
    rintro _ w15 ⟨rfl, b15⟩
    have G_31 := Lib.hid (bthen G_30.out b15)
    have X_31 := Lib.hid (X_30.out.below b15)
    have Y_31 := Lib.hid (Y_30.out.below b15)
    have Z_31 := Lib.hid (Z_30.out.below b15)
    have OX_31 := Lib.hid (OX_30.out.below b15)
    have OY_31 := Lib.hid (OY_30.out.below b15)
    have OZ_31 := Lib.hid (OZ_30.out.below b15)
    clear G_30 X_30 Y_30 Z_30 OX_30 OY_30 OZ_30
    clear b15
    obtain ⟨q31a, q31b, q31c, q31d, q31e, q31f, q31g, q31h, q31i, q31j⟩ := X_31.out.cells
    obtain ⟨q32a, q32b, q32c, q32d, q32e, q32f, q32g, q32h, q32i, q32j⟩ := Y_31.out.cells
    obtain ⟨q33a, q33b, q33c, q33d, q33e, q33f, q33g, q33h, q33i, q33j⟩ := Z_31.out.cells
    go_wp2_with fail
    refine at_code ?_
    intro W6 hW6
    clear q31a q31b q31c q31d q31e q31f q31g q31h q31i q31j q32a q32b q32c q32d q32e q32f q32g q32h q32i q32j q33a q33b q33c q33d q33e q33f q33g q33h q33i q33j
    have G_32 : Hid (Below w.heap.size w W6) := Lib.hid (by rw [hW6]; exact (bgrow (bgrow G_31.out _) _))
    have X_32 : Hid (XB W6 w.heap.size na (.slice A1 n1 c1) s1 f1) := Lib.hid (by rw [hW6]; exact ((X_31.out.alloc _).alloc _))
    have Y_32 : Hid (XB W6 (w.heap.size + 1) nb (.slice B1 m1 d1) t1 g1) := Lib.hid (by rw [hW6]; exact ((Y_31.out.alloc _).alloc _))
    have Z_32 : Hid (XB W6 (w.heap.size + 1 + 1) nc (.slice C1 l1 e1) u1 i1) := Lib.hid (by rw [hW6]; exact ((Z_31.out.alloc _).alloc _))
    have OX_32 : Hid (XOk W6 (.slice A1 n1 c1) L s1 f1) := Lib.hid (by rw [hW6]; exact ((OX_31.out.alloc _).alloc _))
    have OY_32 : Hid (XOk W6 (.slice B1 m1 d1) M t1 g1) := Lib.hid (by rw [hW6]; exact ((OY_31.out.alloc _).alloc _))
    have OZ_32 : Hid (XOk W6 (.slice C1 l1 e1) N u1 i1) := Lib.hid (by rw [hW6]; exact ((OZ_31.out.alloc _).alloc _))
    clear G_31 X_31 Y_31 Z_31 OX_31 OY_31 OZ_31
    have P_33 : Hid (XB W6 w15.heap.size (!na) (.slice A1 n1 c1) s1 f1) := Lib.hid (by rw [hW6]; exact (XB.new w15 (!na) (.slice A1 n1 c1) s1 f1).alloc _)
    have Q_34 : Hid (XB W6 (w15.heap.size + 1) (!nb) (.slice B1 m1 d1) t1 g1) := Lib.hid (by rw [hW6]; have hh := XB.new (w15.alloc (.cells #[.bool (!na), (.slice A1 n1 c1), .int .i64 s1, .int .i64 f1] 25)) (!nb) (.slice B1 m1 d1) t1 g1; simpa using hh)
    clear hW6
    have K1_6 : Hid (∀ w', Hid (Below W6.heap.size W6 w') → Hid (Below W6.heap.size W6 w') ∧ (w'.cell? { block := w.heap.size, off := 0 } = some (.bool na) ∧ w'.cell? { block := w.heap.size, off := 1 } = some (.slice A1 n1 c1) ∧ w'.cell? { block := w.heap.size, off := 2 } = some (.int .i64 s1) ∧ w'.cell? { block := w.heap.size, off := 3 } = some (.int .i64 f1)) ∧ (w'.cell? { block := (w.heap.size + 1), off := 0 } = some (.bool nb) ∧ w'.cell? { block := (w.heap.size + 1), off := 1 } = some (.slice B1 m1 d1) ∧ w'.cell? { block := (w.heap.size + 1), off := 2 } = some (.int .i64 t1) ∧ w'.cell? { block := (w.heap.size + 1), off := 3 } = some (.int .i64 g1)) ∧ (w'.cell? { block := w15.heap.size, off := 0 } = some (.bool (!na)) ∧ w'.cell? { block := w15.heap.size, off := 1 } = some (.slice A1 n1 c1) ∧ w'.cell? { block := w15.heap.size, off := 2 } = some (.int .i64 s1) ∧ w'.cell? { block := w15.heap.size, off := 3 } = some (.int .i64 f1)) ∧ (w'.cell? { block := (w15.heap.size + 1), off := 0 } = some (.bool (!nb)) ∧ w'.cell? { block := (w15.heap.size + 1), off := 1 } = some (.slice B1 m1 d1) ∧ w'.cell? { block := (w15.heap.size + 1), off := 2 } = some (.int .i64 t1) ∧ w'.cell? { block := (w15.heap.size + 1), off := 3 } = some (.int .i64 g1))) := Lib.hid (fun w' h => ⟨h, (X_32.out.below h.out).four, (Y_32.out.below h.out).four, (P_33.out.below h.out).four, (Q_34.out.below h.out).four⟩)
    have KS_6 := Lib.hid (fun w1 w2 (h : Hid (Below W6.heap.size W6 w1)) (b : Below w1.heap.size w1 w2) => K1_6.out w2 (hbthen h b))
    have K0_6 := Lib.hid (K1_6.out _ (Lib.hid (bdrewN (Below.refl _ _) 1)))
    go_region_held3 (fun w' => Hid (Below W6.heap.size W6 w') ∧ (w'.cell? { block := w.heap.size, off := 0 } = some (.bool na) ∧ w'.cell? { block := w.heap.size, off := 1 } = some (.slice A1 n1 c1) ∧ w'.cell? { block := w.heap.size, off := 2 } = some (.int .i64 s1) ∧ w'.cell? { block := w.heap.size, off := 3 } = some (.int .i64 f1)) ∧ (w'.cell? { block := (w.heap.size + 1), off := 0 } = some (.bool nb) ∧ w'.cell? { block := (w.heap.size + 1), off := 1 } = some (.slice B1 m1 d1) ∧ w'.cell? { block := (w.heap.size + 1), off := 2 } = some (.int .i64 t1) ∧ w'.cell? { block := (w.heap.size + 1), off := 3 } = some (.int .i64 g1)) ∧ (w'.cell? { block := w15.heap.size, off := 0 } = some (.bool (!na)) ∧ w'.cell? { block := w15.heap.size, off := 1 } = some (.slice A1 n1 c1) ∧ w'.cell? { block := w15.heap.size, off := 2 } = some (.int .i64 s1) ∧ w'.cell? { block := w15.heap.size, off := 3 } = some (.int .i64 f1)) ∧ (w'.cell? { block := (w15.heap.size + 1), off := 0 } = some (.bool (!nb)) ∧ w'.cell? { block := (w15.heap.size + 1), off := 1 } = some (.slice B1 m1 d1) ∧ w'.cell? { block := (w15.heap.size + 1), off := 2 } = some (.int .i64 t1) ∧ w'.cell? { block := (w15.heap.size + 1), off := 3 } = some (.int .i64 g1)))
      (first | exact K0_6.out | exact KS_6.out _ _ (And.left (by assumption)) (by assumption))
      (first | ((go_at_call 28); (with_reducible (refine Calls.mono (Sn.out _ (OX_32.out.below (Hid.out (And.left (by assumption)))) (OY_32.out.below (Hid.out (And.left (by assumption))))) ?_)); (rintro e wz ⟨rfl, ba⟩))
             | ((go_at_call 28); (with_reducible (refine Calls.mono (Sqp.out _ (OY_32.out.below (Hid.out (And.left (by assumption)))) (OX_32.out.below (Hid.out (And.left (by assumption))))) ?_)); (rintro e wz ⟨rfl, ba⟩))
             | ((go_at_call 15); (with_reducible (refine Calls.mono (Kn.out _ (OX_32.out.below (Hid.out (And.left (by assumption)))) (OY_32.out.below (Hid.out (And.left (by assumption))))) ?_)); (rintro e wz ⟨rfl, ba⟩))
             | ((go_at_call 15); (with_reducible (refine Calls.mono (Kxy.out _ (OX_32.out.below (Hid.out (And.left (by assumption)))) (OY_32.out.below (Hid.out (And.left (by assumption))))) ?_)); (rintro e wz ⟨rfl, ba⟩)))
    rename_i hS6
    have b6 := hS6.1.out
    have G_35 := Lib.hid (bthen G_32.out b6)
    have X_35 := Lib.hid (X_32.out.below b6)
    have Y_35 := Lib.hid (Y_32.out.below b6)
    have Z_35 := Lib.hid (Z_32.out.below b6)
    have OX_35 := Lib.hid (OX_32.out.below b6)
    have OY_35 := Lib.hid (OY_32.out.below b6)
    have OZ_35 := Lib.hid (OZ_32.out.below b6)
    have P_35 := Lib.hid (P_33.out.below b6)
    have Q_35 := Lib.hid (Q_34.out.below b6)
    clear G_32 X_32 Y_32 Z_32 OX_32 OY_32 OZ_32 P_33 Q_34
    clear b6 K1_6 KS_6 K0_6
    go_wp2_with fail
    go_ret
    exact ⟨rfl, G_35.out⟩
end Go.Proofs.Yteiajccjlbghoaa

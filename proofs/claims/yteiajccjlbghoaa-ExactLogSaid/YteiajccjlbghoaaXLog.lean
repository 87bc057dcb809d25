/- caliperlaw02.ExactLog walked. Conditions: as each theorem names them. -/
import Derived.Test.YteiajccjlbghoaaXlw
set_option linter.unusedVariables false
namespace Go.Proofs.Yteiajccjlbghoaa
open Go.RowKit

theorem lg_tests {M : Nat} {s f k : Int} (h : Lg M s f k) (hM : 0 < M) : (∃ r, xcmp 1 k k M s f = r ∧ decide (r ≤ 0) = true) ∧ ∃ r, xcmp M s f 1 (k + 1) (k + 1) = r ∧ decide (r < 0) = true := by
  obtain ⟨_, _, ⟨h0, _⟩ | ⟨_, h3, h4⟩⟩ := h
  · omega
  · constructor
    · refine ⟨_, rfl, ?_⟩
      apply decide_eq_true
      show cmpN (tenx k) (vx M s f) ≤ 0
      rcases cmpN_cases3 (tenx k) (vx M s f) with ⟨e, _⟩ | ⟨_, e⟩ | ⟨e, _⟩
      · rw [e]; decide
      · omega
      · rw [e]; decide
    · refine ⟨_, rfl, ?_⟩
      apply decide_eq_true
      show cmpN (vx M s f) (tenx (k + 1)) < 0
      rw [(cmpN_cases _ _).1.2 h4]; decide
set_option maxRecDepth 100000 in
set_option maxHeartbeats 8000000 in
theorem walk_ExactLog (neg : Bool) (A : Option Addr) (n c : Nat) (F : Nat → Nat) (s f : Int) (w : World) (h : RdW w A n c F) :
    Calls Try.prog 6 #[xv neg (.slice A n c) s f] w fun e w' => e = .returned (.bool true) ∧ Below w.heap.size w w' := by
  have HR := Lib.hid h
  have HSM := Lib.hid (small_sm A n c F s f 2500 w h)
  clear h
  obtain ⟨M, hM⟩ : ∃ M, S F (min n 12) = M := ⟨_, rfl⟩
  obtain ⟨s1, hs1⟩ : ∃ s1, s.tmod ((2500 + 1 : Nat) : Int) = s1 := ⟨_, rfl⟩
  obtain ⟨f1, hf1⟩ : ∃ f1, f.tmod ((2500 + 1 : Nat) : Int) = f1 := ⟨_, rfl⟩
  have C0 := Lib.hid (fun w' h => small_X neg A n c F s f 2500 w' h (by decide))
  rw [hM, hs1, hf1] at HSM
  rw [hM, hs1, hf1] at C0
  unfold xv
  unfold xv at C0
  go_enter Try.func6, Try.ntmps6
  go_wp2_with fail
  refine at_world ?_
  intro W1 hW1
  have G_1 : Hid (Below w.heap.size w W1) := Lib.hid (by rw [hW1]; exact bgrow (Below.refl _ _) _)
  have X_2 : Hid (XB W1 w.heap.size neg (.slice A n c) s f) := Lib.hid (by rw [hW1]; exact XB.new _ _ _ _ _)
  have R_3 : Hid (RdW W1 A n c F) := Lib.hid (HR.out.below G_1.out)
  clear hW1
  clear HR
  have C1 := Lib.hid (shown_true W1)
  with_reducible (refine C1.out.mono ?_)
  rintro e w1 ⟨rfl, b1⟩
  have G_4 := Lib.hid (bthen G_1.out b1)
  have X_4 := Lib.hid (X_2.out.below b1)
  have R_4 := Lib.hid (R_3.out.below b1)
  clear G_1 X_2 R_3
  clear b1 C1
  obtain ⟨q1a, q1b, q1c, q1d, q1e, q1f, q1g, q1h, q1i, q1j⟩ := X_4.out.cells
  go_wp2_with fail
  refine at_world ?_
  intro W2 hW2
  clear q1a q1b q1c q1d q1e q1f q1g q1h q1i q1j
  have G_5 : Hid (Below w.heap.size w W2) := Lib.hid (by rw [hW2]; exact G_4.out)
  have X_5 : Hid (XB W2 w.heap.size neg (.slice A n c) s f) := Lib.hid (by rw [hW2]; exact X_4.out)
  have R_5 : Hid (RdW W2 A n c F) := Lib.hid (by rw [hW2]; exact R_4.out)
  clear G_4 X_4 R_4
  clear hW2
  have C2 := Lib.hid (show Calls Try.prog 12 #[.agg #[.bool neg, .slice A n c, .int .i64 s, .int .i64 f], .int .i64 2500] W2 _ from C0.out W2 R_5.out)
  with_reducible (refine C2.out.mono ?_)
  rintro e w2 ⟨⟨A1, n1, c1, rfl, i2⟩, b2⟩
  clear R_5
  have G_6 := Lib.hid (bthen G_5.out b2)
  have X_6 := Lib.hid (X_5.out.below b2)
  clear G_5 X_5
  have hz : n1 = 0 ↔ M = 0 := by
    obtain ⟨_, _, _, e, hz⟩ := nlen i2
    cases e
    exact hz
  have O_7 : Hid (XOk w2 (.slice A1 n1 c1) M s1 f1) := Lib.hid (HSM.out.ok (by decide) i2)
  clear b2 C2 i2 C0
  obtain ⟨q2a, q2b, q2c, q2d, q2e, q2f, q2g, q2h, q2i, q2j⟩ := X_6.out.cells
  go_wp2_with fail
  refine at_world ?_
  intro W3 hW3
  clear q2a q2b q2c q2d q2e q2f q2g q2h q2i q2j
  have G_8 : Hid (Below w.heap.size w W3) := Lib.hid (by rw [hW3]; exact (below_set4 G_6.out (by simp; try omega) _ _ _ _))
  have X_8 : Hid (XB W3 w.heap.size neg (.slice A1 n1 c1) s1 f1) := Lib.hid (by rw [hW3]; exact (X_6.out.set4 neg (.slice A1 n1 c1) s1 f1))
  have O_8 : Hid (XOk W3 (.slice A1 n1 c1) M s1 f1) := Lib.hid (by rw [hW3]; exact (O_7.out.set4 X_6.out _ _ _ _))
  clear G_6 X_6 O_7
  clear hW3
  have HZ := Lib.hid hz
  clear hz hM hs1 hf1
  have r1 : -6000 ≤ s1 ∧ s1 ≤ 6000 := ⟨by have := HSM.out.s1; omega, by have := HSM.out.s2; omega⟩
  have r2 : -6000 ≤ f1 ∧ f1 ≤ 6000 := ⟨by have := HSM.out.f1; omega, by have := HSM.out.f2; omega⟩
  have r3 : bitsN M ≤ 9000 := Nat.le_trans HSM.out.bits (by decide)
  have C3 := Lib.hid (log_X neg (.slice A1 n1 c1) s1 f1 M W3 O_8.out r1 r2 r3)
  unfold xv at C3
  with_reducible (refine C3.out.mono ?_)
  rintro e w3 ⟨⟨k, rfl, hk⟩, b3⟩
  have G_9 := Lib.hid (bthen G_8.out b3)
  have X_9 := Lib.hid (X_8.out.below b3)
  have O_9 := Lib.hid (O_8.out.below b3)
  clear G_8 X_8 O_8
  clear b3 C3
  have HK := Lib.hid hk
  have hkr := hk.range r1 r2 r3
  clear hk
  rcases Nat.eq_zero_or_pos M with hM | hM
  · obtain rfl : n1 = 0 := HZ.out.2 hM
    obtain rfl : k = 0 := by
      obtain ⟨_, _, ⟨_, e⟩ | ⟨e, _⟩⟩ := HK.out
      · exact e
      · omega
    clear hM HK HZ hkr
    obtain ⟨q3a, q3b, q3c, q3d, q3e, q3f, q3g, q3h, q3i, q3j⟩ := X_9.out.cells
    go_wp2_with fail
    go_ret
    exact ⟨rfl, G_9.out⟩
  · have t1 : ((n1 : Int) == 0) = false := by
      have h0 : n1 ≠ 0 := fun e => by have := HZ.out.1 e; omega
      simp; exact h0
    obtain ⟨⟨ra, hra, ta⟩, rb, hrb, tb⟩ := lg_tests HK.out hM
    have m1 : IntKind.i64.wrap (k + 1) = k + 1 := IntWalk.i64_in _ (by omega)
    have HM := Lib.hid hM
    have HRA := Lib.hid hra
    have HRB := Lib.hid hrb
    clear hM hra hrb
    have CT := Lib.hid (fun w' => ten_X k w' (by omega))
    have CU := Lib.hid (fun w' => ten_X (k + 1) w' (by omega))
    have CA := Lib.hid (fun A4 n4 c4 w' h1 h2 => cmp_X false (!neg) (.slice A4 n4 c4) (.slice A1 n1 c1) k k s1 f1 1 M ra w' h1 h2 HRA.out)
    have CB := Lib.hid (fun A4 n4 c4 w' h1 h2 => cmp_X (!neg) false (.slice A1 n1 c1) (.slice A4 n4 c4) s1 f1 (k + 1) (k + 1) M 1 rb w' h1 h2 HRB.out)
    have CL := Lib.hid (fun w' h => log_is (!neg) (.slice A1 n1 c1) s1 f1 M k w' h r1 r2 r3 HM.out HK.out)
    unfold xv at CT CU CA CB CL
    obtain ⟨q3a, q3b, q3c, q3d, q3e, q3f, q3g, q3h, q3i, q3j⟩ := X_9.out.cells
    go_wp2_with fail
    refine at_code ?_
    intro W4 hW4
    clear q3a q3b q3c q3d q3e q3f q3g q3h q3i q3j
    have G_10 : Hid (Below w.heap.size w W4) := Lib.hid (by rw [hW4]; exact (G_9.out.setCell (p := { block := w.heap.size, off := 0 }) (by simp; try omega) _))
    have X_10 : Hid (XB W4 w.heap.size (!neg) (.slice A1 n1 c1) s1 f1) := Lib.hid (by rw [hW4]; exact (X_9.out.setNeg (!neg)))
    have O_10 : Hid (XOk W4 (.slice A1 n1 c1) M s1 f1) := Lib.hid (by rw [hW4]; exact (O_9.out.set1 X_9.out 0 _))
    clear G_9 X_9 O_9
    clear hW4
    have K1_4 : Hid (∀ w', Hid (Below W4.heap.size W4 w') → Hid (Below W4.heap.size W4 w') ∧ (w'.cell? { block := w.heap.size, off := 0 } = some (.bool (!neg)) ∧ w'.cell? { block := w.heap.size, off := 1 } = some (.slice A1 n1 c1) ∧ w'.cell? { block := w.heap.size, off := 2 } = some (.int .i64 s1) ∧ w'.cell? { block := w.heap.size, off := 3 } = some (.int .i64 f1))) := Lib.hid (fun w' h => ⟨h, (X_10.out.below h.out).four⟩)
    have KS_4 := Lib.hid (fun w1 w2 (h : Hid (Below W4.heap.size W4 w1)) (b : Below w1.heap.size w1 w2) => K1_4.out w2 (hbthen h b))
    have K0_4 := Lib.hid (K1_4.out _ (Lib.hid (bdrewN (Below.refl _ _) 1)))
    go_region_held3 (fun w' => Hid (Below W4.heap.size W4 w') ∧ (w'.cell? { block := w.heap.size, off := 0 } = some (.bool (!neg)) ∧ w'.cell? { block := w.heap.size, off := 1 } = some (.slice A1 n1 c1) ∧ w'.cell? { block := w.heap.size, off := 2 } = some (.int .i64 s1) ∧ w'.cell? { block := w.heap.size, off := 3 } = some (.int .i64 f1)))
      (first | exact K0_4.out | exact KS_4.out _ _ (And.left (by assumption)) (by assumption))
      (first | ((go_at_call 29); (with_reducible (refine Calls.mono (CT.out _) ?_)); (rintro e wz ⟨⟨tA, tn, tc, rfl, jt⟩, bt⟩))
             | ((go_at_call 29); (with_reducible (refine Calls.mono (CU.out _) ?_)); (rintro e wz ⟨⟨uA, un, uc, rfl, ju⟩, bu⟩))
             | ((go_at_call 15); (with_reducible (refine Calls.mono (CA.out _ _ _ _ (by assumption) (O_10.out.below (Hid.out (And.left (by assumption))))) ?_)); (rintro e wz ⟨rfl, ba⟩))
             | ((go_at_call 15); (with_reducible (refine Calls.mono (CB.out _ _ _ _ (O_10.out.below (Hid.out (And.left (by assumption)))) (by assumption)) ?_)); (rintro e wz ⟨rfl, bb⟩))
             | ((go_at_call 19); (with_reducible (refine Calls.mono (CL.out _ (O_10.out.below (Hid.out (And.left (by assumption))))) ?_)); (rintro e wz ⟨rfl, bl⟩)))
    rename_i hS4
    have b4 := hS4.1.out
    have G_11 := Lib.hid (bthen G_10.out b4)
    have X_11 := Lib.hid (X_10.out.below b4)
    have O_11 := Lib.hid (O_10.out.below b4)
    clear G_10 X_10 O_10
    clear b4 K1_4 KS_4 K0_4
    go_wp2_with fail
    go_ret
    exact ⟨rfl, G_11.out⟩
end Go.Proofs.Yteiajccjlbghoaa

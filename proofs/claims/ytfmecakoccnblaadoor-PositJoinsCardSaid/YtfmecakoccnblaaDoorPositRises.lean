/- PositRises walked: greater keys are greater numbers. Conditions: the table of math-bits lies as the text lays it. -/
import Derived.Test.YtfmecakoccnblaaDoorPositKeys
set_option linter.unusedVariables false
namespace Go.Proofs.YtfmecakoccnblaaDoor
open Go.RowKit

theorem u64_nat {a : Int} (h : (Lit.int .u64 a).wf = true) : ∃ n : Nat, a = n ∧ n < 18446744073709551616 := by
  simp [Lit.wf, IntKind.min, IntKind.max, IntKind.signed, IntKind.bits] at h
  exact ⟨a.toNat, by omega, by omega⟩

theorem halves (a : Nat) (ha : a < 18446744073709551616) : ∃ H : Nat → Nat, H 0 = a ∧ (∀ j, H (j + 1) = H j / 2) ∧ (∀ j, H j ≤ a) ∧ (∀ j, j < Lib.bitLen a → 0 < H j) ∧ H (Lib.bitLen a) = 0 := by
  refine ⟨fun j => a / 2 ^ j, by simp, ?_, fun j => Nat.div_le_self _ _, ?_, ?_⟩
  · intro j
    show a / 2 ^ (j + 1) = a / 2 ^ j / 2
    rw [Nat.pow_succ, Nat.div_div_eq_div_mul]
  · intro j hj
    show 0 < a / 2 ^ j
    by_cases h0 : a = 0
    · subst h0; rw [bitLen_zero] at hj; omega
    · rw [bitLen_log a h0 ha] at hj
      have h1 := Nat.log2_self_le h0
      have h2 := pow_le (show j ≤ a.log2 by omega)
      exact (Nat.le_div_iff_mul_le (Nat.two_pow_pos j)).2 (by omega)
  · show a / 2 ^ Lib.bitLen a = 0
    by_cases h0 : a = 0
    · subst h0; simp
    · rw [bitLen_log a h0 ha]
      exact Nat.div_eq_of_lt Nat.lt_log2_self
theorem doubles (a : Nat) (h0 : a ≠ 0) (ha : a < 18446744073709551616) : ∃ G : Nat → Nat, G 0 = a ∧ (∀ j, G (j + 1) = 2 * G j) ∧ (∀ j, j < 64 - Lib.bitLen a → G j < 9223372036854775808) ∧ 9223372036854775808 ≤ G (64 - Lib.bitLen a) ∧ G (64 - Lib.bitLen a) < 18446744073709551616 ∧ G (64 - Lib.bitLen a) = a * 2 ^ (64 - Lib.bitLen a) ∧ (∀ j, 0 < G j) := by
  have hb := bitLen_log a h0 ha
  have h1 := Nat.log2_self_le h0
  have h2 := Nat.lt_log2_self (n := a)
  have h3 : a.log2 < 64 := (Nat.log2_lt h0).2 ha
  refine ⟨fun j => a * 2 ^ j, by simp, ?_, ?_, ?_, ?_, rfl, fun j => Nat.mul_pos (by omega) (Nat.two_pow_pos j)⟩
  · intro j
    show a * 2 ^ (j + 1) = 2 * (a * 2 ^ j)
    rw [Nat.pow_succ, Nat.mul_comm _ 2, ← Nat.mul_assoc, Nat.mul_comm a 2, Nat.mul_assoc]
  · intro j hj
    show a * 2 ^ j < 9223372036854775808
    have e : 2 ^ (a.log2 + 1) * 2 ^ j ≤ 9223372036854775808 := by
      rw [← Nat.pow_add]; exact pow_le (show a.log2 + 1 + j ≤ 63 by omega)
    exact Nat.lt_of_lt_of_le (Nat.mul_lt_mul_of_pos_right h2 (Nat.two_pow_pos j)) e
  · show 9223372036854775808 ≤ a * 2 ^ (64 - Lib.bitLen a)
    have e : 2 ^ a.log2 * 2 ^ (64 - Lib.bitLen a) = 9223372036854775808 := by
      rw [← Nat.pow_add, show a.log2 + (64 - Lib.bitLen a) = 63 by omega]
    rw [← e]; exact Nat.mul_le_mul_right _ h1
  · show a * 2 ^ (64 - Lib.bitLen a) < 18446744073709551616
    have e : 2 ^ (a.log2 + 1) * 2 ^ (64 - Lib.bitLen a) = 18446744073709551616 := by
      rw [← Nat.pow_add, show a.log2 + 1 + (64 - Lib.bitLen a) = 64 by omega]
    rw [← e]; exact Nat.mul_lt_mul_of_pos_right h2 (Nat.two_pow_pos _)

theorem bool_eq {a b : Bool} (h : a = b) : Ending.returned (.bool a) = .returned (.bool b) := by rw [h]

/-- less: what it answers -/
theorem less_any (a b : Nat) (d e : Int) (w : World) (r : Bool) (a0 : a ≠ 0) (b0 : b ≠ 0) (ha : a < 18446744073709551616) (hb : b < 18446744073709551616) (hd1 : -1000 ≤ d) (hd2 : d ≤ 1000) (he1 : -1000 ≤ e) (he2 : e ≤ 1000)
    (hr : r = if d + (Lib.bitLen a : Int) = e + (Lib.bitLen b : Int) then decide (a * 2 ^ (64 - Lib.bitLen a) < b * 2 ^ (64 - Lib.bitLen b)) else decide (d + (Lib.bitLen a : Int) < e + (Lib.bitLen b : Int))) :
    Calls Tryd.prog 19 #[.int .u64 a, .int .i64 d, .int .u64 b, .int .i64 e] w fun r' w' => r' = .returned (.bool r) ∧ w = w' := by
  obtain ⟨H, h0, h1, h2, h3, h4⟩ := halves a ha
  obtain ⟨I, i0, i1, i2, i3, i4⟩ := halves b hb
  obtain ⟨G, g0, g1, g2, g3, g4, g5, g6⟩ := doubles a a0 ha
  obtain ⟨K, k0, k1, k2, k3, k4, k5, k6⟩ := doubles b b0 hb
  have hla64 : Lib.bitLen a ≤ 64 := Lib.bitLen_le a 64 (by decide) ha
  have hlb64 : Lib.bitLen b ≤ 64 := Lib.bitLen_le b 64 (by decide) hb
  rw [← g5, ← k5] at hr
  generalize Lib.bitLen a = la at *
  generalize Lib.bitLen b = lb at *
  have HR := Lib.hid hr
  have H0 := Lib.hid h0
  have H1 := Lib.hid h1
  have H2 := Lib.hid h2
  have H3 := Lib.hid h3
  have H4 := Lib.hid h4
  have I0 := Lib.hid i0
  have I1 := Lib.hid i1
  have I2 := Lib.hid i2
  have I3 := Lib.hid i3
  have I4 := Lib.hid i4
  have G0 := Lib.hid g0
  have G1 := Lib.hid g1
  have G2 := Lib.hid g2
  have G3 := Lib.hid g3
  have G4 := Lib.hid g4
  have G6 := Lib.hid g6
  have K6 := Lib.hid k6
  have K0 := Lib.hid k0
  have K1 := Lib.hid k1
  have K2 := Lib.hid k2
  have K3 := Lib.hid k3
  have K4 := Lib.hid k4
  clear h0 h1 h2 h3 h4 i0 i1 i2 i3 i4 g0 g1 g2 g3 g4 g5 g6 k0 k1 k2 k3 k4 k5 k6 hr
  go_enter Tryd.func19, Tryd.ntmps19
  go_wp2
  go_loop [9, 10] (fun x p => ∃ j : Nat, j ≤ la ∧ x = .int .u64 (H j) ∧ p = .int .i64 (d + j)) (fun x _ => (intOf x).toNat)
  case atStart => exact ⟨0, Nat.zero_le _, by rw [H0.out], by simp⟩
  case round =>
    obtain ⟨j, hj, rfl, rfl⟩ := hrel
    have u1 := H2.out j
    by_cases hlt : j < la
    · have u2 := H3.out j hlt
      have u3 := Lib.hid (H1.out j)
      have u4 : ((H j : Nat) : Int) / 2 = ((H (j + 1) : Nat) : Int) := by rw [u3.out]; omega
      go_wp2
      go_round
      case rel => exact ⟨j + 1, by omega, rfl, by go_num⟩
      case measure => have := u3.out; simp [intOf]; omega
    · obtain rfl : j = la := by omega
      have u2 := H4.out
      have u3 : ¬ (0 : Int) < (H j : Int) := by omega
      have U2 := Lib.hid u2
      clear u2
      go_wp2
      go_loop [11, 12] (fun x p => ∃ j : Nat, j ≤ lb ∧ x = .int .u64 (I j) ∧ p = .int .i64 (e + j)) (fun x _ => (intOf x).toNat)
      case atStart => exact ⟨0, Nat.zero_le _, by rw [I0.out], by simp⟩
      case round =>
        obtain ⟨k, hk, rfl, rfl⟩ := hrel
        have v1 := I2.out k
        by_cases hlt2 : k < lb
        · have v2 := I3.out k hlt2
          have v3 := Lib.hid (I1.out k)
          have v4 : ((I k : Nat) : Int) / 2 = ((I (k + 1) : Nat) : Int) := by rw [v3.out]; omega
          go_wp2
          go_round
          case rel => exact ⟨k + 1, by omega, rfl, by go_num⟩
          case measure => have := v3.out; simp [intOf]; omega
        · obtain rfl : k = lb := by omega
          have v2 := Lib.hid I4.out
          have v3 : ¬ (0 : Int) < (I k : Int) := by have := v2.out; omega
          by_cases heq : d + (j : Int) = e + (k : Int)
          · have t1 : ((d + (j : Int)) != (e + (k : Int))) = false := by simp [heq]
            have HE := Lib.hid heq
            clear heq
            go_wp2
            go_loop [0] (fun x => ∃ i : Nat, i ≤ 64 - j ∧ x = .int .u64 (G i)) (fun x => (18446744073709551616 - intOf x).toNat)
            case atStart => exact ⟨0, Nat.zero_le _, by rw [G0.out]⟩
            case round =>
              obtain ⟨i, hi, rfl⟩ := hrel
              by_cases hi2 : i < 64 - j
              · have w1 := G2.out i hi2
                have w2 := Lib.hid (G1.out i)
                have w3 : ((G i : Int) / 9223372036854775808 == 0) = true := by simp; omega
                have w4 := G6.out i
                go_wp2
                go_round
                case rel => exact ⟨i + 1, by omega, by rw [w2.out]; go_num⟩
                case measure => simp [intOf]; omega
              · obtain rfl : i = 64 - j := by omega
                have w1 := G3.out
                have w2 := G4.out
                have w3 : ((G (64 - j) : Int) / 9223372036854775808 == 0) = false := by simp; omega
                go_wp2
                go_loop [2] (fun x => ∃ i : Nat, i ≤ 64 - k ∧ x = .int .u64 (K i)) (fun x => (18446744073709551616 - intOf x).toNat)
                case atStart => exact ⟨0, Nat.zero_le _, by rw [K0.out]⟩
                case round =>
                  obtain ⟨i, hi, rfl⟩ := hrel
                  by_cases hi2 : i < 64 - k
                  · have w1 := K2.out i hi2
                    have w2 := Lib.hid (K1.out i)
                    have w3 : ((K i : Int) / 9223372036854775808 == 0) = true := by simp; omega
                    have w4 := K6.out i
                    go_wp2
                    go_round
                    case rel => exact ⟨i + 1, by omega, by rw [w2.out]; go_num⟩
                    case measure => simp [intOf]; omega
                  · obtain rfl : i = 64 - k := by omega
                    have w1 := K3.out
                    have w2 := K4.out
                    have w3 : ((K (64 - k) : Int) / 9223372036854775808 == 0) = false := by simp; omega
                    go_wp2
                    go_ret
                    exact ⟨bool_eq (by rw [HR.out, if_pos HE.out]), rfl⟩
          · have t1 : ((d + (j : Int)) != (e + (k : Int))) = true := by simpa using heq
            have HE := Lib.hid heq
            clear heq
            go_wp2
            go_ret
            exact ⟨bool_eq (by rw [HR.out, if_neg HE.out]), rfl⟩

theorem rises_no (wd : Int) (a b : Nat) (w : World) (hT : Tab w) (m d e1 n f e2 : Int)
    (V : ∀ w, Tab w → Calls Tryd.prog 14 #[.int .i64 wd, .int .u64 a] w fun e w' => e = .returned (.tuple #[.int .u64 m, .int .i64 d, .int .i64 e1]) ∧ Below w.heap.size w w')
    (V2 : ∀ w, Tab w → Calls Tryd.prog 14 #[.int .i64 wd, .int .u64 b] w fun e w' => e = .returned (.tuple #[.int .u64 n, .int .i64 f, .int .i64 e2]) ∧ Below w.heap.size w w')
    (he : (e1 != 0) = true ∨ (e1 != 0) = false ∧ (e2 != 0) = true) :
    Calls Tryd.prog 5 #[.int .i64 wd, .int .u64 a, .int .u64 b] w fun e w' => e = .returned (.bool true) ∧ Below w.heap.size w w' := by
  have V' := Lib.hid V
  have V2' := Lib.hid V2
  have hTab := Lib.hid hT
  clear V V2 hT
  rcases he with he | ⟨he1, he2⟩
  all_goals
    go_enter Tryd.func5, Tryd.ntmps5
    go_wp2_with fail
    refine (shown_true _ hTab.out).mono ?_; rintro e w1 ⟨rfl, b1⟩
    have hTab1 := Lib.hid (hTab.out.below b1)
    go_wp2_with fail
    refine (V'.out _ hTab1.out).mono ?_; rintro e w2 ⟨rfl, b2⟩
    have hTab2 := Lib.hid (hTab1.out.below b2)
    go_wp2_with fail
    refine (V2'.out _ hTab2.out).mono ?_; rintro e w3 ⟨rfl, b3⟩
    go_wp2_with fail
    go_ret
    exact ⟨rfl, bthen (bthen b1 b2) b3⟩

theorem rises_yes (wd : Int) (a b : Nat) (w : World) (hT : Tab w) (m n : Nat) (d f : Int) (lt : Bool)
    (V : ∀ w, Tab w → Calls Tryd.prog 14 #[.int .i64 wd, .int .u64 a] w fun e w' => e = .returned (.tuple #[.int .u64 m, .int .i64 d, .int .i64 0]) ∧ Below w.heap.size w w')
    (V2 : ∀ w, Tab w → Calls Tryd.prog 14 #[.int .i64 wd, .int .u64 b] w fun e w' => e = .returned (.tuple #[.int .u64 n, .int .i64 f, .int .i64 0]) ∧ Below w.heap.size w w')
    (L : ∀ w, Calls Tryd.prog 19 #[.int .u64 m, .int .i64 d, .int .u64 n, .int .i64 f] w fun r' w' => r' = .returned (.bool lt) ∧ w = w')
    (o1 : ((m : Int) % 2 == 0) = false) (o2 : ((n : Int) % 2 == 0) = false) (hlt : decide (a < b) = lt)
    (heq : ((m : Int) == n) = true ∧ (d == f) = true ∧ ((a : Int) == b) = true ∨ ((m : Int) == n) = false ∧ ((a : Int) == b) = false ∨ ((m : Int) == n) = true ∧ (d == f) = false ∧ ((a : Int) == b) = false) :
    Calls Tryd.prog 5 #[.int .i64 wd, .int .u64 a, .int .u64 b] w fun e w' => e = .returned (.bool true) ∧ Below w.heap.size w w' := by
  have V' := Lib.hid V
  have V2' := Lib.hid V2
  have L' := Lib.hid L
  have hTab := Lib.hid hT
  clear V V2 L hT
  rcases heq with ⟨x1, x2, x3⟩ | ⟨x1, x2⟩ | ⟨x1, x2, x3⟩
  all_goals
    cases lt
    all_goals
      go_enter Tryd.func5, Tryd.ntmps5
      go_wp2_with fail
      refine (shown_true _ hTab.out).mono ?_; rintro e w1 ⟨rfl, b1⟩
      have hTab1 := Lib.hid (hTab.out.below b1)
      go_wp2_with fail
      refine (V'.out _ hTab1.out).mono ?_; rintro e w2 ⟨rfl, b2⟩
      have hTab2 := Lib.hid (hTab1.out.below b2)
      go_wp2_with fail
      refine (V2'.out _ hTab2.out).mono ?_; rintro e w3 ⟨rfl, b3⟩
      go_wp2_with fail
      refine (L'.out _).mono ?_; rintro e w4 ⟨rfl, rfl⟩
      go_wp2_with fail
      go_ret
      exact ⟨rfl, bthen (bthen b1 b2) b3⟩

/-- less of two keys' numbers says which key is less -/
theorem less_keys {n a b : Nat} (h1 : 2 ≤ n) (h2 : n ≤ 64) (ha : 0 < a) (ha2 : a < 2 ^ n) (hb : 0 < b) (hb2 : b < 2 ^ n) :
    decide (a < b) = if fE n a + (Lib.bitLen (fM n a) : Int) = fE n b + (Lib.bitLen (fM n b) : Int) then decide (fM n a * 2 ^ (64 - Lib.bitLen (fM n a)) < fM n b * 2 ^ (64 - Lib.bitLen (fM n b))) else decide (fE n a + (Lib.bitLen (fM n a) : Int) < fE n b + (Lib.bitLen (fM n b) : Int)) := by
  have key : ∀ k, fE n k + (Lib.bitLen (fM n k) : Int) = fS n k + 1 ∧ fM n k * 2 ^ (64 - Lib.bitLen (fM n k)) = 2 * fA n k := by
    intro k
    obtain ⟨c, q, e1, e2, e3, e4, e5, e6⟩ := M_parts n k
    have hl := bitLen_log (2 * q + 1) (by omega) (by have := (M_odd n k).2.2; omega)
    rw [e1, hl, e6]
    refine ⟨by omega, ?_⟩
    have : 64 - ((2 * q + 1).log2 + 1) = c + 1 := by omega
    rw [this, e3, Nat.pow_succ, Nat.mul_comm (2 * q + 1), Nat.mul_comm (2 ^ c) 2, Nat.mul_assoc]
  obtain ⟨p1, p2⟩ := key a
  obtain ⟨q1, q2⟩ := key b
  rw [p1, p2, q1, q2]
  have hw := W_lt_iff h1 h2 ha ha2 hb hb2
  rw [W_SA, W_SA] at hw
  obtain ⟨r1, r2⟩ := A_range n a
  obtain ⟨s1, s2⟩ := A_range n b
  by_cases h : fS n a + 1 = fS n b + 1
  · rw [if_pos h]
    congr 1
    apply propext
    rw [← hw]
    omega
  · rw [if_neg h]
    congr 1
    apply propext
    rw [← hw]
    omega

theorem rises_any (wd : Int) (a b : Nat) (ha : a < 18446744073709551616) (hb : b < 18446744073709551616) (w : World) (hT : Tab w) :
    Calls Tryd.prog 5 #[.int .i64 wd, .int .u64 a, .int .u64 b] w fun e w' => e = .returned (.bool true) ∧ Below w.heap.size w w' := by
  by_cases fa : ∃ n, Fit wd n a
  · obtain ⟨n, fa⟩ := fa
    by_cases fb : ∃ n, Fit wd n b
    · obtain ⟨n', fb⟩ := fb
      obtain rfl : n' = n := by have := fa.1; have := fb.1; omega
      obtain ⟨hn, h1, h2, a1, a2⟩ := fa
      obtain ⟨_, _, _, b1, b2⟩ := fb
      have n2 : 2 ≤ n' := by omega
      have n64 : n' ≤ 64 := by omega
      obtain ⟨ma1, ma2, ma3⟩ := M_odd n' a
      obtain ⟨mb1, mb2, mb3⟩ := M_odd n' b
      obtain ⟨ea1, ea2, _⟩ := E_bounds n2 n64 a1 a2
      obtain ⟨eb1, eb2, _⟩ := E_bounds n2 n64 b1 b2
      refine rises_yes wd a b w hT (fM n' a) (fM n' b) (fE n' a) (fE n' b) (decide (a < b)) (fun w hT => Value_yes wd n' a w hT ⟨hn, h1, h2, a1, a2⟩) (fun w hT => Value_yes wd n' b w hT ⟨hn, h1, h2, b1, b2⟩)
        (fun w => less_any _ _ _ _ w _ (by omega) (by omega) (by omega) (by omega) (by omega) (by omega) (by omega) (by omega) (less_keys n2 n64 a1 a2 b1 b2)) (by simp; omega) (by simp; omega) rfl ?_
      by_cases hab : a = b
      · subst hab
        exact Or.inl ⟨by simp, by simp, by simp⟩
      · by_cases hm : fM n' a = fM n' b
        · by_cases hd : fE n' a = fE n' b
          · exfalso
            apply hab
            apply W_inj n2 n64 a1 a2 b1 b2
            rw [← numW_of_key, ← numW_of_key, hm, hd]
          · exact Or.inr (Or.inr ⟨by simp [hm], by simpa using hd, by simp; omega⟩)
        · exact Or.inr (Or.inl ⟨by simp; omega, by simp; omega⟩)
    · exact rises_no wd a b w hT _ _ 0 0 0 1 (fun w hT => Value_yes wd n a w hT fa) (fun w _ => Value_no wd b w fb) (Or.inr ⟨rfl, rfl⟩)
  · by_cases fb : ∃ n, Fit wd n b
    · obtain ⟨n, fb⟩ := fb
      exact rises_no wd a b w hT 0 0 1 _ _ 0 (fun w _ => Value_no wd a w fa) (fun w hT => Value_yes wd n b w hT fb) (Or.inl rfl)
    · exact rises_no wd a b w hT 0 0 1 0 0 1 (fun w _ => Value_no wd a w fa) (fun w _ => Value_no wd b w fb) (Or.inl rfl)
theorem walk_PositRises (a0 : Int) (_ : (Lit.int .i64 a0).wf = true) (a1 : Int) (w1 : (Lit.int .u64 a1).wf = true) (a2 : Int) (w2 : (Lit.int .u64 a2).wf = true) (w : World) (hT : Tab w) :
    Calls Tryd.prog 5 #[.int .i64 a0, .int .u64 a1, .int .u64 a2] w fun e w' => e = .returned (.bool true) ∧ Below w.heap.size w w' := by
  obtain ⟨k, rfl, hk⟩ := u64_nat w1
  obtain ⟨l, rfl, hl⟩ := u64_nat w2
  exact rises_any a0 k l hk hl w hT
end Go.Proofs.YtfmecakoccnblaaDoor

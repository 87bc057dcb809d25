/- caliperref05.Value and Key: what they answer. Conditions: as each theorem names them. -/
import Derived.Test.YtfmecakoccnblaaDoorPositRval
import Derived.Test.YtfmecakoccnblaaDoorPositJmath
set_option linter.unusedVariables false
namespace Go.Proofs.YtfmecakoccnblaaDoor
open Go.RowKit

theorem refValue_yes (wd : Int) (n key : Nat) (w : World) (h : Fit wd n key) :
    Calls Tryd.prog 15 #[.int .i64 wd, .int .u64 key] w fun e w' => e = .returned (.tuple #[.int .u64 (fM n key), .int .i64 (fE n key), .bool true]) ∧ Below w.heap.size w w' := by
  have R := fun w => refSplit_yes wd n key w h
  obtain ⟨hn, h1, h2, h3, h4⟩ := h
  have n2 : 2 ≤ n := by omega
  have n64 : n ≤ 64 := by omega
  obtain ⟨t1, t2, t3, t4⟩ := tail_parts n2 n64 h3 h4
  obtain ⟨r1, r2⟩ := reg_bounds n2 n64 h3 h4
  obtain ⟨c, q, e1, e2, e3, e4, e5⟩ := sig_parts n2 n64 h3 h4
  have := refValue_walk wd (fReg n key) _ (fE n key) key (fExp n key) (fFrac n key) (fBits n key) c q w R r1 r2 t2 t4 t3 e1 e4 e5 rfl e3
  rw [← e2] at this
  exact this

theorem refValue_no (wd : Int) (key : Nat) (w : World) (hk : key < 18446744073709551616) (h : ¬ ∃ n, Fit wd n key) :
    Calls Tryd.prog 15 #[.int .i64 wd, .int .u64 key] w fun e w' => e = .returned (.tuple #[.int .u64 0, .int .i64 0, .bool false]) ∧ Below w.heap.size w w' := by
  have S := Lib.hid (fun w => refSplit_no wd key w hk h)
  clear h
  go_enter Tryd.func15, Tryd.ntmps15
  go_wp2_with fail
  refine (S.out _).mono ?_; rintro e w1 ⟨rfl, b1⟩
  go_wp2_with fail
  refine bodyPost_ret (v := .tuple #[.int .u64 0, .int .i64 0, .bool false]) ?_ rfl ⟨rfl, bgrow b1 _⟩
  simp [results, Tryd.results15, go_sem]

theorem fits_yes (wd : Int) (w : World) (h1 : 3 ≤ wd) (h2 : wd ≤ 65) :
    Calls Tryd.prog 17 #[.int .i64 wd] w fun e w' => e = .returned (.int .i64 0) ∧ w = w' := by
  have t1 : decide (wd < 3) = false := by simp; omega
  have t2 : decide (65 < wd) = false := by simp; omega
  go_enter Tryd.func17, Tryd.ntmps17
  go_wp2_with fail
  go_ret
  exact ⟨rfl, rfl⟩
theorem fits_no (wd : Int) (w : World) (h : ¬ (3 ≤ wd ∧ wd ≤ 65)) :
    Calls Tryd.prog 17 #[.int .i64 wd] w fun e w' => e = .returned (.int .i64 1) ∧ w = w' := by
  by_cases h1 : wd < 3
  · have t1 : decide (wd < 3) = true := by simpa using h1
    clear h
    go_enter Tryd.func17, Tryd.ntmps17
    go_wp2_with fail
    go_ret
    exact ⟨rfl, rfl⟩
  · have t1 : decide (wd < 3) = false := by simpa using h1
    have t2 : decide (65 < wd) = true := by simp; omega
    clear h
    go_enter Tryd.func17, Tryd.ntmps17
    go_wp2_with fail
    go_ret
    exact ⟨rfl, rfl⟩

theorem top_any (a : Nat) (ha : a < 18446744073709551616) (w : World) :
    Calls Tryd.prog 36 #[.int .u64 a] w fun e w' => e = .returned (.int .i64 (Lib.bitLen a)) ∧ w = w' := by
  obtain ⟨H, h0, h1, h2, h3, h4⟩ := halves a ha
  have hla64 : Lib.bitLen a ≤ 64 := Lib.bitLen_le a 64 (by decide) ha
  generalize Lib.bitLen a = la at *
  have H0 := Lib.hid h0
  have H1 := Lib.hid h1
  have H2 := Lib.hid h2
  have H3 := Lib.hid h3
  have H4 := Lib.hid h4
  clear h0 h1 h2 h3 h4
  go_enter Tryd.func36, Tryd.ntmps36
  go_wp2_with fail
  go_loop [0, 3] (fun x p => ∃ j : Nat, j ≤ la ∧ x = .int .u64 (H j) ∧ p = .int .i64 j) (fun x _ => (intOf x).toNat)
  case atStart => exact ⟨0, Nat.zero_le _, by rw [H0.out], rfl⟩
  case round =>
    obtain ⟨j, hj, rfl, rfl⟩ := hrel
    have u1 := H2.out j
    by_cases hlt : j < la
    · have u2 := H3.out j hlt
      have u3 := Lib.hid (H1.out j)
      have u4 : ((H j : Nat) : Int) / 2 = ((H (j + 1) : Nat) : Int) := by rw [u3.out]; omega
      go_wp2_with fail
      go_round
      case rel => exact ⟨j + 1, by omega, rfl, by go_num⟩
      case measure => have := u3.out; simp [intOf]; omega
    · obtain rfl : j = la := by omega
      have u2 := H4.out
      have u3 : ¬ (0 : Int) < (H j : Int) := by omega
      have U2 := Lib.hid u2
      clear u2
      go_wp2_with fail
      go_ret
      exact ⟨rfl, rfl⟩

theorem refLess_any (a b : Nat) (d e : Int) (w : World) (r : Bool) (a0 : a ≠ 0) (b0 : b ≠ 0) (ha : a < 18446744073709551616) (hb : b < 18446744073709551616) (hd1 : -1000 ≤ d) (hd2 : d ≤ 1000) (he1 : -1000 ≤ e) (he2 : e ≤ 1000)
    (hr : r = if d + (Lib.bitLen a : Int) = e + (Lib.bitLen b : Int) then decide (a * 2 ^ (64 - Lib.bitLen a) < b * 2 ^ (64 - Lib.bitLen b)) else decide (d + (Lib.bitLen a : Int) < e + (Lib.bitLen b : Int))) :
    Calls Tryd.prog 32 #[.int .u64 a, .int .i64 d, .int .u64 b, .int .i64 e] w fun r' w' => r' = .returned (.bool r) ∧ w = w' := by
  obtain ⟨G, g0, g1, g2, g3, g4, g5, g6⟩ := doubles a a0 ha
  obtain ⟨K, k0, k1, k2, k3, k4, k5, k6⟩ := doubles b b0 hb
  have hla64 : Lib.bitLen a ≤ 64 := Lib.bitLen_le a 64 (by decide) ha
  have hlb64 : Lib.bitLen b ≤ 64 := Lib.bitLen_le b 64 (by decide) hb
  rw [← g5, ← k5] at hr
  have T1 := Lib.hid (fun w => top_any a ha w)
  have T2 := Lib.hid (fun w => top_any b hb w)
  generalize Lib.bitLen a = la at *
  generalize Lib.bitLen b = lb at *
  have HR := Lib.hid hr
  have G0 := Lib.hid g0
  have G1 := Lib.hid g1
  have G2 := Lib.hid g2
  have G3 := Lib.hid g3
  have G4 := Lib.hid g4
  have G6 := Lib.hid g6
  have K6 := Lib.hid k6
  have K0 := Lib.hid k0
  have K1 := Lib.hid k1
  have K2 := Lib.hid k2
  have K3 := Lib.hid k3
  have K4 := Lib.hid k4
  clear g0 g1 g2 g3 g4 g5 g6 k0 k1 k2 k3 k4 k5 k6 hr
  by_cases heq : d + (la : Int) = e + (lb : Int)
  · have t0 : (la : Int) + d = (lb : Int) + e := by omega
    have t1 : (((la : Int) + d) != ((lb : Int) + e)) = false := by simp [t0]
    have HE := Lib.hid heq
    clear heq t0
    go_enter Tryd.func32, Tryd.ntmps32
    go_wp2_with fail
    refine (T1.out _).mono ?_; rintro r' w' ⟨rfl, rfl⟩
    go_wp2_with fail
    refine (T2.out _).mono ?_; rintro r' w' ⟨rfl, rfl⟩
    go_wp2_with fail
    go_loop [0] (fun x => ∃ i : Nat, i ≤ 64 - la ∧ x = .int .u64 (G i)) (fun x => (18446744073709551616 - intOf x).toNat)
    case atStart => exact ⟨0, Nat.zero_le _, by rw [G0.out]⟩
    case round =>
      obtain ⟨i, hi, rfl⟩ := hrel
      by_cases hi2 : i < 64 - la
      · have w1 := G2.out i hi2
        have w2 := Lib.hid (G1.out i)
        have w3 : ((G i : Int) / 9223372036854775808 == 0) = true := by simp; omega
        have w4 := G6.out i
        go_wp2_with fail
        go_round
        case rel => exact ⟨i + 1, by omega, by rw [w2.out]; go_num⟩
        case measure => simp [intOf]; omega
      · obtain rfl : i = 64 - la := by omega
        have w1 := G3.out
        have w2 := G4.out
        have w3 : ((G (64 - la) : Int) / 9223372036854775808 == 0) = false := by simp; omega
        go_wp2_with fail
        go_loop [2] (fun x => ∃ i : Nat, i ≤ 64 - lb ∧ x = .int .u64 (K i)) (fun x => (18446744073709551616 - intOf x).toNat)
        case atStart => exact ⟨0, Nat.zero_le _, by rw [K0.out]⟩
        case round =>
          obtain ⟨i, hi, rfl⟩ := hrel
          by_cases hi2 : i < 64 - lb
          · have w1 := K2.out i hi2
            have w2 := Lib.hid (K1.out i)
            have w3 : ((K i : Int) / 9223372036854775808 == 0) = true := by simp; omega
            have w4 := K6.out i
            go_wp2_with fail
            go_round
            case rel => exact ⟨i + 1, by omega, by rw [w2.out]; go_num⟩
            case measure => simp [intOf]; omega
          · obtain rfl : i = 64 - lb := by omega
            have w1 := K3.out
            have w2 := K4.out
            have w3 : ((K (64 - lb) : Int) / 9223372036854775808 == 0) = false := by simp; omega
            go_wp2_with fail
            go_ret
            exact ⟨bool_eq (by rw [HR.out, if_pos HE.out]), rfl⟩
  · have t0 : ¬ (la : Int) + d = (lb : Int) + e := by omega
    have t1 : (((la : Int) + d) != ((lb : Int) + e)) = true := by simpa using t0
    have HE := Lib.hid heq
    clear heq t0
    go_enter Tryd.func32, Tryd.ntmps32
    go_wp2_with fail
    refine (T1.out _).mono ?_; rintro r' w' ⟨rfl, rfl⟩
    go_wp2_with fail
    refine (T2.out _).mono ?_; rintro r' w' ⟨rfl, rfl⟩
    go_wp2_with fail
    go_ret
    exact ⟨bool_eq (by rw [HR.out, if_neg HE.out, Int.add_comm d, Int.add_comm e]), rfl⟩
end Go.Proofs.YtfmecakoccnblaaDoor

/- MiniBack walked: what a magnitude means has that magnitude; one bit more changes nothing. Conditions: the table of math-bits lies as the text lays it. -/
import Derived.Test.YtifcoifpmnabpaaDoorMiniLaws
namespace Go.Proofs.YtifcoifpmnabpaaDoor
open Go.RowKit

theorem key_back (man key : Nat) (bias : Int) (w : World) (hT : Tab w) (h1 : man ≤ 60) (hk : key < 18446744073709551616) (h0 : key ≠ 0) (h2 : key / 2 ^ man ≤ 4095) (h3 : -2000 ≤ bias) (h4 : bias ≤ 2000)
    (c : Nat) (hc : Lib.ctz 64 (sig man key) = c) :
    Calls Tryd.prog 13 #[.int .i64 man, .int .i64 bias, .int .u64 ((sig man key / 2 ^ c : Nat) : Int), .int .i64 (((max (key / 2 ^ man) 1 : Nat) : Int) - bias - man + c)] w
      fun e w' => e = .returned (.tuple #[.int .u64 key, .int .i64 0]) ∧ ∃ n, w' = w.drewN n := by
  have hp := sig_pos man key h0
  have hl := sig_lt man key
  have h64 : 2 ^ (man + 1) ≤ 2 ^ 61 := Nat.pow_le_pow_right (by decide) (by omega)
  have hpm : 0 < 2 ^ man := Nat.two_pow_pos man
  obtain ⟨k, q, e1, e2, hk64, e3⟩ := odd_parts _ hp (by omega)
  obtain rfl : k = c := by omega
  have hck : 2 ^ k * (2 * q + 1) = sig man key := e1.symm
  have hm1 : 2 * q + 1 < 18446744073709551616 := by
    have : 2 * q + 1 ≤ 2 ^ k * (2 * q + 1) := Nat.le_mul_of_pos_left _ (Nat.two_pow_pos k)
    omega
  have hz := ctz_odd (2 * q + 1) (by omega) hm1
  have hs := bitLen_log (2 * q + 1) (by omega) hm1
  have hlog : Nat.log2 (sig man key) = k + Nat.log2 (2 * q + 1) := by
    apply log2_of
    · rw [e1, Nat.pow_add]
      exact Nat.mul_le_mul_left _ (Nat.log2_self_le (by omega))
    · rw [e1, show k + (2 * q + 1).log2 + 1 = k + ((2 * q + 1).log2 + 1) by omega, Nat.pow_add]
      exact Nat.mul_lt_mul_of_pos_left Nat.lt_log2_self (Nat.two_pow_pos k)
  have hlm : Nat.log2 (sig man key) < man + 1 := (Nat.log2_lt hp).2 hl
  have hsz : (2 * q + 1).log2 < 64 := by omega
  have hm0 : (((2 * q + 1 : Nat) : Int) == 0) = false := by simp; omega
  have hsh : ∀ (x low : Int), x - low = (k : Int) → IntKind.u64.wrap (((2 * q + 1 : Nat) : Int) * 2 ^ (x - low).toNat) = ((sig man key : Nat) : Int) := by
    intro x low h
    rw [h, Int.toNat_natCast, wrap_shl _ _ (by rw [Nat.mul_comm, hck]; omega), Nat.mul_comm, hck]
  rw [e3]
  by_cases hf : key / 2 ^ man = 0
  · have e : sig man key = key := by
      have := Nat.div_add_mod key (2 ^ man)
      simp only [sig, hf, if_true] at *
      omega
    have hlt : key < 2 ^ man := by
      have := Nat.div_add_mod key (2 ^ man)
      have := Nat.mod_lt key hpm
      rw [hf] at *
      omega
    have hlk : Nat.log2 (sig man key) < man := by rw [e]; exact (Nat.log2_lt h0).2 hlt
    rw [hf]
    refine key_small man bias _ (2 * q + 1) w hT h1 h3 h4 hm0 hm1 (by omega) (by omega) hz _ hs hsz (1 - bias - man) (by omega) (by omega) (by omega) (by omega) key ?_ ?_
    · rw [hsh _ _ (by omega), e]
    · rw [cast_shr, hf]; rfl
  · have hf1 : 1 ≤ key / 2 ^ man := Nat.one_le_iff_ne_zero.2 hf
    have e : sig man key = key % 2 ^ man + 2 ^ man := by simp [sig, hf]
    have hmod := Nat.mod_lt key hpm
    have hdm := Nat.div_add_mod key (2 ^ man)
    have hlk : Nat.log2 (sig man key) = man := by
      apply log2_of
      · omega
      · exact hl
    rw [show max (key / 2 ^ man) 1 = key / 2 ^ man from Nat.max_eq_left hf1]
    generalize hF : key / 2 ^ man = f at *
    have hshf : f * 2 ^ man < 18446744073709551616 := by rw [Nat.mul_comm]; omega
    refine key_large man bias _ (2 * q + 1) w hT h1 h3 h4 hm0 hm1 (by omega) (by omega) hz _ hs hsz (f - bias - man) (by omega) (by omega) (by omega) (by omega) (sig man key) ?_ (by omega) (by omega) ?_ key ?_
    · exact hsh _ _ (by omega)
    · rw [cast_shr]
      have : 1 ≤ sig man key / 2 ^ man := (Nat.le_div_iff_mul_le hpm).2 (by omega)
      generalize sig man key / 2 ^ man = x at *
      simp; omega
    · rw [u64_andNot_top _ man (by omega) (by omega) (by omega), show ((f : Int) - bias - man + bias + man) = (f : Int) by omega, wrap_shl _ _ hshf,
        bits_or_u64_nat _ _ hshf (by omega), or_shl _ _ _ (by omega)]
      rw [Nat.mul_comm f]
      congr 1
      omega

theorem sig_double (man key : Nat) : sig (man + 1) (2 * key) = 2 * sig man key := by
  have e1 : 2 * key / 2 ^ (man + 1) = key / 2 ^ man := by
    rw [Nat.pow_succ, Nat.mul_comm _ 2, Nat.mul_div_mul_left _ _ (by decide)]
  have e2 : 2 * key % 2 ^ (man + 1) = 2 * (key % 2 ^ man) := by
    rw [Nat.pow_succ, Nat.mul_comm _ 2, Nat.mul_mod_mul_left]
  unfold sig
  rw [e1, e2, Nat.pow_succ]
  split <;> omega
theorem div_double (man key : Nat) : 2 * key / 2 ^ (man + 1) = key / 2 ^ man := by
  rw [Nat.pow_succ, Nat.mul_comm _ 2, Nat.mul_div_mul_left _ _ (by decide)]

/-- the same number with one bit more -/
theorem value_double (man key : Nat) (bias : Int) (w : World) (hT : Tab w) (h1 : man < 60) (hk : 2 * key < 18446744073709551616) (h0 : key ≠ 0) (h2 : key / 2 ^ man ≤ 4095) (h3 : -2000 ≤ bias) (h4 : bias ≤ 2000)
    (c : Nat) (hc : Lib.ctz 64 (sig man key) = c) :
    Calls Tryd.prog 9 #[.int .i64 ((man : Int) + 1), .int .i64 bias, .int .u64 ((2 * key : Nat) : Int)] w fun e w' => e = .returned (.tuple #[.int .u64 ((sig man key / 2 ^ c : Nat) : Int), .int .i64 (((max (key / 2 ^ man) 1 : Nat) : Int) - bias - man + c), .int .i64 0]) ∧ ∃ n, w' = w.drewN n := by
  have hp := sig_pos man key h0
  have hl := sig_lt man key
  have h64 : 2 ^ (man + 1) ≤ 2 ^ 61 := Nat.pow_le_pow_right (by decide) (by omega)
  have h := value_yes (man + 1) (2 * key) bias w hT (by omega) hk (by omega) (by rw [div_double]; exact h2) h3 h4 (c + 1) (by rw [sig_double, ctz_double _ hp (by omega), hc])
  rw [sig_double, div_double man key, div_double c (sig man key)] at h
  generalize max (key / 2 ^ man) 1 = f at *
  have e : ((f : Int) - bias - ((man + 1 : Nat) : Int) + ((c + 1 : Nat) : Int)) = f - bias - man + c := by omega
  rw [e] at h
  exact h

/-- MiniBack where Value refuses. -/
theorem back_no (man bias key : Int) (w : World) (hT : Tab w)
    (V : ∀ w, Calls Tryd.prog 9 #[.int .i64 man, .int .i64 bias, .int .u64 key] w fun e w' => e = .returned (.tuple #[.int .u64 0, .int .i64 0, .int .i64 1]) ∧ ∃ n, w' = w.drewN n) :
    Calls Tryd.prog 4 #[.int .i64 man, .int .i64 bias, .int .u64 key] w fun e w' => e = .returned (.bool true) ∧ ∃ n, w' = w.drewN n := by
  have hTab := Lib.hid hT
  have V' := Lib.hid V
  clear hT V
  go_enter Tryd.func4, Tryd.ntmps4
  go_wp2_with fail
  refine (shown_true _ hTab.out).mono ?_; rintro e w' ⟨rfl, n1, rfl⟩
  go_wp2_with fail
  refine (V'.out _).mono ?_; rintro e w' ⟨rfl, n2, rfl⟩
  go_wp2_with fail
  go_ret
  exact ⟨rfl, _, rfl⟩

theorem back_zero_full (man key : Nat) (bias : Int) (w : World) (hT : Tab w) (h1 : man ≤ 60) (hk : key < 18446744073709551616) (m : Nat) (x : Int) (f a : Nat)
    (V : ∀ w, Tab w → Calls Tryd.prog 9 #[.int .i64 man, .int .i64 bias, .int .u64 key] w fun e w' => e = .returned (.tuple #[.int .u64 m, .int .i64 x, .int .i64 0]) ∧ ∃ n, w' = w.drewN n)
    (K : ∀ w, Tab w → Calls Tryd.prog 13 #[.int .i64 man, .int .i64 bias, .int .u64 m, .int .i64 x] w fun e w' => e = .returned (.tuple #[.int .u64 key, .int .i64 0]) ∧ ∃ n, w' = w.drewN n)
    (S : ∀ w, Calls Tryd.prog 8 #[.int .i64 man, .int .u64 key] w fun e w' => e = .returned (.tuple #[.int .u64 f, .int .u64 a, .int .i64 0]) ∧ ∃ n, w' = w.drewN n)
    (hfa : IntKind.u64.wrap (IntKind.u64.wrap ((f : Int) * 2 ^ man) + a) = key)
    (q1 : ((m : Int) == 0) = true) (q2 : ((m : Int) != 0) = false) (q4 : ((key : Int) == 0) = true)
    (c1 : ((man : Int) == 60) = true) :
    Calls Tryd.prog 4 #[.int .i64 man, .int .i64 bias, .int .u64 key] w fun e w' => e = .returned (.bool true) ∧ ∃ n, w' = w.drewN n := by
  have hTab := Lib.hid hT
  have V' := Lib.hid V
  have K' := Lib.hid K
  have S' := Lib.hid S
  clear hT V K S
  go_enter Tryd.func4, Tryd.ntmps4
  go_wp2_with fail
  refine (shown_true _ hTab.out).mono ?_; rintro e w' ⟨rfl, n1, rfl⟩
  go_wp2_with fail
  refine (V'.out _ (hTab.out.drewN _)).mono ?_; rintro e w' ⟨rfl, n2, rfl⟩
  go_wp2_with fail
  refine (K'.out _ (hTab.out.drewN _)).mono ?_; rintro e w' ⟨rfl, n3, rfl⟩
  go_wp2_with fail
  refine (S'.out _).mono ?_; rintro e w' ⟨rfl, n4, rfl⟩
  go_wp2_with fail
  go_ret
  exact ⟨rfl, _, rfl⟩

theorem back_zero_top (man key : Nat) (bias : Int) (w : World) (hT : Tab w) (h1 : man ≤ 60) (hk : key < 18446744073709551616) (m : Nat) (x : Int) (f a : Nat)
    (V : ∀ w, Tab w → Calls Tryd.prog 9 #[.int .i64 man, .int .i64 bias, .int .u64 key] w fun e w' => e = .returned (.tuple #[.int .u64 m, .int .i64 x, .int .i64 0]) ∧ ∃ n, w' = w.drewN n)
    (K : ∀ w, Tab w → Calls Tryd.prog 13 #[.int .i64 man, .int .i64 bias, .int .u64 m, .int .i64 x] w fun e w' => e = .returned (.tuple #[.int .u64 key, .int .i64 0]) ∧ ∃ n, w' = w.drewN n)
    (S : ∀ w, Calls Tryd.prog 8 #[.int .i64 man, .int .u64 key] w fun e w' => e = .returned (.tuple #[.int .u64 f, .int .u64 a, .int .i64 0]) ∧ ∃ n, w' = w.drewN n)
    (hfa : IntKind.u64.wrap (IntKind.u64.wrap ((f : Int) * 2 ^ man) + a) = key)
    (q1 : ((m : Int) == 0) = true) (q2 : ((m : Int) != 0) = false) (q4 : ((key : Int) == 0) = true)
    (c1 : ((man : Int) == 60) = false) (c2 : ((key : Int) / 9223372036854775808 == 1) = true) :
    Calls Tryd.prog 4 #[.int .i64 man, .int .i64 bias, .int .u64 key] w fun e w' => e = .returned (.bool true) ∧ ∃ n, w' = w.drewN n := by
  have hTab := Lib.hid hT
  have V' := Lib.hid V
  have K' := Lib.hid K
  have S' := Lib.hid S
  clear hT V K S
  go_enter Tryd.func4, Tryd.ntmps4
  go_wp2_with fail
  refine (shown_true _ hTab.out).mono ?_; rintro e w' ⟨rfl, n1, rfl⟩
  go_wp2_with fail
  refine (V'.out _ (hTab.out.drewN _)).mono ?_; rintro e w' ⟨rfl, n2, rfl⟩
  go_wp2_with fail
  refine (K'.out _ (hTab.out.drewN _)).mono ?_; rintro e w' ⟨rfl, n3, rfl⟩
  go_wp2_with fail
  refine (S'.out _).mono ?_; rintro e w' ⟨rfl, n4, rfl⟩
  go_wp2_with fail
  go_ret
  exact ⟨rfl, _, rfl⟩

theorem back_zero_more (man key : Nat) (bias : Int) (w : World) (hT : Tab w) (h1 : man ≤ 60) (hk : key < 18446744073709551616) (m : Nat) (x : Int) (f a : Nat)
    (V : ∀ w, Tab w → Calls Tryd.prog 9 #[.int .i64 man, .int .i64 bias, .int .u64 key] w fun e w' => e = .returned (.tuple #[.int .u64 m, .int .i64 x, .int .i64 0]) ∧ ∃ n, w' = w.drewN n)
    (K : ∀ w, Tab w → Calls Tryd.prog 13 #[.int .i64 man, .int .i64 bias, .int .u64 m, .int .i64 x] w fun e w' => e = .returned (.tuple #[.int .u64 key, .int .i64 0]) ∧ ∃ n, w' = w.drewN n)
    (S : ∀ w, Calls Tryd.prog 8 #[.int .i64 man, .int .u64 key] w fun e w' => e = .returned (.tuple #[.int .u64 f, .int .u64 a, .int .i64 0]) ∧ ∃ n, w' = w.drewN n)
    (Y : ∀ w, Tab w → Calls Tryd.prog 9 #[.int .i64 ((man : Int) + 1), .int .i64 bias, .int .u64 (2 * (key : Int))] w fun e w' => e = .returned (.tuple #[.int .u64 m, .int .i64 x, .int .i64 0]) ∧ ∃ n, w' = w.drewN n)
    (hfa : IntKind.u64.wrap (IntKind.u64.wrap ((f : Int) * 2 ^ man) + a) = key)
    (q1 : ((m : Int) == 0) = true) (q2 : ((m : Int) != 0) = false) (q4 : ((key : Int) == 0) = true)
    (c1 : ((man : Int) == 60) = false) (c2 : ((key : Int) / 9223372036854775808 == 1) = false) (c3 : key < 9223372036854775808) :
    Calls Tryd.prog 4 #[.int .i64 man, .int .i64 bias, .int .u64 key] w fun e w' => e = .returned (.bool true) ∧ ∃ n, w' = w.drewN n := by
  have hTab := Lib.hid hT
  have V' := Lib.hid V
  have K' := Lib.hid K
  have S' := Lib.hid S
  have Y' := Lib.hid Y
  clear hT V K S Y
  go_enter Tryd.func4, Tryd.ntmps4
  go_wp2_with fail
  refine (shown_true _ hTab.out).mono ?_; rintro e w' ⟨rfl, n1, rfl⟩
  go_wp2_with fail
  refine (V'.out _ (hTab.out.drewN _)).mono ?_; rintro e w' ⟨rfl, n2, rfl⟩
  go_wp2_with fail
  refine (K'.out _ (hTab.out.drewN _)).mono ?_; rintro e w' ⟨rfl, n3, rfl⟩
  go_wp2_with fail
  refine (S'.out _).mono ?_; rintro e w' ⟨rfl, n4, rfl⟩
  go_wp2_with fail
  refine (Y'.out _ (hTab.out.drewN _)).mono ?_; rintro e w' ⟨rfl, n5, rfl⟩
  go_wp2_with fail
  go_ret
  exact ⟨rfl, _, rfl⟩

theorem back_some_full (man key : Nat) (bias : Int) (w : World) (hT : Tab w) (h1 : man ≤ 60) (hk : key < 18446744073709551616) (m : Nat) (x : Int) (f a : Nat)
    (V : ∀ w, Tab w → Calls Tryd.prog 9 #[.int .i64 man, .int .i64 bias, .int .u64 key] w fun e w' => e = .returned (.tuple #[.int .u64 m, .int .i64 x, .int .i64 0]) ∧ ∃ n, w' = w.drewN n)
    (K : ∀ w, Tab w → Calls Tryd.prog 13 #[.int .i64 man, .int .i64 bias, .int .u64 m, .int .i64 x] w fun e w' => e = .returned (.tuple #[.int .u64 key, .int .i64 0]) ∧ ∃ n, w' = w.drewN n)
    (S : ∀ w, Calls Tryd.prog 8 #[.int .i64 man, .int .u64 key] w fun e w' => e = .returned (.tuple #[.int .u64 f, .int .u64 a, .int .i64 0]) ∧ ∃ n, w' = w.drewN n)
    (hfa : IntKind.u64.wrap (IntKind.u64.wrap ((f : Int) * 2 ^ man) + a) = key)
    (q1 : ((m : Int) == 0) = false) (q2 : ((m : Int) != 0) = true) (q3 : ((m : Int) % 2 == 0) = false) (q4 : ((key : Int) == 0) = false)
    (c1 : ((man : Int) == 60) = true) :
    Calls Tryd.prog 4 #[.int .i64 man, .int .i64 bias, .int .u64 key] w fun e w' => e = .returned (.bool true) ∧ ∃ n, w' = w.drewN n := by
  have hTab := Lib.hid hT
  have V' := Lib.hid V
  have K' := Lib.hid K
  have S' := Lib.hid S
  clear hT V K S
  go_enter Tryd.func4, Tryd.ntmps4
  go_wp2_with fail
  refine (shown_true _ hTab.out).mono ?_; rintro e w' ⟨rfl, n1, rfl⟩
  go_wp2_with fail
  refine (V'.out _ (hTab.out.drewN _)).mono ?_; rintro e w' ⟨rfl, n2, rfl⟩
  go_wp2_with fail
  refine (K'.out _ (hTab.out.drewN _)).mono ?_; rintro e w' ⟨rfl, n3, rfl⟩
  go_wp2_with fail
  refine (S'.out _).mono ?_; rintro e w' ⟨rfl, n4, rfl⟩
  go_wp2_with fail
  go_ret
  exact ⟨rfl, _, rfl⟩

theorem back_some_top (man key : Nat) (bias : Int) (w : World) (hT : Tab w) (h1 : man ≤ 60) (hk : key < 18446744073709551616) (m : Nat) (x : Int) (f a : Nat)
    (V : ∀ w, Tab w → Calls Tryd.prog 9 #[.int .i64 man, .int .i64 bias, .int .u64 key] w fun e w' => e = .returned (.tuple #[.int .u64 m, .int .i64 x, .int .i64 0]) ∧ ∃ n, w' = w.drewN n)
    (K : ∀ w, Tab w → Calls Tryd.prog 13 #[.int .i64 man, .int .i64 bias, .int .u64 m, .int .i64 x] w fun e w' => e = .returned (.tuple #[.int .u64 key, .int .i64 0]) ∧ ∃ n, w' = w.drewN n)
    (S : ∀ w, Calls Tryd.prog 8 #[.int .i64 man, .int .u64 key] w fun e w' => e = .returned (.tuple #[.int .u64 f, .int .u64 a, .int .i64 0]) ∧ ∃ n, w' = w.drewN n)
    (hfa : IntKind.u64.wrap (IntKind.u64.wrap ((f : Int) * 2 ^ man) + a) = key)
    (q1 : ((m : Int) == 0) = false) (q2 : ((m : Int) != 0) = true) (q3 : ((m : Int) % 2 == 0) = false) (q4 : ((key : Int) == 0) = false)
    (c1 : ((man : Int) == 60) = false) (c2 : ((key : Int) / 9223372036854775808 == 1) = true) :
    Calls Tryd.prog 4 #[.int .i64 man, .int .i64 bias, .int .u64 key] w fun e w' => e = .returned (.bool true) ∧ ∃ n, w' = w.drewN n := by
  have hTab := Lib.hid hT
  have V' := Lib.hid V
  have K' := Lib.hid K
  have S' := Lib.hid S
  clear hT V K S
  go_enter Tryd.func4, Tryd.ntmps4
  go_wp2_with fail
  refine (shown_true _ hTab.out).mono ?_; rintro e w' ⟨rfl, n1, rfl⟩
  go_wp2_with fail
  refine (V'.out _ (hTab.out.drewN _)).mono ?_; rintro e w' ⟨rfl, n2, rfl⟩
  go_wp2_with fail
  refine (K'.out _ (hTab.out.drewN _)).mono ?_; rintro e w' ⟨rfl, n3, rfl⟩
  go_wp2_with fail
  refine (S'.out _).mono ?_; rintro e w' ⟨rfl, n4, rfl⟩
  go_wp2_with fail
  go_ret
  exact ⟨rfl, _, rfl⟩

theorem back_some_more (man key : Nat) (bias : Int) (w : World) (hT : Tab w) (h1 : man ≤ 60) (hk : key < 18446744073709551616) (m : Nat) (x : Int) (f a : Nat)
    (V : ∀ w, Tab w → Calls Tryd.prog 9 #[.int .i64 man, .int .i64 bias, .int .u64 key] w fun e w' => e = .returned (.tuple #[.int .u64 m, .int .i64 x, .int .i64 0]) ∧ ∃ n, w' = w.drewN n)
    (K : ∀ w, Tab w → Calls Tryd.prog 13 #[.int .i64 man, .int .i64 bias, .int .u64 m, .int .i64 x] w fun e w' => e = .returned (.tuple #[.int .u64 key, .int .i64 0]) ∧ ∃ n, w' = w.drewN n)
    (S : ∀ w, Calls Tryd.prog 8 #[.int .i64 man, .int .u64 key] w fun e w' => e = .returned (.tuple #[.int .u64 f, .int .u64 a, .int .i64 0]) ∧ ∃ n, w' = w.drewN n)
    (Y : ∀ w, Tab w → Calls Tryd.prog 9 #[.int .i64 ((man : Int) + 1), .int .i64 bias, .int .u64 (2 * (key : Int))] w fun e w' => e = .returned (.tuple #[.int .u64 m, .int .i64 x, .int .i64 0]) ∧ ∃ n, w' = w.drewN n)
    (hfa : IntKind.u64.wrap (IntKind.u64.wrap ((f : Int) * 2 ^ man) + a) = key)
    (q1 : ((m : Int) == 0) = false) (q2 : ((m : Int) != 0) = true) (q3 : ((m : Int) % 2 == 0) = false) (q4 : ((key : Int) == 0) = false)
    (c1 : ((man : Int) == 60) = false) (c2 : ((key : Int) / 9223372036854775808 == 1) = false) (c3 : key < 9223372036854775808) :
    Calls Tryd.prog 4 #[.int .i64 man, .int .i64 bias, .int .u64 key] w fun e w' => e = .returned (.bool true) ∧ ∃ n, w' = w.drewN n := by
  have hTab := Lib.hid hT
  have V' := Lib.hid V
  have K' := Lib.hid K
  have S' := Lib.hid S
  have Y' := Lib.hid Y
  clear hT V K S Y
  go_enter Tryd.func4, Tryd.ntmps4
  go_wp2_with fail
  refine (shown_true _ hTab.out).mono ?_; rintro e w' ⟨rfl, n1, rfl⟩
  go_wp2_with fail
  refine (V'.out _ (hTab.out.drewN _)).mono ?_; rintro e w' ⟨rfl, n2, rfl⟩
  go_wp2_with fail
  refine (K'.out _ (hTab.out.drewN _)).mono ?_; rintro e w' ⟨rfl, n3, rfl⟩
  go_wp2_with fail
  refine (S'.out _).mono ?_; rintro e w' ⟨rfl, n4, rfl⟩
  go_wp2_with fail
  refine (Y'.out _ (hTab.out.drewN _)).mono ?_; rintro e w' ⟨rfl, n5, rfl⟩
  go_wp2_with fail
  go_ret
  exact ⟨rfl, _, rfl⟩

/-- MiniBack where Value has an answer: the four calls by what they answer. -/
theorem back_walk (man key : Nat) (bias : Int) (w : World) (hT : Tab w) (h1 : man ≤ 60) (hk : key < 18446744073709551616) (m : Nat) (x : Int) (f a : Nat)
    (V : ∀ w, Tab w → Calls Tryd.prog 9 #[.int .i64 man, .int .i64 bias, .int .u64 key] w fun e w' => e = .returned (.tuple #[.int .u64 m, .int .i64 x, .int .i64 0]) ∧ ∃ n, w' = w.drewN n)
    (K : ∀ w, Tab w → Calls Tryd.prog 13 #[.int .i64 man, .int .i64 bias, .int .u64 m, .int .i64 x] w fun e w' => e = .returned (.tuple #[.int .u64 key, .int .i64 0]) ∧ ∃ n, w' = w.drewN n)
    (S : ∀ w, Calls Tryd.prog 8 #[.int .i64 man, .int .u64 key] w fun e w' => e = .returned (.tuple #[.int .u64 f, .int .u64 a, .int .i64 0]) ∧ ∃ n, w' = w.drewN n)
    (Y : man < 60 → 2 * key < 18446744073709551616 → ∀ w, Tab w → Calls Tryd.prog 9 #[.int .i64 ((man : Int) + 1), .int .i64 bias, .int .u64 (2 * (key : Int))] w fun e w' => e = .returned (.tuple #[.int .u64 m, .int .i64 x, .int .i64 0]) ∧ ∃ n, w' = w.drewN n)
    (hfa : IntKind.u64.wrap (IntKind.u64.wrap ((f : Int) * 2 ^ man) + a) = key)
    (z1 : (m = 0) ↔ (key = 0)) (z3 : m ≠ 0 → m % 2 = 1) :
    Calls Tryd.prog 4 #[.int .i64 man, .int .i64 bias, .int .u64 key] w fun e w' => e = .returned (.bool true) ∧ ∃ n, w' = w.drewN n := by
  by_cases k0 : key = 0
  · have m0 := z1.2 k0
    have q1 : ((m : Int) == 0) = true := by simp [m0]
    have q2 : ((m : Int) != 0) = false := by simp [m0]
    have q4 : ((key : Int) == 0) = true := by simp [k0]
    have c2 : ((key : Int) / 9223372036854775808 == 1) = false := by simp [k0]
    by_cases c1 : man = 60
    · exact back_zero_full man key bias w hT h1 hk m x f a V K S hfa q1 q2 q4 (by simp [c1])
    · exact back_zero_more man key bias w hT h1 hk m x f a V K S (Y (by omega) (by omega)) hfa q1 q2 q4 (by simp; omega) c2 (by omega)
  · have m0 : m ≠ 0 := fun h => k0 (z1.1 h)
    have m1 := z3 m0
    have q1 : ((m : Int) == 0) = false := by simp [m0]
    have q2 : ((m : Int) != 0) = true := by simp [m0]
    have q3 : ((m : Int) % 2 == 0) = false := by simp; omega
    have q4 : ((key : Int) == 0) = false := by simp [k0]
    by_cases c1 : man = 60
    · exact back_some_full man key bias w hT h1 hk m x f a V K S hfa q1 q2 q3 q4 (by simp [c1])
    · by_cases c2 : 9223372036854775808 ≤ key
      · exact back_some_top man key bias w hT h1 hk m x f a V K S hfa q1 q2 q3 q4 (by simp; omega) (by simp; omega)
      · exact back_some_more man key bias w hT h1 hk m x f a V K S (Y (by omega) (by omega)) hfa q1 q2 q3 q4 (by simp; omega) (by simp; omega) (by omega)

/-- MiniBack answers true. -/
theorem back_any (man bias : Int) (key : Nat) (hk : key < 18446744073709551616) (w : World) (hT : Tab w) :
    Calls Tryd.prog 4 #[.int .i64 man, .int .i64 bias, .int .u64 key] w fun e w' => e = .returned (.bool true) ∧ ∃ n, w' = w.drewN n := by
  by_cases h : 0 ≤ man ∧ man ≤ 60
  · obtain ⟨man, rfl⟩ := Int.eq_ofNat_of_zero_le h.1
    have h1 : man ≤ 60 := by omega
    by_cases h2 : key / 2 ^ man ≤ 4095
    · by_cases h3 : -2000 ≤ bias ∧ bias ≤ 2000
      · have hpm : 0 < 2 ^ man := Nat.two_pow_pos man
        have hdm := Nat.div_add_mod key (2 ^ man)
        have hfa : IntKind.u64.wrap (IntKind.u64.wrap (((key / 2 ^ man : Nat) : Int) * 2 ^ man) + ((key % 2 ^ man : Nat) : Int)) = (key : Int) := by
          rw [Nat.mul_comm] at hdm
          rw [wrap_shl _ _ (by omega), ← Int.natCast_add, hdm, wrap_u64_nat _ hk]
        by_cases h0 : key = 0
        · subst h0
          refine back_walk man 0 bias w hT h1 hk 0 0 _ _ (fun w _ => value_zero man bias w h1 h3.1 h3.2) (fun w _ => key_zero man bias 0 w (by omega) (by omega) h3.1 h3.2) (fun w => split_yes man 0 w h1 hk h2) ?_ hfa (by simp) (by simp)
          intro hm _ w _
          have := value_zero (man + 1) bias w (by omega) h3.1 h3.2
          exact this
        · have hp := sig_pos man key h0
          have hl := sig_lt man key
          have h64 : 2 ^ (man + 1) ≤ 2 ^ 61 := Nat.pow_le_pow_right (by decide) (by omega)
          obtain ⟨k, q, e1, e2, hk64, e3⟩ := odd_parts _ hp (by omega)
          refine back_walk man key bias w hT h1 hk _ _ _ _ (fun w hT => value_yes man key bias w hT h1 hk h0 h2 h3.1 h3.2 k e2) (fun w hT => key_back man key bias w hT h1 hk h0 h2 h3.1 h3.2 k e2) (fun w => split_yes man key w h1 hk h2) ?_ hfa ?_ ?_
          · intro hm hkk w hT
            have := value_double man key bias w hT hm hkk h0 h2 h3.1 h3.2 k e2
            exact this
          · rw [e3]; omega
          · intro _; rw [e3]; omega
      · exact back_no man bias key w hT (fun w => value_no_bias man key bias w h1 hk h2 h3)
    · exact back_no man bias key w hT (fun w => value_no_key man key bias w h1 (Nat.lt_of_not_le h2))
  · exact back_no man bias key w hT (fun w => value_no_man man bias key w h)
theorem walk_MiniBack (a0 : Int) (_ : (Lit.int .i64 a0).wf = true) (a1 : Int) (_ : (Lit.int .i64 a1).wf = true) (a2 : Int) (w2 : (Lit.int .u64 a2).wf = true) (w : World) (hT : Tab w) :
    Calls Tryd.prog 4 #[.int .i64 a0, .int .i64 a1, .int .u64 a2] w fun e w' => e = .returned (.bool true) ∧ ∃ n, w' = w.drewN n := by
  obtain ⟨k, rfl, hk⟩ := u64_nat w2
  exact back_any a0 a1 k hk w hT
end Go.Proofs.YtifcoifpmnabpaaDoor

/- Plain facts on the 64-bit words of Go: what shifts, masks, lengths and trailing noughts of such words come to, as natural numbers. Conditions: as each theorem names them. -/
import Derived.WalkKit
import Derived.Laws.Bits64b
import Derived.Lib.TrailingZeros
import Derived.Lib.BitFns
namespace Go.Proofs.Yteiajccjlbghoaa

theorem wrap_u64_nat (a : Nat) (h : a < 18446744073709551616) : IntKind.u64.wrap (a : Int) = (a : Int) := by
  rw [IntKind.wrap_u64]; omega
theorem wrap_u64_mod (a : Nat) : IntKind.u64.wrap (a : Int) = ((a % 18446744073709551616 : Nat) : Int) := by
  rw [IntKind.wrap_u64]; omega
theorem pow_lt64 {k : Nat} (h : k < 64) : 2 ^ k < 18446744073709551616 :=
  Nat.pow_lt_pow_right (a := 2) (by decide) h
theorem cast_pow (k : Nat) : ((2 : Int) ^ k) = ((2 ^ k : Nat) : Int) := by simp
theorem cast_shr (x k : Nat) : ((x : Int) / 2 ^ k) = ((x / 2 ^ k : Nat) : Int) := by simp
theorem cast_shl (x k : Nat) : ((x : Int) * 2 ^ k) = ((x * 2 ^ k : Nat) : Int) := by simp
theorem wrap_pow {k : Nat} (h : k < 64) : IntKind.u64.wrap ((2 : Int) ^ k) = ((2 ^ k : Nat) : Int) := by
  rw [cast_pow, wrap_u64_nat _ (pow_lt64 h)]
theorem wrap_shl (x k : Nat) (h : x * 2 ^ k < 18446744073709551616) : IntKind.u64.wrap ((x : Int) * 2 ^ k) = ((x * 2 ^ k : Nat) : Int) := by
  rw [cast_shl, wrap_u64_nat _ h]
theorem wrap_pow_sub {k : Nat} (h : k < 64) : IntKind.u64.wrap (IntKind.u64.wrap ((2 : Int) ^ k) - 1) = ((2 ^ k - 1 : Nat) : Int) := by
  have hp := pow_lt64 h
  have h0 : 0 < 2 ^ k := Nat.two_pow_pos k
  rw [wrap_pow h, show (((2 ^ k : Nat) : Int) - 1) = ((2 ^ k - 1 : Nat) : Int) by omega, wrap_u64_nat _ (by omega)]
theorem u64_mask (x k : Nat) (hx : x < 18446744073709551616) (h : k < 64) :
    bits .and .u64 (x : Int) (IntKind.u64.wrap (IntKind.u64.wrap (2 ^ k) - 1)) = ((x % 2 ^ k : Nat) : Int) := by
  have hp := pow_lt64 h
  rw [wrap_pow_sub h, bits_and_u64_nat _ _ hx (by omega), Nat.and_two_pow_sub_one_eq_mod]
theorem or_pow (x k : Nat) (hx : x < 2 ^ k) : x ||| 2 ^ k = x + 2 ^ k := by
  have h := Nat.two_pow_add_eq_or_of_lt hx 1
  rw [Nat.mul_one] at h
  rw [Nat.or_comm, ← h, Nat.add_comm]
theorem or_shl (x y k : Nat) (hx : x < 2 ^ k) : y * 2 ^ k ||| x = y * 2 ^ k + x := by
  have h := Nat.two_pow_add_eq_or_of_lt hx y
  rw [Nat.mul_comm y, ← h]
theorem or_shl' (x y k : Nat) (hx : x < 2 ^ k) : x ||| y * 2 ^ k = y * 2 ^ k + x := by
  rw [Nat.or_comm, or_shl x y k hx]
theorem u64_or_pow (x k : Nat) (hx : x < 2 ^ k) (h : k < 64) :
    bits .or .u64 (x : Int) (IntKind.u64.wrap (2 ^ k)) = ((x + 2 ^ k : Nat) : Int) := by
  have hp := pow_lt64 h
  rw [wrap_pow h, bits_or_u64_nat _ _ (by omega) hp, or_pow x k hx]

/-- x without its bit k, if it has that bit and none above it -/
theorem andNot_top (x k : Nat) (h1 : 2 ^ k ≤ x) (h2 : x < 2 ^ (k + 1)) (hk : k < 64) : x &&& (18446744073709551615 - 2 ^ k) = x - 2 ^ k := by
  have hp := pow_lt64 hk
  have e2 : x = 2 ^ k * 1 + (x - 2 ^ k) := by omega
  have hlt : x - 2 ^ k < 2 ^ k := by rw [Nat.pow_succ] at h2; omega
  apply Nat.eq_of_testBit_eq
  intro i
  have e3 : 18446744073709551615 - 2 ^ k = 2 ^ 64 - (2 ^ k + 1) := by omega
  rw [Nat.testBit_and, e3, Nat.testBit_two_pow_sub_succ (by omega), Nat.testBit_two_pow]
  by_cases hi : k = i
  · subst hi
    simp [Nat.testBit_lt_two_pow hlt]
  · have hx : x.testBit i = (x - 2 ^ k).testBit i := by
      rcases Nat.lt_or_gt_of_ne hi with h | h
      · have h3 : x < 2 ^ i := Nat.lt_of_lt_of_le h2 (Nat.pow_le_pow_right (by decide) h)
        rw [Nat.testBit_lt_two_pow h3, Nat.testBit_lt_two_pow (by omega)]
      · conv => lhs; rw [e2]
        rw [Nat.testBit_two_pow_mul_add _ hlt, if_pos h]
    rw [hx]
    by_cases h64 : i < 64
    · simp [h64, hi]
    · have h3 : x - 2 ^ k < 2 ^ i := Nat.lt_of_lt_of_le (by omega : x - 2 ^ k < 2 ^ 64) (Nat.pow_le_pow_right (by decide) (by omega))
      simp [Nat.testBit_lt_two_pow h3]
theorem u64_andNot_top (x k : Nat) (h1 : 2 ^ k ≤ x) (h2 : x < 2 ^ (k + 1)) (hk : k < 64) :
    bits .andNot .u64 (x : Int) (IntKind.u64.wrap (2 ^ k)) = ((x - 2 ^ k : Nat) : Int) := by
  have hp := pow_lt64 hk
  have h64 : 2 ^ (k + 1) ≤ 2 ^ 64 := Nat.pow_le_pow_right (by decide) (by omega)
  have hx : x < 18446744073709551616 := by omega
  have h3 : (BitVec.ofInt 64 (x : Int)).toNat = x := by
    rw [BitVec.ofInt_natCast, BitVec.toNat_ofNat]; exact Nat.mod_eq_of_lt (by omega)
  have h4 : (BitVec.ofInt 64 ((2 ^ k : Nat) : Int)).toNat = 2 ^ k := by
    rw [BitVec.ofInt_natCast, BitVec.toNat_ofNat]; exact Nat.mod_eq_of_lt (by omega)
  rw [wrap_pow hk]
  show IntKind.u64.wrap ((BitVec.ofInt 64 (x : Int) &&& ~~~BitVec.ofInt 64 ((2 ^ k : Nat) : Int)).toNat : Int) = _
  rw [BitVec.toNat_and, BitVec.toNat_not, h3, h4, show (2 ^ 64 - 1 - 2 ^ k : Nat) = 18446744073709551615 - 2 ^ k by omega, andNot_top x k h1 h2 hk, wrap_u64_nat _ (by omega)]

theorem bitLen_of (x k : Nat) (h1 : 2 ^ k ≤ x) (h2 : x < 2 ^ (k + 1)) (h3 : x < 18446744073709551616) : Lib.bitLen x = k + 1 := by
  rw [Lib.bitLen_shift k x h1 h3]
  have : x / 2 ^ k = 1 := by
    rw [Nat.pow_succ] at h2
    have h0 : 0 < 2 ^ k := Nat.two_pow_pos k
    have a1 : 1 ≤ x / 2 ^ k := (Nat.le_div_iff_mul_le h0).2 (by omega)
    have a2 : x / 2 ^ k < 2 := (Nat.div_lt_iff_lt_mul h0).2 (by omega)
    omega
  rw [this]
  rfl
theorem bitLen_log (x : Nat) (h0 : x ≠ 0) (h3 : x < 18446744073709551616) : Lib.bitLen x = Nat.log2 x + 1 :=
  bitLen_of x _ (Nat.log2_self_le h0) Nat.lt_log2_self h3
theorem bitLen_zero : Lib.bitLen 0 = 0 := rfl
theorem log2_of (x k : Nat) (h1 : 2 ^ k ≤ x) (h2 : x < 2 ^ (k + 1)) : Nat.log2 x = k := by
  have h0 : x ≠ 0 := by have := Nat.two_pow_pos k; omega
  have a := Nat.log2_self_le h0
  have b := Nat.lt_log2_self (n := x)
  have c1 : x.log2 < k + 1 := (Nat.pow_lt_pow_iff_right (a := 2) (by decide)).1 (Nat.lt_of_le_of_lt a h2)
  have c2 : k < x.log2 + 1 := (Nat.pow_lt_pow_iff_right (a := 2) (by decide)).1 (Nat.lt_of_le_of_lt h1 b)
  omega

/-- an odd number times a power of two: which power -/
theorem ctz_of (k m : Nat) (h : 2 ^ k * (2 * m + 1) < 18446744073709551616) : Lib.ctz 64 (2 ^ k * (2 * m + 1)) = k := by
  have h0 : 2 ^ k * (2 * m + 1) ≠ 0 := by have := Nat.two_pow_pos k; exact Nat.mul_ne_zero (by omega) (by omega)
  have e : Lib.ctz 64 (2 ^ k * (2 * m + 1)) = Lib.ctzFrom 64 (2 ^ k * (2 * m + 1)) := by simp [Lib.ctz, h0]
  rw [e]
  obtain ⟨m', hm, _⟩ := Lib.ctzFrom_spec 64 (2 ^ k * (2 * m + 1)) (by omega) (by omega)
  have hu : ∀ a b x y : Nat, 2 ^ a * (2 * x + 1) = 2 ^ b * (2 * y + 1) → ¬ a < b := by
    intro a b x y hh hab
    obtain ⟨d, rfl⟩ : ∃ d, b = a + (d + 1) := ⟨b - a - 1, by omega⟩
    rw [Nat.pow_add, Nat.mul_assoc] at hh
    have := Nat.eq_of_mul_eq_mul_left (Nat.two_pow_pos a) hh
    rw [Nat.pow_succ, Nat.mul_right_comm, Nat.mul_comm _ 2] at this
    omega
  have a1 := hu _ _ _ _ hm
  have a2 := hu _ _ _ _ hm.symm
  omega
/-- every word that is not 0 is an odd number times a power of two -/
theorem odd_parts (x : Nat) (h0 : x ≠ 0) (h : x < 18446744073709551616) : ∃ k m, x = 2 ^ k * (2 * m + 1) ∧ Lib.ctz 64 x = k ∧ k < 64 ∧ x / 2 ^ k = 2 * m + 1 := by
  obtain ⟨m, hm, hk⟩ := Lib.ctzFrom_spec 64 x (by omega) (by omega)
  refine ⟨Lib.ctzFrom 64 x, m, hm, by simp [Lib.ctz, h0], hk, ?_⟩
  have h1 : x / 2 ^ Lib.ctzFrom 64 x = 2 ^ Lib.ctzFrom 64 x * (2 * m + 1) / 2 ^ Lib.ctzFrom 64 x := congrArg (· / 2 ^ Lib.ctzFrom 64 x) hm
  rw [h1, Nat.mul_div_cancel_left _ (Nat.two_pow_pos _)]
theorem ctz_odd (x : Nat) (h : x % 2 = 1) (hx : x < 18446744073709551616) : Lib.ctz 64 x = 0 := by
  have := ctz_of 0 (x / 2) (by omega)
  rw [show 2 ^ 0 * (2 * (x / 2) + 1) = x by omega] at this
  exact this
theorem ctz_double (x : Nat) (h0 : x ≠ 0) (h : 2 * x < 18446744073709551616) : Lib.ctz 64 (2 * x) = Lib.ctz 64 x + 1 := by
  obtain ⟨k, m, hx, hk, _, _⟩ := odd_parts x h0 (by omega)
  rw [hk]
  have e : 2 * x = 2 ^ (k + 1) * (2 * m + 1) := by rw [Nat.pow_succ, Nat.mul_comm (2 ^ k) 2, Nat.mul_assoc, ← hx]
  rw [e]
  exact ctz_of _ _ (by rw [← e]; exact h)
end Go.Proofs.Yteiajccjlbghoaa

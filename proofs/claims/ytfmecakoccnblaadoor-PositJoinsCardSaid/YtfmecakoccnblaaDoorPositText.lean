/- Numbers as texts of bits: the plain law. No program stands here. Conditions: as each theorem names them. -/
import Derived.Lib.Strings
set_option linter.unusedVariables false
namespace Go.Proofs.YtfmecakoccnblaaDoor

/-- a bit's letter -/
def bitC (b : Nat) : UInt8 := UInt8.ofNat (48 + b % 2)
/-- the letters of the lowest n bits, the highest first -/
def bitsOf : Nat → Nat → List UInt8
  | 0, _ => []
  | n + 1, v => bitC (v / 2 ^ n) :: bitsOf n v
def BT (s : ByteArray) (n v : Nat) : Prop := s.data.toList = bitsOf n v

theorem bitC_nat (b : Nat) : (bitC b).toNat = 48 + b % 2 := by
  unfold bitC
  have : b % 2 < 2 := Nat.mod_lt _ (by decide)
  rw [UInt8.toNat_ofNat']
  omega
theorem bitC_two {a b : Nat} (h : a % 2 = b % 2) : bitC a = bitC b := by unfold bitC; rw [h]
theorem bits_len (n v : Nat) : (bitsOf n v).length = n := by
  induction n with
  | zero => rfl
  | succ n ih => show (bitsOf n v).length + 1 = n + 1; rw [ih]
theorem bits_get (n v i : Nat) (h : i < (bitsOf n v).length) : (bitsOf n v)[i] = bitC (v / 2 ^ (n - 1 - i)) := by
  induction n generalizing i with
  | zero => exact absurd h (Nat.not_lt_zero _)
  | succ n ih =>
    cases i with
    | zero => rfl
    | succ i =>
      show (bitsOf n v)[i]'(by rw [bits_len] at *; omega) = _
      rw [ih]
      congr 3
      omega
theorem add_bit (x y n p : Nat) (h : p < n) : (x * 2 ^ n + y) / 2 ^ p % 2 = y / 2 ^ p % 2 := by
  have e : x * 2 ^ n + y = y + 2 ^ p * (2 * (x * 2 ^ (n - p - 1))) := by
    have : 2 ^ n = 2 ^ p * (2 * 2 ^ (n - p - 1)) := by
      rw [show 2 * 2 ^ (n - p - 1) = 2 ^ (n - p) by rw [Nat.mul_comm, ← Nat.pow_succ]; congr 1; omega, ← Nat.pow_add]; congr 1; omega
    rw [this, Nat.add_comm, Nat.mul_left_comm x, Nat.mul_left_comm x]
  rw [e, Nat.add_mul_div_left _ _ (Nat.two_pow_pos p)]
  omega
theorem high_bit (x y n p : Nat) (h : y < 2 ^ n) : (x * 2 ^ n + y) / 2 ^ (n + p) = x / 2 ^ p := by
  rw [Nat.pow_add, ← Nat.div_div_eq_div_mul, Nat.mul_comm x, Nat.mul_add_div (Nat.two_pow_pos n), Nat.div_eq_of_lt h, Nat.add_zero]
theorem bits_same {n x y : Nat} (h : ∀ p, p < n → x / 2 ^ p % 2 = y / 2 ^ p % 2) : bitsOf n x = bitsOf n y := by
  apply List.ext_getElem
  · rw [bits_len, bits_len]
  · intro i h1 h2
    rw [bits_len] at h1
    rw [bits_get, bits_get]
    exact bitC_two (h _ (by omega))
theorem bits_mod (n v : Nat) : bitsOf n (v % 2 ^ n) = bitsOf n v := by
  apply bits_same
  intro p hp
  conv => rhs; rw [← Nat.div_add_mod v (2 ^ n), Nat.mul_comm]
  rw [add_bit _ _ _ _ hp]
theorem bits_append (m n x y : Nat) (h : y < 2 ^ n) : bitsOf m x ++ bitsOf n y = bitsOf (m + n) (x * 2 ^ n + y) := by
  apply List.ext_getElem
  · rw [List.length_append, bits_len, bits_len, bits_len]
  · intro i h1 h2
    rw [bits_len] at h2
    rw [bits_get]
    by_cases hi : i < m
    · rw [List.getElem_append_left (by rw [bits_len]; exact hi), bits_get, show m + n - 1 - i = n + (m - 1 - i) by omega, high_bit _ _ _ _ h]
    · rw [List.getElem_append_right (by rw [bits_len]; omega), bits_get]
      apply bitC_two
      rw [add_bit _ _ _ _ (by omega), bits_len]
      congr 3
      omega
theorem bits_drop (n v a : Nat) (h : a ≤ n) : (bitsOf n v).drop a = bitsOf (n - a) v := by
  apply List.ext_getElem
  · rw [List.length_drop, bits_len, bits_len]
  · intro i h1 h2
    rw [List.length_drop, bits_len] at h1
    rw [List.getElem_drop, bits_get, bits_get]
    congr 3
    omega
theorem bits_take (n v k : Nat) (h : k ≤ n) : (bitsOf n v).take k = bitsOf k (v / 2 ^ (n - k)) := by
  apply List.ext_getElem
  · rw [List.length_take, bits_len, bits_len]; omega
  · intro i h1 h2
    rw [bits_len] at h2
    rw [List.getElem_take, bits_get, bits_get, Nat.div_div_eq_div_mul, ← Nat.pow_add]
    congr 3
    omega

theorem BT.size {s : ByteArray} {n v : Nat} (h : BT s n v) : s.size = n := by
  rw [Lib.size_eq, h, bits_len]
theorem BT.get {s : ByteArray} {n v : Nat} (h : BT s n v) (i : Nat) (hi : i < s.size) : (s[i]'hi).toNat = 48 + v / 2 ^ (n - 1 - i) % 2 := by
  have hn := h.size
  have e : s[i]'hi = (s.data.toList)[i]'(by rw [← Lib.size_eq]; exact hi) := by
    rw [Array.getElem_toList]; rfl
  rw [e]
  have : ∀ (l : List UInt8) (hl : l = bitsOf n v) (hi : i < l.length), l[i] = bitC (v / 2 ^ (n - 1 - i)) := by
    intro l hl hi
    subst hl
    exact bits_get _ _ _ _
  rw [this _ h, bitC_nat]
theorem BT.append {s t : ByteArray} {m n x y : Nat} (hs : BT s m x) (ht : BT t n y) (hy : y < 2 ^ n) : BT (s ++ t) (m + n) (x * 2 ^ n + y) := by
  unfold BT at *
  rw [ByteArray.data_append, Array.toList_append, hs, ht, bits_append _ _ _ _ hy]
theorem BT.mod {s : ByteArray} {n v : Nat} (hs : BT s n v) : BT s n (v % 2 ^ n) := by
  unfold BT at *; rw [hs, bits_mod]
theorem BT.unmod {s : ByteArray} {n v : Nat} (hs : BT s n (v % 2 ^ n)) : BT s n v := by
  unfold BT at *; rw [hs, bits_mod]
theorem BT.from {s : ByteArray} {n v : Nat} (hs : BT s n v) (a : Nat) (h : a ≤ n) : BT (s.extract a n) (n - a) v := by
  have hn := hs.size
  unfold BT at *
  rw [Lib.extract_data, hs, bits_drop _ _ _ h]
  exact List.take_of_length_le (by rw [bits_len]; exact Nat.le_refl _)
theorem BT.upto {s : ByteArray} {n v : Nat} (hs : BT s n v) (k : Nat) (h : k ≤ n) : BT (s.extract 0 k) k (v / 2 ^ (n - k)) := by
  unfold BT at *
  rw [Lib.extract_data, hs, List.drop_zero, Nat.sub_zero, bits_take _ _ _ h]
theorem BT.one (b : Nat) : BT ⟨#[bitC b]⟩ 1 b := by
  show [_] = [bitC (b / 2 ^ 0)]
  rw [Nat.pow_zero, Nat.div_one]
theorem BT.nil (v : Nat) : BT ⟨#[]⟩ 0 v := rfl
end Go.Proofs.YtfmecakoccnblaaDoor

/- package exact's scaled and size; package nat's Bit, Word. Conditions: as each theorem names them. -/
import Derived.Test.YteiajccjlbghoaaIsn
set_option linter.unusedVariables false
namespace Go.Proofs.Yteiajccjlbghoaa
open Go.RowKit

theorem five_bits (k : Nat) : 5 ^ k < 2 ^ (3 * k + 1) := by
  have h : 5 ^ k ≤ 8 ^ k := Nat.pow_le_pow_left (by decide) k
  have e : (8 : Nat) ^ k = 2 ^ (3 * k) := by rw [Nat.pow_mul]
  have := Nat.two_pow_pos (3 * k)
  rw [Nat.pow_succ]
  omega
theorem mul_bits {M N a b : Nat} (hM : M < 2 ^ a) (hN : N < 2 ^ b) : M * N < 2 ^ (a + b) := by
  rw [Nat.pow_add]; exact Nat.mul_lt_mul'' hM hN

theorem pow5_N (k : Nat) (i : Int) (w : World) (hk : min (max i 0) 10000 = (k : Int)) :
    Calls Try.prog 32 #[.int .u64 5, .int .i64 i] w fun e w' => (∃ r, e = .returned r ∧ IsN w' r (5 ^ k)) ∧ Below w.heap.size w w' := pow_N 5 k i w (by decide) hk

theorem scaled_N (v : Value) (M a : Nat) (two five : Int) (p q : Nat) (w : World) (hv : IsN w v M) (hM : M < 2 ^ a) (ha : a ≤ 200000) (hf : max five 0 = (q : Int)) (hq : q ≤ 20000) (ht : max two 0 = (p : Int)) (hp : p ≤ 131072) :
    Calls Try.prog 37 #[v, .int .i64 two, .int .i64 five] w fun e w' => (∃ r, e = .returned r ∧ IsN w' r (M * 5 ^ q * 2 ^ p)) ∧ Below w.heap.size w w' := by
  have hv' := Lib.hid hv
  have HM := Lib.hid hM
  have hmin : min five 20000 = five := by omega
  have hp0 : min (max (p : Int) 0) 131072 = (p : Int) := by omega
  have HP := Lib.hid hp0
  have HF := Lib.hid hf
  have h5b : five ≤ 20000 := by omega
  clear hv hM hf hp0
  go_enter Try.func37, Try.ntmps37
  go_wp2_with fail
  go_loopw [0, 2] (fun u f wr => ∃ (U : Value) (y : Int) (j r : Nat), U = u ∧ f = .int .i64 y ∧ j + r = q ∧ max y 0 = (r : Int) ∧ y ≤ 20000 ∧ Hid (IsN wr U (M * 5 ^ j)) ∧ Hid (Below w.heap.size w wr)) (fun _ f _ => (intOf f).toNat)
  case atStart => exact ⟨v, five, 0, q, rfl, rfl, Nat.zero_add _, HF.out, h5b, Lib.hid (by rw [Nat.pow_zero, Nat.mul_one]; exact hv'.out), Lib.hid (Below.refl _ _)⟩
  case round =>
    obtain ⟨u, y, j, r, rfl, rfl, hjr, hyr, hyb, hu, hB⟩ := hrel
    by_cases hy : 0 < y
    · obtain ⟨c, hc⟩ : ∃ c : Nat, min y 5000 = (c : Int) := ⟨(min y 5000).toNat, by omega⟩
      have P := Lib.hid (fun w' => pow5_N c c w' (by omega))
      have hcr : c ≤ r := by omega
      have hb1 := Lib.hid (mul_bits HM.out (five_bits j))
      have HC := Lib.hid hc
      have HYR := Lib.hid hyr
      have HJR := Lib.hid hjr
      have hab : a + (3 * j + 1) ≤ 1048576 := by omega
      have hab2 : 3 * c + 1 ≤ 1048576 := by omega
      clear hjr hyr
      go_wp2_with fail
      with_reducible (refine (P.out _).mono ?_)
      rintro e w1 ⟨⟨r1, rfl, h1⟩, b1⟩
      have M1 := Lib.hid (mul_N u r1 (M * 5 ^ j) (5 ^ c) _ _ w1 (hu.out.below b1) h1 hb1.out (five_bits c) hab hab2)
      have HB1 := Lib.hid (bthen hB.out b1)
      clear h1 b1
      go_wp2_with fail
      with_reducible (refine M1.out.mono ?_)
      rintro e w2 ⟨⟨r2, rfl, h2⟩, b2⟩
      have HB2 := Lib.hid (bthen HB1.out b2)
      have HR2 := Lib.hid h2
      clear h2 b2
      go_wp2_with fail
      go_roundw
      case rel =>
        have e1 := HJR.out
        have e2 := HYR.out
        have e3 := HC.out
        exact ⟨r2, _, j + c, r - c, rfl, rfl, by omega, by omega, by omega, Lib.hid (HR2.out.eq (by rw [Nat.mul_assoc, ← Nat.pow_add])), HB2⟩
      case measure => simp [intOf]; omega
    · have hr0 : r = 0 := by omega
      have hjq : j = q := by omega
      have hb1 := Lib.hid (mul_bits HM.out (five_bits j))
      have hab : a + (3 * j + 1) ≤ 1048576 := by omega
      have S1 := Lib.hid (shl_N u (M * 5 ^ j) _ p p wr hu.out hb1.out hab HP.out)
      have HJ := Lib.hid hjq
      clear hr0 hjr hyr hjq
      go_wp2_with fail
      with_reducible (refine S1.out.mono ?_)
      rintro e w1 ⟨⟨r1, rfl, h1⟩, b1⟩
      have HB1 := Lib.hid (bthen hB.out b1)
      have H1 := Lib.hid h1
      clear h1 b1
      go_wp2_with fail
      go_ret
      exact ⟨⟨r1, rfl, H1.out.eq (by rw [HJ.out])⟩, HB1.out⟩
end Go.Proofs.Yteiajccjlbghoaa

/- For the laws of package caliperlaw02: how great what Floor tells is. Conditions: as each theorem names them. -/
import Derived.Test.YteiajccjlbghoaaXlw
import Derived.Test.YteiajccjlbghoaaXbit
set_option linter.unusedVariables false
namespace Go.Proofs.Yteiajccjlbghoaa
open Go.RowKit

theorem floor_bits (M : Nat) (s f k : Int) (hs : -10000 ≤ s ∧ s ≤ 10000) (hf : -10000 ≤ f ∧ f ≤ 10000) (hk : -10000 ≤ k ∧ k ≤ 10000) (hb : bitsN M ≤ 100000) : ∃ E, vx M s f / tenx k < 2 ^ E ∧ E ≤ 300000 := by
  obtain ⟨C, hC, hP, hQ⟩ := floor_parts M s f k (by omega) (by omega) (by omega)
  have a3 := mul_bits (mul_bits (bitsN_lt M) (five_bits (f - k).toNat)) (Nat.pow_lt_pow_right (a := 2) (by decide) (Nat.lt_succ_self (s - k).toNat))
  refine ⟨bitsN M + (3 * (f - k).toNat + 1) + (s - k).toNat.succ, ?_, by omega⟩
  rw [hP, hQ, Nat.mul_div_mul_right _ _ hC]
  exact Nat.lt_of_le_of_lt (Nat.div_le_self _ _) a3
end Go.Proofs.Yteiajccjlbghoaa

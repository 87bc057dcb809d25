/- The run of equal bits that a key begins with, by the bits themselves: the plain law. No program stands here. Conditions: as each theorem names them. -/
import Derived.Test.YtfmecakoccnblaaDoorPositMath
import Derived.Test.YtfmecakoccnblaaDoorPositText
set_option linter.unusedVariables false
namespace Go.Proofs.YtfmecakoccnblaaDoor

theorem compl_bit {n c p : Nat} (hc : c < 2 ^ n) (hp : p < n) : (2 ^ n - 1 - c) / 2 ^ p % 2 = 1 - c / 2 ^ p % 2 := by
  have hn : 2 ^ n = 2 ^ p * 2 ^ (n - p) := by rw [← Nat.pow_add]; congr 1; omega
  have h2 : 2 ^ (n - p) = 2 * 2 ^ (n - p - 1) := by rw [← pow_add_one]; congr 1; omega
  have hq : c / 2 ^ p < 2 ^ (n - p) := by
    rw [Nat.div_lt_iff_lt_mul (Nat.two_pow_pos p), Nat.mul_comm, ← hn]; exact hc
  have hm := Nat.div_add_mod c (2 ^ p)
  have hr := Nat.mod_lt c (Nat.two_pow_pos p)
  have e : 2 ^ n - 1 - c = (2 ^ p - 1 - c % 2 ^ p) + 2 ^ p * (2 ^ (n - p) - 1 - c / 2 ^ p) := by
    rw [Nat.mul_sub, Nat.mul_sub, ← hn, Nat.mul_one]
    have : 2 ^ p * (c / 2 ^ p) + 2 ^ p ≤ 2 ^ n := by
      rw [hn, ← Nat.mul_succ]; exact Nat.mul_le_mul_left _ hq
    omega
  rw [e, Nat.add_mul_div_left _ _ (Nat.two_pow_pos p), Nat.div_eq_of_lt (by omega)]
  generalize c / 2 ^ p = q at *
  omega

theorem run_bits {n key : Nat} (h1 : 2 ≤ n) (h2 : n ≤ 64) (h3 : 0 < key) (h4 : key < 2 ^ n) :
    (∀ i, i < fRun n key → key / 2 ^ (n - 1 - i) % 2 = key / 2 ^ (n - 1) % 2) ∧ (fRun n key < n → key / 2 ^ (n - 1 - fRun n key) % 2 ≠ key / 2 ^ (n - 1) % 2) ∧ 1 ≤ fRun n key ∧ fRun n key ≤ n ∧ (key / 2 ^ (n - 1) % 2 = if key < 2 ^ (n - 1) then 0 else 1) := by
  have hp := pow_pred (n := n) (by omega)
  by_cases h5 : key < 2 ^ (n - 1)
  · obtain ⟨a, b, c, d, e, _⟩ := neg_parts h1 h2 h3 h5
    have hs := pow_add_one (fLeft n key)
    have z : ∀ p, fLeft n key + 1 ≤ p → key / 2 ^ p % 2 = 0 := by
      intro p hp
      have := pow_le hp
      rw [Nat.div_eq_of_lt (by omega)]
    have z0 := z (n - 1) (by omega)
    refine ⟨fun i hi => by rw [z0, z _ (by omega)], fun hr => ?_, a, by omega, by rw [if_pos h5, z0]⟩
    rw [z0, show n - 1 - fRun n key = fLeft n key by omega]
    have : key / 2 ^ fLeft n key = 1 := by
      apply Nat.div_eq_of_lt_le <;> omega
    rw [this]; decide
  · by_cases h6 : key = 2 ^ n - 1
    · obtain ⟨a, b, c, d⟩ := all_parts h1 h2
      have z : ∀ p, p < n → key / 2 ^ p % 2 = 1 := by
        intro p hp
        have := compl_bit (n := n) (c := 0) (p := p) (Nat.two_pow_pos n) hp
        rw [Nat.sub_zero, ← h6] at this
        rw [this]; simp
      rw [← h6] at a b
      have z0 := z (n - 1) (by omega)
      exact ⟨fun i hi => by rw [z0, z _ (by omega)], fun hr => absurd hr (by omega), by omega, by omega, by rw [if_neg h5, z0]⟩
    · obtain ⟨a, b, c, d, e, _⟩ := pos_parts h1 h2 h4 (by omega) h6
      have hs := pow_add_one (fLeft n key)
      have hle := pow_le (show fLeft n key + 1 ≤ n by omega)
      have hc : 2 ^ n - 1 - (2 ^ n - 1 - key) = key := by omega
      have hcl : 2 ^ n - 1 - key < 2 ^ (fLeft n key + 1) := by omega
      have z : ∀ p, fLeft n key + 1 ≤ p → p < n → key / 2 ^ p % 2 = 1 := by
        intro p hp1 hp2
        have := compl_bit (n := n) (c := 2 ^ n - 1 - key) (p := p) (by omega) hp2
        rw [hc] at this
        have hpl := pow_le hp1
        rw [this, Nat.div_eq_of_lt (by omega)]
      have z0 := z (n - 1) (by omega) (by omega)
      refine ⟨fun i hi => by rw [z0, z _ (by omega) (by omega)], fun hr => ?_, a, by omega, by rw [if_neg h5, z0]⟩
      have := compl_bit (n := n) (c := 2 ^ n - 1 - key) (p := fLeft n key) (by omega) (by omega)
      rw [hc] at this
      have hd : (2 ^ n - 1 - key) / 2 ^ fLeft n key = 1 := by
        apply Nat.div_eq_of_lt_le <;> omega
      rw [z0, show n - 1 - fRun n key = fLeft n key by omega, this, hd]
      decide
end Go.Proofs.YtfmecakoccnblaaDoor

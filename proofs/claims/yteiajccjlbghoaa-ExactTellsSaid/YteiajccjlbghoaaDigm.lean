/- One word of a quotient: the plain law. No program stands here. Conditions: as each theorem names them. -/
import Derived.Test.YteiajccjlbghoaaDivW
set_option linter.unusedVariables false
namespace Go.Proofs.Yteiajccjlbghoaa

theorem sub_word {u l b s k : Nat} (hu : u < 18446744073709551616) (hl : l < 18446744073709551616) (hb : b ≤ 1) (hs : (u + 18446744073709551616 - l - b) % 18446744073709551616 = s) (hk : (if u < l + b then 1 else 0) = k) : s + l + b = u + 18446744073709551616 * k ∧ k ≤ 1 ∧ s < 18446744073709551616 := by
  by_cases h : u < l + b
  · rw [if_pos h] at hk; omega
  · rw [if_neg h] at hk; omega
theorem mulsub_step {P U V : Nat → Nat} {g j carry borrow hi lo lo1 c1 s k : Nat} (h : S P j + g * S V j = S U j + (borrow + carry) * Wd ^ j) (hm : g * V j = 18446744073709551616 * hi + lo) (hl : lo + carry = 18446744073709551616 * c1 + lo1) (hs : s + lo1 + borrow = U j + 18446744073709551616 * k) (hP : P j = s) :
    S P (j + 1) + g * S V (j + 1) = S U (j + 1) + (k + (hi + c1)) * Wd ^ (j + 1) := by
  rw [S_succ, S_succ, S_succ, hP, Wp_succ, Nat.mul_add, ← Nat.mul_assoc]
  have e : (s + g * V j + borrow + carry) * Wd ^ j = (U j + 18446744073709551616 * (k + (hi + c1))) * Wd ^ j := by
    congr 1
    omega
  have e2 : (k + (hi + c1)) * (Wd ^ j * Wd) = 18446744073709551616 * (k + (hi + c1)) * Wd ^ j := by
    rw [Nat.mul_comm (Wd ^ j), ← Nat.mul_assoc, Nat.mul_comm (k + (hi + c1))]; rfl
  rw [e2]
  simp only [Nat.add_mul] at e h ⊢
  omega

/-- the first guess is not below -/
theorem guess_low {U V : Nat → Nat} {m : Nat} (hU : ∀ i, i < m + 2 → U i < Wd) (hV0 : 0 < V m) (hlt : U (m + 1) < V m) :
    S U (m + 2) / S V (m + 1) ≤ (U (m + 1) * 18446744073709551616 + U m) / V m := by
  have hp := Wp_pos m
  have hVp : 0 < S V (m + 1) := by
    rw [S_succ]
    have : 1 * Wd ^ m ≤ V m * Wd ^ m := Nat.mul_le_mul_right _ hV0
    omega
  rw [Nat.le_div_iff_mul_le hV0]
  have h1 : S U (m + 2) / S V (m + 1) * S V (m + 1) ≤ S U (m + 2) := Nat.div_mul_le_self _ _
  have h2 : S U (m + 2) < (U (m + 1) * 18446744073709551616 + U m + 1) * Wd ^ m := by
    rw [S_succ, S_succ, Wp_succ]
    have := S_lt (F := U) (n := m) (fun i hi => hU i (by omega))
    have e : U (m + 1) * (Wd ^ m * Wd) = U (m + 1) * 18446744073709551616 * Wd ^ m := by
      rw [Nat.mul_comm (Wd ^ m), ← Nat.mul_assoc]; rfl
    rw [e]
    simp only [Nat.add_mul, Nat.one_mul]
    omega
  have h3 : S U (m + 2) / S V (m + 1) * V m * Wd ^ m ≤ S U (m + 2) / S V (m + 1) * S V (m + 1) := by
    rw [Nat.mul_assoc]
    apply Nat.mul_le_mul_left
    rw [S_succ]
    omega
  have h4 : S U (m + 2) / S V (m + 1) * V m * Wd ^ m < (U (m + 1) * 18446744073709551616 + U m + 1) * Wd ^ m := by omega
  have := Nat.lt_of_mul_lt_mul_right h4
  omega
theorem quo_word {X Y : Nat} (h : X < Y * 18446744073709551616) : X / Y < 18446744073709551616 := by
  rcases Nat.eq_zero_or_pos Y with h0 | h0
  · subst h0; omega
  · rw [Nat.div_lt_iff_lt_mul h0, Nat.mul_comm]; exact h
/-- nothing borrowed: the guess is right -/
theorem digit_end {R g X Y : Nat} (hY : 0 < Y) (h : R + g * Y = X) (hg : X / Y ≤ g) : g = X / Y ∧ R = X % Y := by
  have h1 : g ≤ X / Y := by rw [Nat.le_div_iff_mul_le hY]; omega
  have e : g = X / Y := by omega
  refine ⟨e, ?_⟩
  have := Nat.div_add_mod X Y
  rw [← e, Nat.mul_comm] at this
  omega
/-- something borrowed: the guess is above -/
theorem digit_back {R g X Y T : Nat} (hY : 0 < Y) (h : R + g * Y = X + T) (hR : R < T) : X / Y < g := by
  rw [Nat.div_lt_iff_lt_mul hY]; omega
end Go.Proofs.Yteiajccjlbghoaa

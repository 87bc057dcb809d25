/- A two-word number by a word, half word by half word: the plain law. No program stands here. Conditions: as each theorem names them. -/
import Derived.Test.YteiajccjlbghoaaNum
set_option linter.unusedVariables false
namespace Go.Proofs.Yteiajccjlbghoaa

/-- what holds of a guess of a half word: u, a half word d, by y = a * 2^32 + b -/
structure Guess (u d a b q p r : Nat) : Prop where
  sum : p * a + r = u
  low : q ≤ p
  top : p ≤ 4294967297
  rest : r < 4294967296
/-- what a half step divides -/
structure Half (u d a b q : Nat) : Prop where
  a1 : 2147483648 ≤ a
  a2 : a < 4294967296
  b2 : b < 4294967296
  d2 : d < 4294967296
  u2 : u < a * 4294967296 + b
  quo : (u * 4294967296 + d) / (a * 4294967296 + b) = q

theorem Half.q_lt {u d a b q : Nat} (h : Half u d a b q) : q < 4294967296 := by
  have h1 := h.a1; have h3 := h.u2; have h4 := h.d2
  rw [← h.quo, Nat.div_lt_iff_lt_mul (by omega)]
  have : (u + 1) * 4294967296 ≤ (a * 4294967296 + b) * 4294967296 := Nat.mul_le_mul_right _ h3
  omega
theorem Half.le {u d a b q : Nat} (h : Half u d a b q) (p : Nat) : p ≤ q ↔ p * (a * 4294967296 + b) ≤ u * 4294967296 + d := by
  have h1 := h.a1
  rw [← h.quo, Nat.le_div_iff_mul_le (by omega)]
theorem Half.start {u d a b q : Nat} (h : Half u d a b q) : Guess u d a b q (u / a) (u % a) := by
  obtain ⟨h1, h2, h3, h4, h5, h6⟩ := h
  have hd := Nat.div_add_mod u a
  have hm := Nat.mod_lt u (show 0 < a by omega)
  refine ⟨by rw [Nat.mul_comm]; exact hd, ?_, ?_, by omega⟩
  · rw [← h6]
    apply Nat.le_of_lt_succ
    rw [Nat.div_lt_iff_lt_mul (by omega)]
    have e : (u / a + 1) * a = a * (u / a) + a := by rw [Nat.add_mul, Nat.one_mul, Nat.mul_comm]
    have e2 : (u + 1) ≤ (u / a + 1) * a := by omega
    have e3 : (u + 1) * 4294967296 ≤ (u / a + 1) * a * 4294967296 := Nat.mul_le_mul_right _ e2
    have e4 : (u / a).succ * (a * 4294967296 + b) = (u / a + 1) * a * 4294967296 + (u / a + 1) * b := by
      rw [Nat.mul_add, Nat.mul_assoc]
    omega
  · apply Nat.le_of_lt_succ
    rw [Nat.div_lt_iff_lt_mul (by omega)]
    omega
/-- the guess in the loop's test -/
theorem Guess.test {u d a b q p r : Nat} (g : Guess u d a b q p r) (h : Half u d a b q) : p ≤ q ↔ p * b ≤ 4294967296 * r + d := by
  rw [h.le]
  have := g.sum
  have e : p * (a * 4294967296 + b) = p * a * 4294967296 + p * b := by rw [Nat.mul_add, Nat.mul_assoc]
  rw [e, ← this, Nat.add_mul]
  omega
theorem Guess.stop {u d a b q p r : Nat} (g : Guess u d a b q p r) (h : Half u d a b q) (h1 : p < 4294967296) (h2 : p * b ≤ 4294967296 * r + d) : p = q := by
  have := (g.test h).2 h2
  have := g.low
  omega
theorem Guess.more {u d a b q p r : Nat} (g : Guess u d a b q p r) (h : Half u d a b q) (h1 : 4294967296 ≤ p ∨ 4294967296 * r + d < p * b) : q < p := by
  have := h.q_lt
  rcases h1 with h1 | h1
  · omega
  · rcases Nat.lt_or_ge q p with h2 | h2
    · exact h2
    · have := (g.test h).1 h2; omega
theorem Guess.next {u d a b q p r : Nat} (g : Guess u d a b q p r) (h : Half u d a b q) (h1 : q < p) : (p - 1) * a + (r + a) = u ∧ p - 1 ≤ 4294967296 ∧ q ≤ p - 1 := by
  obtain ⟨x, y, z, w⟩ := g
  refine ⟨?_, by omega, by omega⟩
  obtain ⟨t, rfl⟩ : ∃ t, p = t + 1 := ⟨p - 1, by omega⟩
  rw [Nat.add_mul, Nat.one_mul] at x
  rw [Nat.add_sub_cancel]
  omega
theorem Guess.go {u d a b q p r : Nat} (g : Guess u d a b q p r) (h : Half u d a b q) (h1 : q < p) (h2 : r + a < 4294967296) : Guess u d a b q (p - 1) (r + a) := by
  obtain ⟨x, y, z⟩ := g.next h h1
  exact ⟨x, z, by omega, h2⟩
theorem Guess.leave {u d a b q p r : Nat} (g : Guess u d a b q p r) (h : Half u d a b q) (h1 : q < p) (h2 : 4294967296 ≤ r + a) : p - 1 = q := by
  obtain ⟨x, y, z⟩ := g.next h h1
  have e : (p - 1) * (a * 4294967296 + b) = (p - 1) * a * 4294967296 + (p - 1) * b := by rw [Nat.mul_add, Nat.mul_assoc]
  have hb : (p - 1) * b ≤ 4294967296 * 4294967295 := Nat.mul_le_mul y (by have := h.b2; omega)
  have : p - 1 ≤ q := by
    rw [h.le, e, ← x, Nat.add_mul]
    omega
  omega

/-- what is left of a half step -/
theorem Half.left {u d a b q y : Nat} (h : Half u d a b q) (hy : y = a * 4294967296 + b) : (u * 4294967296 + d) % y = u * 4294967296 + d - q * y ∧ q * y ≤ u * 4294967296 + d ∧ u * 4294967296 + d - q * y < y := by
  subst hy
  have hm := Nat.mod_lt (u * 4294967296 + d) (show 0 < a * 4294967296 + b by have := h.a1; omega)
  have hd := Nat.div_add_mod (u * 4294967296 + d) (a * 4294967296 + b)
  rw [h.quo, Nat.mul_comm] at hd
  omega

theorem glue (B : Nat) {u l l1 l0 P v Q R : Nat} (e1 : u * B + l1 = P + v) (e2 : Q + R = v * B + l0) (hl : l = l1 * B + l0) : u * (B * B) + l = P * B + Q + R := by
  have h2 : (u * B + l1) * B = (P + v) * B := by rw [e1]
  rw [Nat.add_mul, Nat.add_mul, Nat.mul_assoc] at h2
  rw [hl, ← Nat.add_assoc, h2, Nat.add_assoc (P * B) Q R, e2, Nat.add_assoc]
theorem div_glue {u l l1 l0 P v Q R : Nat} (e1 : u * 4294967296 + l1 = P + v) (e2 : Q + R = v * 4294967296 + l0) (hl : l = l1 * 4294967296 + l0) : u * 18446744073709551616 + l = P * 4294967296 + Q + R :=
  glue 4294967296 e1 e2 hl
/-- the whole: shifted so that the highest bit is 1 -/
theorem div_parts {hi lo y s e y1 a b u l l1 l0 : Nat} (hhi : hi < y) (hlo : lo < 18446744073709551616) (hs : s < 64) (he : 64 - s = e) (hy1 : y * 2 ^ s = y1) (h1 : 9223372036854775808 ≤ y1) (h2 : y1 < 18446744073709551616)
    (ha : y1 / 4294967296 = a) (hb : y1 % 4294967296 = b) (hu : hi * 2 ^ s + lo / 2 ^ e = u) (hl : lo * 2 ^ s % 18446744073709551616 = l) (hl1 : l / 4294967296 = l1) (hl0 : l % 4294967296 = l0)
    {q1 v q0 : Nat} (hq1 : (u * 4294967296 + l1) / y1 = q1) (hv : (u * 4294967296 + l1) % y1 = v) (hq0 : (v * 4294967296 + l0) / y1 = q0) :
    Half u l1 a b q1 ∧ Half v l0 a b q0 ∧ (hi * 18446744073709551616 + lo) / y = q1 * 4294967296 + q0 ∧ (hi * 18446744073709551616 + lo) % y = (v * 4294967296 + l0) % y1 / 2 ^ s ∧ u < y1 ∧ v < y1 := by
  have hps := Nat.two_pow_pos s
  have hW : (18446744073709551616 : Nat) = 2 ^ e * 2 ^ s := by rw [← Nat.pow_add, ← he, show 64 - s + s = 64 by omega]
  have hN : (hi * 18446744073709551616 + lo) * 2 ^ s = u * 18446744073709551616 + l := by
    have d1 := Nat.div_add_mod (lo * 2 ^ s) 18446744073709551616
    have d2 : lo * 2 ^ s / 18446744073709551616 = lo / 2 ^ e := by rw [hW, Nat.mul_div_mul_right _ _ hps]
    rw [d2, hl] at d1
    rw [Nat.add_mul, ← hu, Nat.add_mul, ← d1, Nat.mul_right_comm hi]
    omega
  have hl64 : l < 18446744073709551616 := by rw [← hl]; exact Nat.mod_lt _ (by decide)
  have hu2 : u < y1 := by
    have h3 : (hi * 18446744073709551616 + lo + 1) ≤ y * 18446744073709551616 := by
      have : (hi + 1) * 18446744073709551616 ≤ y * 18446744073709551616 := Nat.mul_le_mul_right _ hhi
      omega
    have h4 : (hi * 18446744073709551616 + lo + 1) * 2 ^ s ≤ y * 18446744073709551616 * 2 ^ s := Nat.mul_le_mul_right _ h3
    rw [Nat.add_mul, hN, Nat.mul_right_comm, hy1] at h4
    omega
  have hl10 : l = l1 * 4294967296 + l0 := by omega
  have hv2 : v < y1 := by rw [← hv]; exact Nat.mod_lt _ (by omega)
  have hab : a * 4294967296 + b = y1 := by omega
  have e1 : u * 4294967296 + l1 = y1 * q1 + v := by rw [← hq1, ← hv]; exact (Nat.div_add_mod _ _).symm
  have e2 := Nat.div_add_mod (v * 4294967296 + l0) y1
  rw [hq0] at e2
  have e3 : u * 18446744073709551616 + l = y1 * (q1 * 4294967296 + q0) + (v * 4294967296 + l0) % y1 := by
    rw [Nat.mul_add, ← Nat.mul_assoc]
    exact div_glue e1 e2 hl10
  have hr := Nat.mod_lt (v * 4294967296 + l0) (show 0 < y1 by omega)
  have hy0 : 0 < y := by omega
  refine ⟨⟨by omega, by omega, by omega, by omega, by omega, by rw [hab]; exact hq1⟩, ⟨by omega, by omega, by omega, by omega, by omega, by rw [hab]; exact hq0⟩, ?_, ?_, hu2, hv2⟩
  · have : (hi * 18446744073709551616 + lo) * 2 ^ s / (y * 2 ^ s) = q1 * 4294967296 + q0 := by
      rw [hN, hy1, e3, Nat.mul_add_div (by omega), Nat.div_eq_of_lt hr, Nat.add_zero]
    rwa [Nat.mul_div_mul_right _ _ hps] at this
  · have : (hi * 18446744073709551616 + lo) * 2 ^ s % (y * 2 ^ s) = (v * 4294967296 + l0) % y1 := by
      rw [hN, hy1, e3, Nat.mul_add_mod, Nat.mod_eq_of_lt hr]
    rw [Nat.mul_mod_mul_right] at this
    rw [← this, Nat.mul_div_cancel _ hps]
end Go.Proofs.Yteiajccjlbghoaa

/- The text of a key, letter by letter, from its fields: the plain law. No program stands here. Conditions: as each theorem names them. -/
import Derived.Test.YtfmecakoccnblaaDoorPositNum
set_option linter.unusedVariables false
namespace Go.Proofs.YtfmecakoccnblaaDoor

/-- the letters of a regime as a number: noughts and a 1, or ones and a 0 -/
def patOf (q : Int) : Nat := if q < 0 then 1 else 2 ^ (q.toNat + 2) - 2
def patLen (q : Int) : Nat := if q < 0 then (-q).toNat + 1 else q.toNat + 2
/-- all letters -/
def allOf (q : Int) (ex fr b : Nat) : Nat := (patOf q * 4 + ex) * 2 ^ b + fr
def allLen (q : Int) (b : Nat) : Nat := patLen q + 2 + b

theorem tail_shift {n key : Nat} (h1 : 2 ≤ n) (h2 : n ≤ 64) (h3 : 0 < key) (h4 : key < 2 ^ n) : fExp n key * 2 ^ fBits n key + fFrac n key = fRest n key * 2 ^ (2 - fLeft n key) := by
  obtain ⟨hr, _⟩ := rest_lt h1 h2 h3 h4
  unfold fExp fFrac
  have e : fBits n key = fLeft n key - 2 := rfl
  rw [e]
  generalize fLeft n key = l at *
  generalize fRest n key = r at *
  by_cases h : 2 ≤ l
  · rw [show 2 - l = 0 by omega, Nat.pow_zero, Nat.mul_one, Nat.mul_one, Nat.mul_comm, Nat.div_add_mod]
  · rcases (show l = 0 ∨ l = 1 by omega) with rfl | rfl
    · have : r = 0 := by simpa using hr
      subst this; rfl
    · simp [Nat.mod_one]
theorem bits_shift (n key : Nat) : 4 * 2 ^ fBits n key = 2 ^ fLeft n key * 2 ^ (2 - fLeft n key) ∧ fBits n key + 2 = fLeft n key + (2 - fLeft n key) := by
  have e : fBits n key = fLeft n key - 2 := rfl
  rw [e]
  refine ⟨?_, by omega⟩
  rw [show (4 : Nat) = 2 ^ 2 by rfl, ← Nat.pow_add, ← Nat.pow_add]
  congr 1
  omega
theorem all_shift {n key : Nat} (h1 : 2 ≤ n) (h2 : n ≤ 64) (h3 : 0 < key) (h4 : key < 2 ^ n) (q : Int) :
    allOf q (fExp n key) (fFrac n key) (fBits n key) = (patOf q * 2 ^ fLeft n key + fRest n key) * 2 ^ (2 - fLeft n key) := by
  have a := tail_shift h1 h2 h3 h4
  obtain ⟨b, _⟩ := bits_shift n key
  unfold allOf
  rw [Nat.add_mul, Nat.add_assoc, a, Nat.mul_assoc, b, ← Nat.mul_assoc, ← Nat.add_mul]

/-- a key is what its letters begin with -/
theorem key_text {n key : Nat} (h1 : 2 ≤ n) (h2 : n ≤ 64) (h3 : 0 < key) (h4 : key < 2 ^ n) :
    n ≤ allLen (fReg n key) (fBits n key) ∧ allOf (fReg n key) (fExp n key) (fFrac n key) (fBits n key) / 2 ^ (allLen (fReg n key) (fBits n key) - n) = key := by
  have sh := all_shift h1 h2 h3 h4 (fReg n key)
  obtain ⟨_, bs⟩ := bits_shift n key
  rw [sh]
  unfold allLen
  by_cases h5 : key < 2 ^ (n - 1)
  · obtain ⟨a, b, c, d, e, _⟩ := neg_parts h1 h2 h3 h5
    have hq : fReg n key < 0 := by omega
    have p1 : patOf (fReg n key) = 1 := if_pos hq
    have p2 : patLen (fReg n key) = fRun n key + 1 := by
      have : patLen (fReg n key) = (-(fReg n key)).toNat + 1 := if_pos hq
      rw [this, e]; omega
    rw [p1, p2, show fRun n key + 1 + 2 + fBits n key - n = 2 - fLeft n key by omega, Nat.mul_div_cancel _ (Nat.two_pow_pos _)]
    omega
  · by_cases h6 : key = 2 ^ n - 1
    · obtain ⟨a, b, c, d⟩ := all_parts h1 h2
      rw [← h6] at a b c d
      have hq : ¬ fReg n key < 0 := by omega
      have p1 : patOf (fReg n key) = 2 ^ (n + 1) - 2 := by
        have : patOf (fReg n key) = 2 ^ ((fReg n key).toNat + 2) - 2 := if_neg hq
        rw [this, d, show ((n : Int) - 1).toNat + 2 = n + 1 by omega]
      have p2 : patLen (fReg n key) = n + 1 := by
        have : patLen (fReg n key) = (fReg n key).toNat + 2 := if_neg hq
        rw [this, d]; omega
      rw [p1, p2, b, c, show n + 1 + 2 + fBits n key - n = 3 by omega, pow_add_one]
      have := Nat.two_pow_pos n
      omega
    · obtain ⟨a, b, c, d, e, _⟩ := pos_parts h1 h2 h4 (by omega) h6
      have hq : ¬ fReg n key < 0 := by omega
      have p1 : patOf (fReg n key) = 2 ^ (fRun n key + 1) - 2 := by
        have : patOf (fReg n key) = 2 ^ ((fReg n key).toNat + 2) - 2 := if_neg hq
        rw [this, e, show ((fRun n key : Int) - 1).toNat + 2 = fRun n key + 1 by omega]
      have p2 : patLen (fReg n key) = fRun n key + 1 := by
        have : patLen (fReg n key) = (fReg n key).toNat + 2 := if_neg hq
        rw [this, e]; omega
      rw [p1, p2, show fRun n key + 1 + 2 + fBits n key - n = 2 - fLeft n key by omega, Nat.mul_div_cancel _ (Nat.two_pow_pos _), Nat.sub_mul, ← Nat.pow_add, ← pow_add_one, show fRun n key + 1 + fLeft n key = n by omega]
      have := pow_le (show fLeft n key + 1 ≤ n by omega)
      omega

/-- which key is sought: bit by bit, from the highest -/
def Near (n i key : Nat) (W : Int) : Prop := key % 2 ^ i = 0 ∧ key < 2 ^ n ∧ (key = 0 ∨ fW n key ≤ W) ∧ (key + 2 ^ i = 2 ^ n ∨ W < fW n (key + 2 ^ i))
theorem near_start (n : Nat) (W : Int) : Near n n 0 W := ⟨Nat.zero_mod _, Nat.two_pow_pos n, .inl rfl, .inl (Nat.zero_add _)⟩
theorem near_room {n i key : Nat} (hi : i ≤ n) (h : key % 2 ^ i = 0) (hk : key < 2 ^ n) : key + 2 ^ i ≤ 2 ^ n := by
  have hn : 2 ^ n = 2 ^ i * 2 ^ (n - i) := by rw [← Nat.pow_add]; congr 1; omega
  have hm := Nat.div_add_mod key (2 ^ i)
  rw [h, Nat.add_zero] at hm
  have : key / 2 ^ i < 2 ^ (n - i) := by
    rw [Nat.div_lt_iff_lt_mul (Nat.two_pow_pos i), Nat.mul_comm, ← hn]; exact hk
  rw [hn, ← hm]
  rw [← Nat.mul_succ]
  exact Nat.mul_le_mul_left _ this
theorem near_half {i key : Nat} (h : key % 2 ^ (i + 1) = 0) : key % 2 ^ i = 0 ∧ (key + 2 ^ i) % 2 ^ i = 0 := by
  have : key % 2 ^ i = 0 := by
    have hd : 2 ^ (i + 1) ∣ key := Nat.dvd_of_mod_eq_zero h
    exact Nat.mod_eq_zero_of_dvd (Nat.dvd_trans ⟨2, by rw [Nat.pow_succ]⟩ hd)
  exact ⟨this, by rw [Nat.add_mod_right]; exact this⟩
theorem near_next {n i key : Nat} {W : Int} (hi : i < n) (h : Near n (i + 1) key W) : 0 < key + 2 ^ i ∧ key + 2 ^ i < 2 ^ n ∧ (W < fW n (key + 2 ^ i) → Near n i key W) ∧ (¬ W < fW n (key + 2 ^ i) → Near n i (key + 2 ^ i) W) := by
  obtain ⟨a, b, c, d⟩ := h
  have r := near_room (show i + 1 ≤ n by omega) a b
  have hp := Nat.two_pow_pos i
  have hs := pow_add_one i
  obtain ⟨e, f⟩ := near_half a
  refine ⟨by omega, by omega, fun h => ⟨e, b, c, .inr h⟩, fun h => ⟨f, by omega, .inr (by omega), ?_⟩⟩
  rw [show key + 2 ^ i + 2 ^ i = key + 2 ^ (i + 1) by omega]
  exact d
theorem near_end {n key k : Nat} {W : Int} (h1 : 2 ≤ n) (h2 : n ≤ 64) (h : Near n 0 key W) (k1 : 0 < k) (k2 : k < 2 ^ n) (hk : fW n k = W) : key = k := by
  obtain ⟨a, b, c, d⟩ := h
  rw [Nat.pow_zero] at d
  rcases Nat.lt_trichotomy key k with hl | he | hg
  · rcases d with d | d
    · omega
    · exfalso
      rcases Nat.lt_or_ge (key + 1) k with h3 | h3
      · have := W_lt h1 h2 (show 0 < key + 1 by omega) h3 k2
        omega
      · obtain rfl : key + 1 = k := by omega
        omega
  · exact he
  · rcases c with c | c
    · omega
    · have := W_lt h1 h2 k1 hg b
      omega

theorem less_num {n k m : Nat} {e : Int} (hm : m ≠ 0) (lm : Nat.log2 m ≤ 62) :
    decide (numW m e < fW n k) = if e + (Lib.bitLen m : Int) = fE n k + (Lib.bitLen (fM n k) : Int) then decide (m * 2 ^ (64 - Lib.bitLen m) < fM n k * 2 ^ (64 - Lib.bitLen (fM n k))) else decide (e + (Lib.bitLen m : Int) < fE n k + (Lib.bitLen (fM n k) : Int)) := by
  have lt := Nat.lt_log2_self (n := m)
  have le := Nat.log2_self_le hm
  have hm64 : m < 18446744073709551616 := by
    have := pow_le (show m.log2 + 1 ≤ 63 by omega)
    omega
  have p1 := bitLen_log m hm hm64
  have p2 : m * 2 ^ (64 - Lib.bitLen m) = 2 * (4611686018427387904 + (m - 2 ^ Nat.log2 m) * 2 ^ (62 - Nat.log2 m)) := by
    rw [p1, show 64 - (m.log2 + 1) = 62 - m.log2 + 1 by omega, pow_add_one, Nat.sub_mul, ← Nat.pow_add, show m.log2 + (62 - m.log2) = 62 by omega]
    have : 2 ^ 62 ≤ m * 2 ^ (62 - m.log2) := by
      have h := Nat.mul_le_mul_right (2 ^ (62 - m.log2)) le
      rw [← Nat.pow_add, show m.log2 + (62 - m.log2) = 62 by omega] at h
      exact h
    rw [Nat.mul_left_comm]
    omega
  have key : fE n k + (Lib.bitLen (fM n k) : Int) = fS n k + 1 ∧ fM n k * 2 ^ (64 - Lib.bitLen (fM n k)) = 2 * fA n k := by
    obtain ⟨c, q, e1, e2, e3, e4, e5, e6⟩ := M_parts n k
    have hl := bitLen_log (2 * q + 1) (by omega) (by have := (M_odd n k).2.2; omega)
    rw [e1, hl, e6]
    refine ⟨by omega, ?_⟩
    have : 64 - ((2 * q + 1).log2 + 1) = c + 1 := by omega
    rw [this, e3, Nat.pow_succ, Nat.mul_comm (2 * q + 1), Nat.mul_comm (2 ^ c) 2, Nat.mul_assoc]
  have hf : (m - 2 ^ Nat.log2 m) * 2 ^ (62 - Nat.log2 m) < 4611686018427387904 := by
    have h : (m - 2 ^ Nat.log2 m) * 2 ^ (62 - Nat.log2 m) < 2 ^ m.log2 * 2 ^ (62 - m.log2) := by
      apply Nat.mul_lt_mul_of_pos_right _ (Nat.two_pow_pos _)
      rw [pow_add_one] at lt
      omega
    rw [← Nat.pow_add, show m.log2 + (62 - m.log2) = 62 by omega] at h
    exact h
  rw [key.1, key.2, p2, p1, W_SA]
  unfold numW
  obtain ⟨s1, s2⟩ := A_range n k
  generalize (m - 2 ^ Nat.log2 m) * 2 ^ (62 - Nat.log2 m) = F at *
  by_cases h : e + ((m.log2 + 1 : Nat) : Int) = fS n k + 1
  · rw [if_pos h]
    congr 1
    apply propext
    omega
  · rw [if_neg h]
    congr 1
    apply propext
    omega
end Go.Proofs.YtfmecakoccnblaaDoor

/- The plain law of posits' magnitudes: the fields of a key, and that they rise with the key. No program stands here. Conditions: a key of n bits that is not 0, n from 2 to 64. -/
import Derived.Test.YtfmecakoccnblaaDoorNum
set_option linter.unusedVariables false
namespace Go.Proofs.YtfmecakoccnblaaDoor

/-- how long the run of equal bits is -/
def fRun (n key : Nat) : Nat := if key < 2 ^ (n - 1) then n - Lib.bitLen key else n - Lib.bitLen (2 ^ n - 1 - key)
def fReg (n key : Nat) : Int := if key < 2 ^ (n - 1) then -(fRun n key : Int) else (fRun n key : Int) - 1
def fLeft (n key : Nat) : Nat := n - fRun n key - 1
def fRest (n key : Nat) : Nat := key % 2 ^ fLeft n key
def fBits (n key : Nat) : Nat := fLeft n key - 2
def fExp (n key : Nat) : Nat := fRest n key / 2 ^ fBits n key * 2 ^ (2 - fLeft n key)
def fFrac (n key : Nat) : Nat := fRest n key % 2 ^ fBits n key
/-- what stands behind the run, at the height of 64 bits -/
def fTail (n key : Nat) : Nat := fRest n key * 2 ^ (64 - fLeft n key)
/-- the whole: regimes, and parts of one -/
def fW (n key : Nat) : Int := fReg n key * 18446744073709551616 + fTail n key

theorem pow_add_one (k : Nat) : 2 ^ (k + 1) = 2 * 2 ^ k := by rw [Nat.pow_succ, Nat.mul_comm]
theorem pow_pred {n : Nat} (h : 1 ≤ n) : 2 ^ n = 2 * 2 ^ (n - 1) := by
  rw [← pow_add_one]; congr 1; omega
theorem pow_le {a b : Nat} (h : a ≤ b) : 2 ^ a ≤ 2 ^ b := Nat.pow_le_pow_right (by decide) h
theorem pow_le64 {n : Nat} (h : n ≤ 64) : 2 ^ n ≤ 18446744073709551616 := pow_le h

section
variable {n key : Nat} (h1 : 2 ≤ n) (h2 : n ≤ 64) (h3 : 0 < key) (h4 : key < 2 ^ n)

/-- a key whose highest bit is 0 -/
theorem neg_parts (h1 : 2 ≤ n) (h2 : n ≤ 64) (h3 : 0 < key) (h5 : key < 2 ^ (n - 1)) :
    1 ≤ fRun n key ∧ fRun n key + fLeft n key + 1 = n ∧ key = 2 ^ fLeft n key + fRest n key ∧ fRest n key < 2 ^ fLeft n key ∧ fReg n key = -(fRun n key : Int) ∧ Lib.bitLen key = fLeft n key + 1 := by
  have hp := pow_pred (n := n) (by omega)
  have h64 := pow_le64 h2
  have hb := bitLen_log key (by omega) (by omega)
  have a := Nat.log2_self_le (n := key) (by omega)
  have b := Nat.lt_log2_self (n := key)
  have hl : key.log2 < n - 1 := (Nat.log2_lt (by omega)).2 h5
  have hrun : fRun n key = n - Lib.bitLen key := if_pos h5
  have hleft : fLeft n key = key.log2 := by unfold fLeft; rw [hrun, hb]; omega
  have hreg : fReg n key = -(fRun n key : Int) := if_pos h5
  rw [pow_add_one] at b
  have hrest : fRest n key = key - 2 ^ key.log2 := by
    unfold fRest
    rw [hleft, Nat.mod_eq_sub_mod a, Nat.mod_eq_of_lt (by omega)]
  refine ⟨by rw [hrun, hb]; omega, by rw [hrun, hleft, hb]; omega, by rw [hrest, hleft]; omega, by rw [hrest, hleft]; omega, hreg, by rw [hb, hleft]⟩

/-- a key whose highest bit is 1, and that has a bit 0 -/
theorem pos_parts (h1 : 2 ≤ n) (h2 : n ≤ 64) (h4 : key < 2 ^ n) (h5 : 2 ^ (n - 1) ≤ key) (h6 : key ≠ 2 ^ n - 1) :
    1 ≤ fRun n key ∧ fRun n key + fLeft n key + 1 = n ∧ key + 2 ^ (fLeft n key + 1) = 2 ^ n + fRest n key ∧ fRest n key < 2 ^ fLeft n key ∧ fReg n key = (fRun n key : Int) - 1 ∧ Lib.bitLen (2 ^ n - 1 - key) = fLeft n key + 1 := by
  have hp := pow_pred (n := n) (by omega)
  have h64 := pow_le64 h2
  have hn : ¬ key < 2 ^ (n - 1) := by omega
  have hc0 : 2 ^ n - 1 - key ≠ 0 := by omega
  have hb := bitLen_log (2 ^ n - 1 - key) hc0 (by omega)
  have a := Nat.log2_self_le hc0
  have b := Nat.lt_log2_self (n := 2 ^ n - 1 - key)
  have hl : (2 ^ n - 1 - key).log2 < n - 1 := (Nat.log2_lt hc0).2 (by omega)
  have hrun : fRun n key = n - Lib.bitLen (2 ^ n - 1 - key) := if_neg hn
  have hreg : fReg n key = (fRun n key : Int) - 1 := if_neg hn
  generalize (2 ^ n - 1 - key).log2 = l at *
  have hleft : fLeft n key = l := by unfold fLeft; rw [hrun, hb]; omega
  rw [pow_add_one] at b
  have hd : 2 ^ n = 2 ^ l * 2 ^ (n - l) := by rw [← Nat.pow_add]; congr 1; omega
  have hq : 2 ≤ 2 ^ (n - l) := by
    have := pow_le (show 1 ≤ n - l by omega); simpa using this
  have hrest : fRest n key = key + 2 * 2 ^ l - 2 ^ n := by
    unfold fRest
    rw [hleft]
    have e : key = (key + 2 * 2 ^ l - 2 ^ n) + 2 ^ l * (2 ^ (n - l) - 2) := by
      rw [Nat.mul_sub, ← hd]
      have : 2 ^ l * 2 ≤ 2 ^ n := by rw [hd]; exact Nat.mul_le_mul_left _ hq
      omega
    conv => lhs; rw [e]
    rw [Nat.add_mul_mod_self_left, Nat.mod_eq_of_lt (by omega)]
  rw [hrest, hleft, pow_add_one]
  refine ⟨by rw [hrun, hb]; omega, by rw [hrun, hb]; omega, by omega, by omega, hreg, by rw [hb]⟩

/-- the key of ones alone -/
theorem all_parts (h1 : 2 ≤ n) (h2 : n ≤ 64) : fRun n (2 ^ n - 1) = n ∧ fLeft n (2 ^ n - 1) = 0 ∧ fRest n (2 ^ n - 1) = 0 ∧ fReg n (2 ^ n - 1) = (n : Int) - 1 := by
  have hp := pow_pred (n := n) (by omega)
  have hq : 2 ≤ 2 ^ (n - 1) := by
    have := pow_le (show 1 ≤ n - 1 by omega); simpa using this
  have hn : ¬ 2 ^ n - 1 < 2 ^ (n - 1) := by omega
  have hrun : fRun n (2 ^ n - 1) = n := by
    have : fRun n (2 ^ n - 1) = n - Lib.bitLen (2 ^ n - 1 - (2 ^ n - 1)) := if_neg hn
    rw [this, Nat.sub_self, bitLen_zero]; rfl
  have hleft : fLeft n (2 ^ n - 1) = 0 := by unfold fLeft; rw [hrun]; omega
  have hreg : fReg n (2 ^ n - 1) = (fRun n (2 ^ n - 1) : Int) - 1 := if_neg hn
  refine ⟨hrun, hleft, ?_, by rw [hreg, hrun]⟩
  unfold fRest
  rw [hleft]
  exact Nat.mod_one _
end

theorem rest_lt {n key : Nat} (h1 : 2 ≤ n) (h2 : n ≤ 64) (h3 : 0 < key) (h4 : key < 2 ^ n) : fRest n key < 2 ^ fLeft n key ∧ fLeft n key ≤ 62 := by
  by_cases h5 : key < 2 ^ (n - 1)
  · obtain ⟨a, b, c, d, _⟩ := neg_parts h1 h2 h3 h5
    exact ⟨d, by omega⟩
  · by_cases h6 : key = 2 ^ n - 1
    · subst h6
      obtain ⟨a, b, c, d⟩ := all_parts h1 h2
      rw [b, c]; exact ⟨by decide, by decide⟩
    · obtain ⟨a, b, c, d, _⟩ := pos_parts h1 h2 h4 (by omega) h6
      exact ⟨d, by omega⟩

theorem tail_lt {n key : Nat} (h1 : 2 ≤ n) (h2 : n ≤ 64) (h3 : 0 < key) (h4 : key < 2 ^ n) : fTail n key < 18446744073709551616 := by
  obtain ⟨a, b⟩ := rest_lt h1 h2 h3 h4
  unfold fTail
  have e : 2 ^ fLeft n key * 2 ^ (64 - fLeft n key) = 18446744073709551616 := by
    rw [← Nat.pow_add, show fLeft n key + (64 - fLeft n key) = 64 by omega]
  rw [← e]
  exact Nat.mul_lt_mul_of_pos_right a (Nat.two_pow_pos _)

/-- greater keys are greater wholes -/
theorem W_lt {n a b : Nat} (h1 : 2 ≤ n) (h2 : n ≤ 64) (ha : 0 < a) (hab : a < b) (hb : b < 2 ^ n) : fW n a < fW n b := by
  have ta := tail_lt h1 h2 ha (by omega)
  have tb := tail_lt h1 h2 (by omega) hb
  have hp := pow_pred (n := n) (by omega)
  have same : fReg n a = fReg n b → fLeft n a = fLeft n b → fRest n a < fRest n b → fW n a < fW n b := by
    intro e1 e2 e3
    unfold fW fTail
    rw [e1, e2]
    have := Nat.mul_lt_mul_of_pos_right e3 (Nat.two_pow_pos (64 - fLeft n b))
    omega
  have less : fReg n a < fReg n b → fW n a < fW n b := by
    intro e
    unfold fW
    omega
  by_cases a5 : a < 2 ^ (n - 1)
  · obtain ⟨a6, a7, a8, a9, a10, _⟩ := neg_parts h1 h2 ha a5
    by_cases b5 : b < 2 ^ (n - 1)
    · obtain ⟨b6, b7, b8, b9, b10, _⟩ := neg_parts h1 h2 (by omega) b5
      rcases Nat.lt_trichotomy (fLeft n a) (fLeft n b) with h | h | h
      · exact less (by omega)
      · exact same (by omega) h (by rw [h] at a8; omega)
      · exfalso
        have := pow_le (show fLeft n b + 1 ≤ fLeft n a by omega)
        rw [pow_add_one] at this
        omega
    · have : 0 ≤ fReg n b := by
        by_cases b6 : b = 2 ^ n - 1
        · subst b6
          obtain ⟨_, _, _, d⟩ := all_parts h1 h2
          omega
        · obtain ⟨b7, _, _, _, d, _⟩ := pos_parts h1 h2 hb (by omega) b6
          omega
      exact less (by omega)
  · obtain ⟨a6, a7, a8, a9, a10, _⟩ := pos_parts h1 h2 (by omega) (by omega) (show a ≠ 2 ^ n - 1 by omega)
    by_cases b6 : b = 2 ^ n - 1
    · subst b6
      obtain ⟨b7, _, _, d⟩ := all_parts h1 h2
      exact less (by omega)
    · obtain ⟨b7, b8, b9, b10, b11, _⟩ := pos_parts h1 h2 hb (by omega) b6
      rw [pow_add_one] at a8 b9
      rcases Nat.lt_trichotomy (fLeft n a) (fLeft n b) with h | h | h
      · exfalso
        have := pow_le (show fLeft n a + 1 ≤ fLeft n b by omega)
        rw [pow_add_one] at this
        omega
      · exact same (by omega) h (by rw [h] at a8; omega)
      · exact less (by omega)

theorem W_inj {n a b : Nat} (h1 : 2 ≤ n) (h2 : n ≤ 64) (ha : 0 < a) (ha2 : a < 2 ^ n) (hb : 0 < b) (hb2 : b < 2 ^ n) (h : fW n a = fW n b) : a = b := by
  rcases Nat.lt_trichotomy a b with l | l | l
  · have := W_lt h1 h2 ha l hb2; omega
  · exact l
  · have := W_lt h1 h2 hb l ha2; omega
theorem W_lt_iff {n a b : Nat} (h1 : 2 ≤ n) (h2 : n ≤ 64) (ha : 0 < a) (ha2 : a < 2 ^ n) (hb : 0 < b) (hb2 : b < 2 ^ n) : fW n a < fW n b ↔ a < b := by
  constructor
  · intro h
    rcases Nat.lt_trichotomy a b with l | l | l
    · exact l
    · subst l; omega
    · have := W_lt h1 h2 hb l ha2; omega
  · exact fun l => W_lt h1 h2 ha l hb2
end Go.Proofs.YtfmecakoccnblaaDoor

/- Numbers of words, the lowest first: the plain law. No program stands here. Conditions: as each theorem names them. -/
import Derived.Lib.Hide
set_option linter.unusedVariables false
namespace Go.Proofs.Yteiajccjlbghoaa

/-- a word's count of values -/
def Wd : Nat := 18446744073709551616
theorem Wd_eq : Wd = 18446744073709551616 := rfl
theorem Wd_pow : Wd = 2 ^ 64 := by decide
/-- the number of the lowest n words -/
def S (F : Nat → Nat) : Nat → Nat
  | 0 => 0
  | n + 1 => S F n + F n * Wd ^ n
theorem S_zero (F : Nat → Nat) : S F 0 = 0 := rfl
theorem S_succ (F : Nat → Nat) (n : Nat) : S F (n + 1) = S F n + F n * Wd ^ n := rfl
theorem Wd_pos : 0 < Wd := by decide
theorem Wp_pos (n : Nat) : 0 < Wd ^ n := Nat.pow_pos Wd_pos
theorem Wp_succ (n : Nat) : Wd ^ (n + 1) = Wd ^ n * Wd := Nat.pow_succ ..
theorem S_congr {F G : Nat → Nat} {n : Nat} (h : ∀ i, i < n → F i = G i) : S F n = S G n := by
  induction n with
  | zero => rfl
  | succ n ih => rw [S_succ, S_succ, ih (fun i hi => h i (by omega)), h n (by omega)]
theorem S_lt {F : Nat → Nat} {n : Nat} (h : ∀ i, i < n → F i < Wd) : S F n < Wd ^ n := by
  induction n with
  | zero => exact Nat.one_pos
  | succ n ih =>
    rw [S_succ, Wp_succ]
    have a := ih (fun i hi => h i (by omega))
    have b := h n (by omega)
    have c : (F n + 1) * Wd ^ n ≤ Wd * Wd ^ n := Nat.mul_le_mul_right _ b
    rw [Nat.add_mul, Nat.one_mul, Nat.mul_comm Wd] at c
    omega
theorem S_le_succ (F : Nat → Nat) (n : Nat) : S F n ≤ S F (n + 1) := by rw [S_succ]; exact Nat.le_add_right _ _
theorem S_mono {F : Nat → Nat} {m n : Nat} (h : m ≤ n) : S F m ≤ S F n := by
  induction h with
  | refl => exact Nat.le_refl _
  | step _ ih => exact Nat.le_trans ih (S_le_succ _ _)
/-- words behind the first ones that are all 0 -/
theorem S_zeros {F : Nat → Nat} {m n : Nat} (h : m ≤ n) (z : ∀ i, m ≤ i → i < n → F i = 0) : S F n = S F m := by
  induction h with
  | refl => rfl
  | @step k hk ih => rw [S_succ, ih (fun i h1 h2 => z i h1 (by omega)), z k hk (by omega), Nat.zero_mul, Nat.add_zero]
/-- words from the m-th on -/
theorem S_split (F : Nat → Nat) (m k : Nat) : S F (m + k) = S F m + Wd ^ m * S (fun i => F (m + i)) k := by
  induction k with
  | zero => simp [S_zero]
  | succ k ih =>
    rw [← Nat.add_assoc, S_succ, ih, S_succ, Nat.mul_add, Nat.pow_add, Nat.add_assoc]
    congr 2
    rw [Nat.mul_left_comm]
theorem S_shift (F : Nat → Nat) (n : Nat) : S F (n + 1) = F 0 + Wd * S (fun i => F (i + 1)) n := by
  have := S_split F 1 n
  rw [Nat.add_comm] at this
  rw [this, S_succ, S_zero, Nat.zero_add, Nat.pow_zero, Nat.mul_one, Nat.pow_one]
  congr 2
  exact S_congr fun i _ => by rw [Nat.add_comm]
/-- is the highest word not 0? -/
def Nm (n : Nat) (F : Nat → Nat) : Prop := n = 0 ∨ F (n - 1) ≠ 0
theorem nm_ge {n : Nat} {F : Nat → Nat} (h : Nm (n + 1) F) : Wd ^ n ≤ S F (n + 1) := by
  rcases h with h | h
  · exact absurd h (by omega)
  · rw [Nat.add_sub_cancel] at h
    rw [S_succ]
    have : 1 * Wd ^ n ≤ F n * Wd ^ n := Nat.mul_le_mul_right _ (Nat.pos_of_ne_zero h)
    omega
theorem nm_zero {n : Nat} {F : Nat → Nat} (h : Nm n F) : S F n = 0 ↔ n = 0 := by
  constructor
  · intro h0
    rcases n with _ | n
    · rfl
    · have := nm_ge h; have := Wp_pos n; omega
  · rintro rfl; rfl
/-- how many words a number takes -/
theorem nm_len {n k N : Nat} {F : Nat → Nat} (h : Nm n F) (hs : S F n = N) (hN : N < Wd ^ k) : n ≤ k := by
  rcases Nat.lt_or_ge k n with hlt | hge
  · exfalso
    obtain ⟨m, rfl⟩ : ∃ m, n = m + 1 := ⟨n - 1, by omega⟩
    have a := nm_ge h
    have b : Wd ^ k ≤ Wd ^ m := Nat.pow_le_pow_right Wd_pos (by omega)
    omega
  · exact hge
/-- the words of a number are its own -/
theorem S_inj {F G : Nat → Nat} {n : Nat} (hF : ∀ i, i < n → F i < Wd) (hG : ∀ i, i < n → G i < Wd) (h : S F n = S G n) : ∀ i, i < n → F i = G i := by
  induction n generalizing F G with
  | zero => intro i hi; omega
  | succ n ih =>
    rw [S_shift, S_shift] at h
    have f0 := hF 0 (by omega)
    have g0 := hG 0 (by omega)
    have e0 : F 0 = G 0 := by
      have := congrArg (· % Wd) h
      simp only [Nat.add_mul_mod_self_left, Nat.mod_eq_of_lt f0, Nat.mod_eq_of_lt g0] at this
      exact this
    have e1 : S (fun i => F (i + 1)) n = S (fun i => G (i + 1)) n := by
      rw [e0] at h
      exact Nat.eq_of_mul_eq_mul_left Wd_pos (Nat.add_left_cancel h)
    intro i hi
    rcases i with _ | i
    · exact e0
    · exact ih (fun i hi => hF (i + 1) (by omega)) (fun i hi => hG (i + 1) (by omega)) e1 i (by omega)
theorem S_lt_len {F G : Nat → Nat} {m n : Nat} (hF : ∀ i, i < m → F i < Wd) (hG : Nm n G) (h : m < n) : S F m < S G n := by
  obtain ⟨k, rfl⟩ : ∃ k, n = k + 1 := ⟨n - 1, by omega⟩
  have a := S_lt hF
  have b := nm_ge hG
  have c : Wd ^ m ≤ Wd ^ k := Nat.pow_le_pow_right Wd_pos (by omega)
  omega
/-- two numbers of n words, alike from the j-th on, are told apart by the words below -/
theorem S_high {F G : Nat → Nat} {j n : Nat} (hj : j ≤ n) (h : ∀ i, j ≤ i → i < n → F i = G i) : (S F n < S G n ↔ S F j < S G j) ∧ (S F n = S G n ↔ S F j = S G j) := by
  obtain ⟨k, rfl⟩ : ∃ k, n = j + k := ⟨n - j, by omega⟩
  rw [S_split, S_split, S_congr (F := fun i => F (j + i)) (G := fun i => G (j + i)) (fun i hi => h (j + i) (by omega) (by omega))]
  omega
theorem S_top_lt {F G : Nat → Nat} {j : Nat} (hF : ∀ i, i < j → F i < Wd) (h : F j < G j) : S F (j + 1) < S G (j + 1) := by
  rw [S_succ, S_succ]
  have a := S_lt hF
  have c : (F j + 1) * Wd ^ j ≤ G j * Wd ^ j := Nat.mul_le_mul_right _ h
  rw [Nat.add_mul, Nat.one_mul] at c
  omega
end Go.Proofs.Yteiajccjlbghoaa

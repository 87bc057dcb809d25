/- Numbers of half words, the lowest first: the plain law. Conditions: as each theorem names them. -/
import Derived.Lib.Hide
import Derived.Test.YteiajccjlbghoaaCarry
set_option linter.unusedVariables false
namespace Go.Proofs.Yteiajccjlbghoaa

/-- a half word's count of values -/
def Hd : Nat := 4294967296
theorem Hd_eq : Hd = 4294967296 := rfl
theorem Hd_pow : Hd = 2 ^ 32 := by decide
/-- the number of the lowest n words -/
def T (F : Nat → Nat) : Nat → Nat
  | 0 => 0
  | n + 1 => T F n + F n * Hd ^ n
theorem T_zero (F : Nat → Nat) : T F 0 = 0 := rfl
theorem T_succ (F : Nat → Nat) (n : Nat) : T F (n + 1) = T F n + F n * Hd ^ n := rfl
theorem Hd_pos : 0 < Hd := by decide
theorem Hp_pos (n : Nat) : 0 < Hd ^ n := Nat.pow_pos Hd_pos
theorem Hp_succ (n : Nat) : Hd ^ (n + 1) = Hd ^ n * Hd := Nat.pow_succ ..
theorem T_congr {F G : Nat → Nat} {n : Nat} (h : ∀ i, i < n → F i = G i) : T F n = T G n := by
  induction n with
  | zero => rfl
  | succ n ih => rw [T_succ, T_succ, ih (fun i hi => h i (by omega)), h n (by omega)]
theorem T_lt {F : Nat → Nat} {n : Nat} (h : ∀ i, i < n → F i < Hd) : T F n < Hd ^ n := by
  induction n with
  | zero => exact Nat.one_pos
  | succ n ih =>
    rw [T_succ, Hp_succ]
    have a := ih (fun i hi => h i (by omega))
    have b := h n (by omega)
    have c : (F n + 1) * Hd ^ n ≤ Hd * Hd ^ n := Nat.mul_le_mul_right _ b
    rw [Nat.add_mul, Nat.one_mul, Nat.mul_comm Hd] at c
    omega
theorem T_le_succ (F : Nat → Nat) (n : Nat) : T F n ≤ T F (n + 1) := by rw [T_succ]; exact Nat.le_add_right _ _
theorem T_mono {F : Nat → Nat} {m n : Nat} (h : m ≤ n) : T F m ≤ T F n := by
  induction h with
  | refl => exact Nat.le_refl _
  | step _ ih => exact Nat.le_trans ih (T_le_succ _ _)
/-- words behind the first ones that are all 0 -/
theorem T_zeros {F : Nat → Nat} {m n : Nat} (h : m ≤ n) (z : ∀ i, m ≤ i → i < n → F i = 0) : T F n = T F m := by
  induction h with
  | refl => rfl
  | @step k hk ih => rw [T_succ, ih (fun i h1 h2 => z i h1 (by omega)), z k hk (by omega), Nat.zero_mul, Nat.add_zero]
/-- words from the m-th on -/
theorem T_split (F : Nat → Nat) (m k : Nat) : T F (m + k) = T F m + Hd ^ m * T (fun i => F (m + i)) k := by
  induction k with
  | zero => simp [T_zero]
  | succ k ih =>
    rw [← Nat.add_assoc, T_succ, ih, T_succ, Nat.mul_add, Nat.pow_add, Nat.add_assoc]
    congr 2
    rw [Nat.mul_left_comm]
theorem T_shift (F : Nat → Nat) (n : Nat) : T F (n + 1) = F 0 + Hd * T (fun i => F (i + 1)) n := by
  have := T_split F 1 n
  rw [Nat.add_comm] at this
  rw [this, T_succ, T_zero, Nat.zero_add, Nat.pow_zero, Nat.mul_one, Nat.pow_one]
  congr 2
  exact T_congr fun i _ => by rw [Nat.add_comm]
theorem hm_ge {n : Nat} {F : Nat → Nat} (h : Nm (n + 1) F) : Hd ^ n ≤ T F (n + 1) := by
  rcases h with h | h
  · exact absurd h (by omega)
  · rw [Nat.add_sub_cancel] at h
    rw [T_succ]
    have : 1 * Hd ^ n ≤ F n * Hd ^ n := Nat.mul_le_mul_right _ (Nat.pos_of_ne_zero h)
    omega
theorem hm_zero {n : Nat} {F : Nat → Nat} (h : Nm n F) : T F n = 0 ↔ n = 0 := by
  constructor
  · intro h0
    rcases n with _ | n
    · rfl
    · have := hm_ge h; have := Hp_pos n; omega
  · rintro rfl; rfl
/-- how many words a number takes -/
theorem hm_len {n k N : Nat} {F : Nat → Nat} (h : Nm n F) (hs : T F n = N) (hN : N < Hd ^ k) : n ≤ k := by
  rcases Nat.lt_or_ge k n with hlt | hge
  · exfalso
    obtain ⟨m, rfl⟩ : ∃ m, n = m + 1 := ⟨n - 1, by omega⟩
    have a := hm_ge h
    have b : Hd ^ k ≤ Hd ^ m := Nat.pow_le_pow_right Hd_pos (by omega)
    omega
  · exact hge
/-- the words of a number are its own -/
theorem T_inj {F G : Nat → Nat} {n : Nat} (hF : ∀ i, i < n → F i < Hd) (hG : ∀ i, i < n → G i < Hd) (h : T F n = T G n) : ∀ i, i < n → F i = G i := by
  induction n generalizing F G with
  | zero => intro i hi; omega
  | succ n ih =>
    rw [T_shift, T_shift] at h
    have f0 := hF 0 (by omega)
    have g0 := hG 0 (by omega)
    have e0 : F 0 = G 0 := by
      have := congrArg (· % Hd) h
      simp only [Nat.add_mul_mod_self_left, Nat.mod_eq_of_lt f0, Nat.mod_eq_of_lt g0] at this
      exact this
    have e1 : T (fun i => F (i + 1)) n = T (fun i => G (i + 1)) n := by
      rw [e0] at h
      exact Nat.eq_of_mul_eq_mul_left Hd_pos (Nat.add_left_cancel h)
    intro i hi
    rcases i with _ | i
    · exact e0
    · exact ih (fun i hi => hF (i + 1) (by omega)) (fun i hi => hG (i + 1) (by omega)) e1 i (by omega)
theorem T_lt_len {F G : Nat → Nat} {m n : Nat} (hF : ∀ i, i < m → F i < Hd) (hG : Nm n G) (h : m < n) : T F m < T G n := by
  obtain ⟨k, rfl⟩ : ∃ k, n = k + 1 := ⟨n - 1, by omega⟩
  have a := T_lt hF
  have b := hm_ge hG
  have c : Hd ^ m ≤ Hd ^ k := Nat.pow_le_pow_right Hd_pos (by omega)
  omega
/-- two numbers of n words, alike from the j-th on, are told apart by the words below -/
theorem T_high {F G : Nat → Nat} {j n : Nat} (hj : j ≤ n) (h : ∀ i, j ≤ i → i < n → F i = G i) : (T F n < T G n ↔ T F j < T G j) ∧ (T F n = T G n ↔ T F j = T G j) := by
  obtain ⟨k, rfl⟩ : ∃ k, n = j + k := ⟨n - j, by omega⟩
  rw [T_split, T_split, T_congr (F := fun i => F (j + i)) (G := fun i => G (j + i)) (fun i hi => h (j + i) (by omega) (by omega))]
  omega
theorem T_top_lt {F G : Nat → Nat} {j : Nat} (hF : ∀ i, i < j → F i < Hd) (h : F j < G j) : T F (j + 1) < T G (j + 1) := by
  rw [T_succ, T_succ]
  have a := T_lt hF
  have c : (F j + 1) * Hd ^ j ≤ G j * Hd ^ j := Nat.mul_le_mul_right _ h
  rw [Nat.add_mul, Nat.one_mul] at c
  omega
theorem Hp_two (n : Nat) : Hd ^ n = 2 ^ (32 * n) := by rw [Hd_pow, ← Nat.pow_mul]
theorem T_ext {n m : Nat} (F : Nat → Nat) (h : n ≤ m) : T (ext n F) m = T F n := by
  rw [T_zeros h (F := ext n F) (fun i h1 h2 => if_neg (by omega))]
  exact T_congr fun i hi => if_pos hi
theorem upd_T (O : Nat → Nat) (j v n : Nat) (h : n ≤ j) : T (upd O j v) n = T O n := T_congr fun i hi => upd_ne O v (by omega)
theorem ext_h {n : Nat} {F : Nat → Nat} (h : ∀ i, i < n → F i < Hd) (i : Nat) : ext n F i < 4294967296 := by
  unfold ext
  split
  · exact h i ‹_›
  · decide
theorem ext_in {n i : Nat} (F : Nat → Nat) (h : i < n) : ext n F i = F i := if_pos h
theorem ext_out {n i : Nat} (F : Nat → Nat) (h : n ≤ i) : ext n F i = 0 := if_neg (by omega)
theorem hcmp_at {m j : Nat} {F G : Nat → Nat} (hj : j < m) (hF : ∀ i, i < m → F i < Hd) (hG : ∀ i, i < m → G i < Hd) (he : ∀ i, j + 1 ≤ i → i < m → F i = G i) (hne : F j ≠ G j) : cmpN (T F m) (T G m) = cmpN (F j) (G j) := by
  have h1 := T_high (show j + 1 ≤ m by omega) he
  rcases Nat.lt_or_gt_of_ne hne with h | h
  · have h2 := T_top_lt (fun i hi => hF i (by omega)) h
    unfold cmpN
    rw [if_pos (h1.1.2 h2), if_pos h]
  · have h2 := T_top_lt (fun i hi => hG i (by omega)) h
    have h3 := (T_high (show j + 1 ≤ m by omega) (fun i a b => (he i a b).symm)).1.2 h2
    unfold cmpN
    rw [if_neg (by omega), if_pos h3, if_neg (by omega), if_pos h]
theorem hcmp_same {m : Nat} {F G : Nat → Nat} (he : ∀ i, i < m → F i = G i) : cmpN (T F m) (T G m) = 0 := by
  rw [T_congr he]; unfold cmpN; simp
/-- words as half words -/
def hv (F : Nat → Nat) (i : Nat) : Nat := if i % 2 = 0 then F (i / 2) % 4294967296 else F (i / 2) / 4294967296
theorem hv_even (F : Nat → Nat) (i : Nat) : hv F (2 * i) = F i % 4294967296 := by
  unfold hv; rw [if_pos (by omega), show 2 * i / 2 = i by omega]
theorem hv_odd (F : Nat → Nat) (i : Nat) : hv F (2 * i + 1) = F i / 4294967296 := by
  unfold hv; rw [if_neg (by omega), show (2 * i + 1) / 2 = i by omega]
theorem Hd_two (n : Nat) : Hd ^ (2 * n) = Wd ^ n := by rw [Nat.pow_mul]; rfl
theorem T_hv (F : Nat → Nat) (n : Nat) : T (hv F) (2 * n) = S F n := by
  induction n with
  | zero => rfl
  | succ n ih =>
    rw [show 2 * (n + 1) = 2 * n + 1 + 1 by omega, T_succ, T_succ, S_succ, ih, hv_even, hv_odd, Hp_succ, Hd_two]
    have h := Nat.div_add_mod (F n) 4294967296
    have e : F n / 4294967296 * (Wd ^ n * Hd) = 4294967296 * (F n / 4294967296) * Wd ^ n := by
      rw [Nat.mul_comm (Wd ^ n), ← Nat.mul_assoc, Nat.mul_comm (F n / 4294967296)]; rfl
    rw [e, Nat.add_assoc, ← Nat.add_mul]
    congr 2
    omega
theorem hv_lt (F : Nat → Nat) (n : Nat) (h : ∀ i, i < n → F i < Wd) : ∀ i, i < 2 * n → hv F i < Hd := by
  intro i hi
  unfold hv Hd
  split
  · exact Nat.mod_lt _ (by decide)
  · have := h (i / 2) (by omega)
    unfold Wd at this
    omega
/-- half words as words -/
def wv (n : Nat) (F : Nat → Nat) (i : Nat) : Nat := ext n F (2 * i) + ext n F (2 * i + 1) * 4294967296
theorem S_wv (n : Nat) (F : Nat → Nat) (k : Nat) : S (wv n F) k = T (ext n F) (2 * k) := by
  induction k with
  | zero => rfl
  | succ k ih =>
    rw [show 2 * (k + 1) = 2 * k + 1 + 1 by omega, T_succ, T_succ, S_succ, ih, Hp_succ, Hd_two]
    unfold wv
    rw [Nat.add_mul, Nat.mul_comm (Wd ^ k) Hd, ← Nat.mul_assoc, Nat.add_assoc]
    rfl
theorem wv_lt {n : Nat} {F : Nat → Nat} (h : ∀ i, i < n → F i < Hd) (i : Nat) : wv n F i < 18446744073709551616 := by
  have a := ext_h h (2 * i)
  have b := ext_h h (2 * i + 1)
  unfold wv
  omega
/-- a bit of a number -/
theorem bit_T {n i q r : Nat} {F : Nat → Nat} (hF : ∀ i, i < n → F i < Hd) (hi : i = 32 * q + r) (hr : r < 32) : T F n / 2 ^ i % 2 = ext n F q / 2 ^ r % 2 := by
  have h1 : T F n = T (ext n F) (n + q + 1) := (T_ext F (by omega)).symm
  rw [h1, show n + q + 1 = q + (n + 1) by omega, T_split, T_shift, hi, Nat.pow_add, ← Hp_two, ← Nat.div_div_eq_div_mul]
  have h2 : T (ext n F) q < Hd ^ q := T_lt (fun i _ => ext_h hF i)
  rw [Nat.add_mul_div_left _ _ (Hp_pos q), Nat.div_eq_of_lt h2, Nat.zero_add, Nat.add_zero]
  generalize T (fun i => ext n F (q + (i + 1))) n = R
  generalize ext n F q = x
  have e : Hd = 2 ^ r * (2 * 2 ^ (31 - r)) := by
    rw [Hd_pow, ← Nat.pow_succ', ← Nat.pow_add]; congr 1; omega
  rw [e, Nat.mul_assoc, Nat.add_mul_div_left _ _ (Nat.two_pow_pos r), Nat.mul_assoc, Nat.add_mul_mod_self_left]
end Go.Proofs.Yteiajccjlbghoaa

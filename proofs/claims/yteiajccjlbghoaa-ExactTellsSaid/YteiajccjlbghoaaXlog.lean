/- Exact numbers: signs, logarithms, how often a power of 10 goes into one, what is reduced: the plain laws. No program stands here. Conditions: as each theorem names them. -/
import Derived.Test.YteiajccjlbghoaaXlaw
set_option linter.unusedVariables false
namespace Go.Proofs.Yteiajccjlbghoaa

def cmpI (a b : Int) : Int := if a < b then -1 else if b < a then 1 else 0
def sx (neg : Bool) (M : Nat) (s f : Int) : Int := if neg = true then -(vx M s f : Int) else (vx M s f : Int)
theorem cmpI_cases (a b : Int) : (cmpI a b = -1 ∧ a < b) ∨ (cmpI a b = 1 ∧ b < a) ∨ (cmpI a b = 0 ∧ a = b) := by
  unfold cmpI
  by_cases h1 : a < b
  · rw [if_pos h1]; exact Or.inl ⟨rfl, h1⟩
  · by_cases h2 : b < a
    · rw [if_neg h1, if_pos h2]; exact Or.inr (Or.inl ⟨rfl, h2⟩)
    · rw [if_neg h1, if_neg h2]; exact Or.inr (Or.inr ⟨rfl, by omega⟩)
theorem cmpN_cases3 (a b : Nat) : (cmpN a b = -1 ∧ a < b) ∨ (cmpN a b = 1 ∧ b < a) ∨ (cmpN a b = 0 ∧ a = b) := by
  unfold cmpN
  by_cases h1 : a < b
  · rw [if_pos h1]; exact Or.inl ⟨rfl, h1⟩
  · by_cases h2 : b < a
    · rw [if_neg h1, if_pos h2]; exact Or.inr (Or.inl ⟨rfl, h2⟩)
    · rw [if_neg h1, if_neg h2]; exact Or.inr (Or.inr ⟨rfl, by omega⟩)
theorem vx_pos_iff (M : Nat) (s f : Int) : 0 < vx M s f ↔ 0 < M := by
  constructor
  · intro h
    rcases Nat.eq_zero_or_pos M with h0 | h0
    · rw [h0, vx_zero] at h; exact absurd h (Nat.lt_irrefl _)
    · exact h0
  · exact vx_pos s f
/-- does a number lie below 0? -/
def under (neg : Bool) (M : Nat) : Bool := neg && decide (0 < M)
theorem sx_under (neg : Bool) (M : Nat) (s f : Int) : sx neg M s f = if under neg M = true then -(vx M s f : Int) else (vx M s f : Int) := by
  unfold sx under
  cases neg
  · simp
  · rcases Nat.eq_zero_or_pos M with h0 | h0
    · subst h0; simp [vx_zero]
    · simp [h0]
theorem under_pos {neg : Bool} {M : Nat} (h : under neg M = true) (s f : Int) : 0 < vx M s f := by
  unfold under at h; simp at h; exact vx_pos s f h.2
theorem signed_diff {na nb : Bool} {M N : Nat} (s f t g : Int) (h : under na M ≠ under nb N) : cmpI (sx na M s f) (sx nb N t g) = if under na M = true then -1 else 1 := by
  rw [sx_under, sx_under]
  rcases cmpI_cases (if under na M = true then -(vx M s f : Int) else (vx M s f : Int)) (if under nb N = true then -(vx N t g : Int) else (vx N t g : Int)) with ⟨e, hh⟩ | ⟨e, hh⟩ | ⟨e, hh⟩ <;> rw [e] <;>
  (cases ha : under na M <;> cases hb : under nb N <;> simp only [ha, hb] at h hh ⊢ <;> first | exact absurd rfl h | rfl | skip)
  all_goals (first | (have := under_pos ha s f; simp at hh; omega) | (have := under_pos hb t g; simp at hh; omega))
theorem signed_below {na nb : Bool} {M N : Nat} (s f t g : Int) (ha : under na M = true) (hb : under nb N = true) : cmpI (sx na M s f) (sx nb N t g) = xcmp N t g M s f := by
  rw [sx_under, sx_under, if_pos ha, if_pos hb]
  unfold xcmp
  rcases cmpI_cases (-(vx M s f : Int)) (-(vx N t g : Int)) with ⟨e, hh⟩ | ⟨e, hh⟩ | ⟨e, hh⟩ <;> rcases cmpN_cases3 (vx N t g) (vx M s f) with ⟨e2, hh2⟩ | ⟨e2, hh2⟩ | ⟨e2, hh2⟩ <;> rw [e, e2] <;> omega
theorem signed_above {na nb : Bool} {M N : Nat} (s f t g : Int) (ha : under na M = false) (hb : under nb N = false) : cmpI (sx na M s f) (sx nb N t g) = xcmp M s f N t g := by
  rw [sx_under, sx_under, if_neg (by rw [ha]; decide), if_neg (by rw [hb]; decide)]
  unfold xcmp
  rcases cmpI_cases (vx M s f : Int) (vx N t g : Int) with ⟨e, hh⟩ | ⟨e, hh⟩ | ⟨e, hh⟩ <;> rcases cmpN_cases3 (vx M s f) (vx N t g) with ⟨e2, hh2⟩ | ⟨e2, hh2⟩ | ⟨e2, hh2⟩ <;> rw [e, e2] <;> omega

/-! the logarithm -/
theorem d5_form (h : Int) : (0 ≤ h ∧ d5 h = h * 2321928095 / 1000000000) ∨ (h < 0 ∧ d5 h = -(-h * 2321928095 / 1000000000)) := by
  unfold d5
  rcases Int.lt_or_le h 0 with h0 | h0
  · right
    refine ⟨h0, ?_⟩
    have e : h * 2321928095 = -(-h * 2321928095) := by omega
    rw [e, Int.neg_tdiv, Int.tdiv_eq_ediv_of_nonneg (by omega)]
  · left
    exact ⟨h0, by rw [Int.tdiv_eq_ediv_of_nonneg (by omega)]⟩
theorem tdiv_form (h : Int) : (0 ≤ h ∧ h.tdiv 100000 = h / 100000) ∨ (h < 0 ∧ h.tdiv 100000 = -(-h / 100000)) := by
  rcases Int.lt_or_le h 0 with h0 | h0
  · right
    refine ⟨h0, ?_⟩
    have e : h = -(-h) := by omega
    rw [e, Int.neg_tdiv, Int.tdiv_eq_ediv_of_nonneg (by omega), Int.neg_neg]
  · left
    exact ⟨h0, by rw [Int.tdiv_eq_ediv_of_nonneg (by omega)]⟩
/-- where the search for the logarithm begins -/
def lgTop (z : Int) : Int := if 0 ≤ ((z + 6) * 30103).tdiv 100000 then ((z + 6) * 30103).tdiv 100000 + 1 else ((z + 6) * 30103).tdiv 100000
theorem lgTop_over {z : Int} (h : -60000 ≤ z ∧ z ≤ 60000) : z - (1 + (lgTop z + 1) + d5 (lgTop z + 1)) < -6 ∧ -19000 ≤ lgTop z ∧ lgTop z ≤ 19000 := by
  unfold lgTop
  rcases tdiv_form ((z + 6) * 30103) with ⟨h1, h2⟩ | ⟨h1, h2⟩ <;> rw [h2] <;> split <;>
  (rename_i hq
   generalize hk : ((_ : Int) + 1) = k
   rcases d5_form k with ⟨h3, h4⟩ | ⟨h3, h4⟩ <;> rw [h4] <;> omega)
theorem bitsN_one : bitsN 1 = 1 := by decide
/-- 10 to a power -/
def tenx (k : Int) : Nat := vx 1 k k
theorem tenx_succ {k : Int} (h : -40000 ≤ k) : tenx (k + 1) = 10 * tenx k := by
  unfold tenx vx
  rw [show (k + 1 + 40000).toNat = (k + 40000).toNat + 1 by omega, Nat.pow_succ, Nat.pow_succ]
  generalize 5 ^ (k + 40000).toNat = a
  generalize 2 ^ (k + 40000).toNat = b
  rw [Nat.one_mul, Nat.one_mul]
  rw [Nat.mul_mul_mul_comm, Nat.mul_comm]
theorem tenx_pos (k : Int) : 0 < tenx k := vx_pos k k (by decide)
theorem tenx_mono {j k : Int} (hj : -40000 ≤ j) (h : j ≤ k) : tenx j ≤ tenx k := by
  obtain ⟨n, rfl⟩ : ∃ n : Nat, k = j + n := ⟨(k - j).toNat, by omega⟩
  clear h
  induction n with
  | zero => simp
  | succ n ih =>
    rw [show j + ((n + 1 : Nat) : Int) = (j + n) + 1 by omega, tenx_succ (by omega)]
    omega
theorem vx_ten (q : Nat) (k : Int) : vx q k k = q * tenx k := by unfold tenx vx; rw [Nat.one_mul, Nat.mul_assoc]
/-- the greatest power of 10 that is not above a number -/
def Lg (M : Nat) (s f k : Int) : Prop := -19000 ≤ k ∧ k ≤ 19000 ∧ ((M = 0 ∧ k = 0) ∨ (0 < M ∧ tenx k ≤ vx M s f ∧ vx M s f < tenx (k + 1)))
theorem Lg.uniq {M N : Nat} {s f t g j k : Int} (h : Lg M s f j) (h' : Lg N t g k) (e : vx M s f = vx N t g) (e0 : M = 0 ↔ N = 0) : j = k := by
  obtain ⟨a1, a2, a⟩ := h
  obtain ⟨b1, b2, b⟩ := h'
  rcases a with ⟨m0, rfl⟩ | ⟨m0, x1, x2⟩
  · rcases b with ⟨_, rfl⟩ | ⟨n0, _, _⟩
    · rfl
    · have := e0.1 m0; omega
  · rcases b with ⟨n0, rfl⟩ | ⟨n0, y1, y2⟩
    · have := e0.2 n0; omega
    · rw [← e] at y1 y2
      rcases Int.lt_trichotomy j k with hlt | heq | hgt
      · have := tenx_mono (j := j + 1) (k := k) (by omega) (by omega); omega
      · exact heq
      · have := tenx_mono (j := k + 1) (k := j) (by omega) (by omega); omega
theorem lg_first {M : Nat} {s f : Int} (hM : 0 < M) (hs : -6000 ≤ s ∧ s ≤ 6000) (hf : -6000 ≤ f ∧ f ≤ 6000) (hb : bitsN M ≤ 9000) : vx M s f < tenx (lgTop ((bitsN M : Int) + s + d5 f) + 1) ∧ -9600 ≤ lgTop ((bitsN M : Int) + s + d5 f) + 1 ∧ lgTop ((bitsN M : Int) + s + d5 f) + 1 ≤ 9600 := by
  have hd : -14000 ≤ d5 f ∧ d5 f ≤ 14000 := by
    rcases d5_form f with ⟨h3, h4⟩ | ⟨h3, h4⟩ <;> rw [h4] <;> omega
  obtain ⟨z, hz⟩ : ∃ z, (bitsN M : Int) + s + d5 f = z := ⟨_, rfl⟩
  have hz1 : -30000 ≤ z ∧ z ≤ 30000 := by omega
  have ht : -9500 ≤ lgTop z ∧ lgTop z ≤ 9500 := by
    unfold lgTop
    rcases tdiv_form ((z + 6) * 30103) with ⟨h1, h2⟩ | ⟨h1, h2⟩ <;> rw [h2] <;> split <;> omega
  have h1 := (lgTop_over (z := z) (by omega)).1
  rw [hz]
  refine ⟨?_, by omega, by omega⟩
  have := far_less (M := M) (N := 1) (s := s) (f := f) (t := lgTop z + 1) (g := lgTop z + 1) hM (by decide) (by omega) (by omega) (by omega) (by omega) (by rw [hz, bitsN_one]; omega)
  exact (cmpN_cases _ _).1.1 this
theorem lg_low {M : Nat} {s f k : Int} (hM : 0 < M) (hs : -6000 ≤ s ∧ s ≤ 6000) (hf : -6000 ≤ f ∧ f ≤ 6000) (hk : -9800 ≤ k) (h : vx M s f < tenx k) : -9700 ≤ k := by
  rcases Int.lt_or_le k (-9700) with h0 | h0
  · exfalso
    have hd : -14000 ≤ d5 f ∧ d5 f ≤ 14000 := by
      rcases d5_form f with ⟨h3, h4⟩ | ⟨h3, h4⟩ <;> rw [h4] <;> omega
    have hd2 : d5 k ≤ -22000 := by
      rcases d5_form k with ⟨h3, h4⟩ | ⟨h3, h4⟩ <;> rw [h4] <;> omega
    have := far_more (M := M) (N := 1) (s := s) (f := f) (t := k) (g := k) hM (by decide) (by omega) (by omega) (by omega) (by omega) (by rw [bitsN_one]; omega)
    have := (cmpN_cases _ _).2.1.1 this
    unfold tenx at h
    omega
  · exact h0

/-! how often -/
def restN (X T : Nat) : Int := if X % T = 0 then 0 else 2 + cmpN (2 * (X % T)) T
theorem floor_parts (M : Nat) (s f k : Int) (hs : -20000 ≤ s) (hf : -20000 ≤ f) (hk : -20000 ≤ k) : ∃ C, 0 < C ∧ vx M s f = M * 5 ^ (f - k).toNat * 2 ^ (s - k).toNat * C ∧ tenx k = 1 * 5 ^ (k - f).toNat * 2 ^ (k - s).toNat * C := by
  refine ⟨5 ^ (min f k + 40000).toNat * 2 ^ (min s k + 40000).toNat, Nat.mul_pos (Nat.pow_pos (by decide)) (Nat.two_pow_pos _), vx_part M s f k k (by omega) (by omega) (by omega) (by omega), ?_⟩
  unfold tenx
  rw [vx_part 1 k k s f (by omega) (by omega) (by omega) (by omega), Int.min_comm k f, Int.min_comm k s]
theorem restN_part (P Q C : Nat) (hC : 0 < C) : restN (P * C) (Q * C) = restN P Q ∧ P * C / (Q * C) = P / Q := by
  refine ⟨?_, Nat.mul_div_mul_right _ _ hC⟩
  unfold restN
  rw [Nat.mul_mod_mul_right, ← Nat.mul_assoc, cmpN_mul _ _ _ hC]
  have : P % Q * C = 0 ↔ P % Q = 0 := by
    constructor
    · intro h
      rcases Nat.mul_eq_zero.1 h with h | h
      · exact h
      · omega
    · intro h; rw [h, Nat.zero_mul]
  simp only [this]

/-! what has no twos and fives -/
structure Bare (M : Nat) (s f : Int) (N : Nat) (t g : Int) : Prop where
  two : N % 2 = 1
  five : N % 5 ≠ 0
  same : ∃ p q : Nat, M = N * 2 ^ p * 5 ^ q ∧ t = s + p ∧ g = f + q
end Go.Proofs.Yteiajccjlbghoaa

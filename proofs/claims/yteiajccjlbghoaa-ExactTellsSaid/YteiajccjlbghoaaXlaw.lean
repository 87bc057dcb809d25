/- Exact numbers, a natural one times powers of 2 and 5, compared: the plain law. No program stands here. Conditions: as each theorem names them. -/
import Derived.Test.YteiajccjlbghoaaScaled
set_option linter.unusedVariables false
namespace Go.Proofs.Yteiajccjlbghoaa

/-- a number, times a power of 10 that is the same for all -/
def vx (M : Nat) (s f : Int) : Nat := M * 5 ^ (f + 40000).toNat * 2 ^ (s + 40000).toNat
def xcmp (M : Nat) (s f : Int) (N : Nat) (t g : Int) : Int := cmpN (vx M s f) (vx N t g)

theorem cmpN_mul (a b C : Nat) (hC : 0 < C) : cmpN (a * C) (b * C) = cmpN a b := by
  have h1 : a * C < b * C ↔ a < b := Nat.mul_lt_mul_right hC
  have h2 : b * C < a * C ↔ b < a := Nat.mul_lt_mul_right hC
  unfold cmpN
  simp only [h1, h2]
theorem cmpN_neg (a b : Nat) : cmpN b a = -cmpN a b := by
  unfold cmpN
  by_cases h1 : a < b
  · rw [if_pos h1, if_neg (by omega), if_pos h1]; rfl
  · by_cases h2 : b < a
    · rw [if_pos h2, if_neg h1, if_pos h2]
    · rw [if_neg h2, if_neg h1, if_neg h1, if_neg h2]; rfl
theorem cmpN_cases (a b : Nat) : (cmpN a b = -1 ↔ a < b) ∧ (cmpN a b = 1 ↔ b < a) ∧ (cmpN a b = 0 ↔ a = b) := by
  unfold cmpN
  by_cases h1 : a < b
  · rw [if_pos h1]
    exact ⟨⟨fun _ => h1, fun _ => rfl⟩, ⟨fun h => absurd h (by decide), fun h => by omega⟩, ⟨fun h => absurd h (by decide), fun h => by omega⟩⟩
  · by_cases h2 : b < a
    · rw [if_neg h1, if_pos h2]
      exact ⟨⟨fun h => absurd h (by decide), fun h => by omega⟩, ⟨fun _ => h2, fun _ => rfl⟩, ⟨fun h => absurd h (by decide), fun h => by omega⟩⟩
    · rw [if_neg h1, if_neg h2]
      exact ⟨⟨fun h => absurd h (by decide), fun h => by omega⟩, ⟨fun h => absurd h (by decide), fun h => by omega⟩, ⟨fun _ => by omega, fun _ => rfl⟩⟩
theorem cmpN_range (a b : Nat) : -1 ≤ cmpN a b ∧ cmpN a b ≤ 1 := by
  unfold cmpN; split
  · exact ⟨by decide, by decide⟩
  · split <;> exact ⟨by decide, by decide⟩

/-- a power with its common part -/
theorem part_pow (x : Nat) (f g : Int) (hf : -40000 ≤ f) (hg : -40000 ≤ g) : x ^ (f + 40000).toNat = x ^ (f - g).toNat * x ^ (min f g + 40000).toNat := by
  rw [← Nat.pow_add]; congr 1; omega
theorem vx_part (M : Nat) (s f t g : Int) (hs : -40000 ≤ s) (hf : -40000 ≤ f) (ht : -40000 ≤ t) (hg : -40000 ≤ g) :
    vx M s f = M * 5 ^ (f - g).toNat * 2 ^ (s - t).toNat * (5 ^ (min f g + 40000).toNat * 2 ^ (min s t + 40000).toNat) := by
  unfold vx
  rw [part_pow 5 f g hf hg, part_pow 2 s t hs ht]
  simp only [Nat.mul_assoc, Nat.mul_left_comm, Nat.mul_comm]
theorem xcmp_cross (M N : Nat) (s f t g : Int) (hs : -40000 ≤ s) (hf : -40000 ≤ f) (ht : -40000 ≤ t) (hg : -40000 ≤ g) :
    xcmp M s f N t g = cmpN (M * 5 ^ (f - g).toNat * 2 ^ (s - t).toNat) (N * 5 ^ (g - f).toNat * 2 ^ (t - s).toNat) := by
  unfold xcmp
  rw [vx_part M s f t g hs hf ht hg, vx_part N t g s f ht hg hs hf, Int.min_comm g f, Int.min_comm t s]
  exact cmpN_mul _ _ _ (Nat.mul_pos (Nat.pow_pos (by decide)) (Nat.two_pow_pos _))
theorem vx_zero (s f : Int) : vx 0 s f = 0 := by unfold vx; simp
theorem vx_pos {M : Nat} (s f : Int) (h : 0 < M) : 0 < vx M s f := Nat.mul_pos (Nat.mul_pos h (Nat.pow_pos (by decide))) (Nat.two_pow_pos _)
theorem xcmp_none (M N : Nat) (s f t g : Int) (h : M = 0 ∨ N = 0) : xcmp M s f N t g = cmpN M N := by
  unfold xcmp
  rcases h with rfl | rfl
  · rw [vx_zero]
    rcases Nat.eq_zero_or_pos N with h0 | h0
    · subst h0; rw [vx_zero]
    · have := vx_pos t g h0
      unfold cmpN
      rw [if_pos this, if_pos h0]
  · rw [vx_zero]
    rcases Nat.eq_zero_or_pos M with h0 | h0
    · subst h0; rw [vx_zero]
    · have := vx_pos s f h0
      unfold cmpN
      rw [if_neg (by omega), if_pos this, if_neg (by omega), if_pos h0]
theorem xcmp_neg (M N : Nat) (s f t g : Int) : xcmp N t g M s f = -xcmp M s f N t g := cmpN_neg _ _

/-! powers of 5 between powers of 2 -/
theorem pow_low {a p q : Nat} (hq : 0 < q) (h : 2 ^ p ≤ a ^ q) (k : Nat) : 2 ^ (p * k / q) ≤ a ^ k := by
  rcases Nat.lt_or_ge (a ^ k) (2 ^ (p * k / q)) with h0 | h0
  · exfalso
    have h1 : (a ^ k) ^ q < (2 ^ (p * k / q)) ^ q := Nat.pow_lt_pow_left h0 (by omega)
    rw [← Nat.pow_mul, ← Nat.pow_mul, Nat.mul_comm k, Nat.pow_mul] at h1
    have h2 : 2 ^ (p * k / q * q) ≤ 2 ^ (p * k) := Nat.pow_le_pow_right (by decide) (Nat.div_mul_le_self _ _)
    have h3 : (2 ^ p) ^ k ≤ (a ^ q) ^ k := Nat.pow_le_pow_left h k
    rw [← Nat.pow_mul 2 p k] at h3
    omega
  · exact h0
theorem pow_high {a p q : Nat} (hq : 0 < q) (h : a ^ q ≤ 2 ^ p) (k : Nat) : a ^ k < 2 ^ (p * k / q + 1) := by
  rcases Nat.lt_or_ge (a ^ k) (2 ^ (p * k / q + 1)) with h0 | h0
  · exact h0
  · exfalso
    have h1 : (2 ^ (p * k / q + 1)) ^ q ≤ (a ^ k) ^ q := Nat.pow_le_pow_left h0 q
    rw [← Nat.pow_mul, ← Nat.pow_mul, Nat.mul_comm k, Nat.pow_mul a q k] at h1
    have h2 : 2 ^ (p * k) < 2 ^ ((p * k / q + 1) * q) := by
      apply Nat.pow_lt_pow_right (by decide)
      have := Nat.lt_div_mul_add (a := p * k) hq
      rw [Nat.add_mul, Nat.one_mul]
      exact this
    have h3 : (a ^ q) ^ k ≤ (2 ^ p) ^ k := Nat.pow_le_pow_left h k
    rw [← Nat.pow_mul 2 p k] at h3
    omega
theorem five_one : (2 : Nat) ^ 339 ≤ 5 ^ 146 := Nat.le_of_ble_eq_true (by kernel_rfl)
theorem five_two : (5 : Nat) ^ 643 ≤ 2 ^ 1493 := Nat.le_of_ble_eq_true (by kernel_rfl)
theorem five_low (k : Nat) : 2 ^ (339 * k / 146) ≤ 5 ^ k := pow_low (by decide) five_one k
theorem five_high (k : Nat) : 5 ^ k < 2 ^ (1493 * k / 643 + 1) := pow_high (by decide) five_two k
/-- how exact.size reckons a power of 5 -/
def d5 (f : Int) : Int := (f * 2321928095).tdiv 1000000000
theorem d5_nat (k : Nat) : d5 k = ((k * 2321928095 / 1000000000 : Nat) : Int) := by
  unfold d5
  rw [Int.tdiv_eq_ediv_of_nonneg (by omega)]
  omega
theorem d5_neg (f : Int) : d5 (-f) = -d5 f := by
  unfold d5
  rw [Int.neg_mul, Int.neg_tdiv]
theorem d5_low {k e : Nat} (hk : k ≤ 30000) (h : (e : Int) ≤ d5 k - 1) : 2 ^ e ≤ 5 ^ k := by
  rw [d5_nat] at h
  exact Nat.le_trans (Nat.pow_le_pow_right (by decide) (by omega)) (five_low k)
theorem d5_high {k e : Nat} (hk : k ≤ 30000) (h : d5 k + 2 ≤ (e : Int)) : 5 ^ k < 2 ^ e := by
  rw [d5_nat] at h
  exact Nat.lt_of_lt_of_le (five_high k) (Nat.pow_le_pow_right (by decide) (by omega))
theorem d5_add {f g : Int} (hf : -30000 ≤ f ∧ f ≤ 30000) (hg : -30000 ≤ g ∧ g ≤ 30000) : d5 (f - g) - (d5 f - d5 g) ≤ 1 ∧ -1 ≤ d5 (f - g) - (d5 f - d5 g) := by
  have key : ∀ h : Int, -60000 ≤ h → h ≤ 60000 → (0 ≤ h ∧ d5 h = h * 2321928095 / 1000000000) ∨ (h < 0 ∧ d5 h = -(-h * 2321928095 / 1000000000)) := by
    intro h _ _
    unfold d5
    rcases Int.lt_or_le h 0 with h0 | h0
    · right
      refine ⟨h0, ?_⟩
      have e : h * 2321928095 = -(-h * 2321928095) := by omega
      rw [e, Int.neg_tdiv, Int.tdiv_eq_ediv_of_nonneg (by omega)]
    · left
      exact ⟨h0, by rw [Int.tdiv_eq_ediv_of_nonneg (by omega)]⟩
  rcases key f (by omega) (by omega) with ⟨a1, a2⟩ | ⟨a1, a2⟩ <;> rcases key g (by omega) (by omega) with ⟨b1, b2⟩ | ⟨b1, b2⟩ <;> rcases key (f - g) (by omega) (by omega) with ⟨c1, c2⟩ | ⟨c1, c2⟩ <;> rw [a2, b2, c2] <;> omega

theorem bitsN_low {M : Nat} (h : 0 < M) : 2 ^ (bitsN M - 1) ≤ M ∧ M < 2 ^ bitsN M ∧ 1 ≤ bitsN M := by
  unfold bitsN
  rw [if_neg (by omega), Nat.add_sub_cancel]
  exact ⟨Nat.log2_self_le (by omega), Nat.lt_log2_self, by omega⟩
theorem far_up {M N x A b c d e : Nat} (h1 : 2 ^ A ≤ M) (h2 : N < 2 ^ b) (hx : 2 ^ e ≤ x) (h : b + d ≤ A + e + c) : N * 2 ^ d < M * x * 2 ^ c := by
  have a1 : N * 2 ^ d < 2 ^ (b + d) := by
    rw [Nat.pow_add]; exact Nat.mul_lt_mul_of_pos_right h2 (Nat.two_pow_pos _)
  have a2 : 2 ^ (b + d) ≤ 2 ^ (A + e + c) := Nat.pow_le_pow_right (by decide) h
  have a3 : 2 ^ (A + e + c) ≤ M * x * 2 ^ c := by
    rw [Nat.pow_add, Nat.pow_add]; exact Nat.mul_le_mul_right _ (Nat.mul_le_mul h1 hx)
  exact Nat.lt_of_lt_of_le a1 (Nat.le_trans a2 a3)
theorem far_dn {M N x A b c d e : Nat} (h1 : 2 ^ A ≤ M) (h2 : N < 2 ^ b) (hx : x < 2 ^ e) (h : b + e + d ≤ A + c) : N * x * 2 ^ d < M * 2 ^ c := by
  have a1 : N * x * 2 ^ d < 2 ^ (b + e + d) := by
    rw [Nat.pow_add, Nat.pow_add]; exact Nat.mul_lt_mul_of_pos_right (Nat.mul_lt_mul'' h2 hx) (Nat.two_pow_pos _)
  have a2 : 2 ^ (b + e + d) ≤ 2 ^ (A + c) := Nat.pow_le_pow_right (by decide) h
  have a3 : 2 ^ (A + c) ≤ M * 2 ^ c := by
    rw [Nat.pow_add]; exact Nat.mul_le_mul_right _ h1
  exact Nat.lt_of_lt_of_le a1 (Nat.le_trans a2 a3)
theorem five_floor {k : Nat} (hk : k ≤ 30000) : ∃ e : Nat, 2 ^ e ≤ 5 ^ k ∧ d5 k - 1 ≤ (e : Int) := by
  rcases Int.le_total 0 (d5 k - 1) with h0 | h0
  · obtain ⟨e, he⟩ : ∃ e : Nat, d5 k - 1 = (e : Int) := ⟨(d5 k - 1).toNat, (Int.toNat_of_nonneg h0).symm⟩
    exact ⟨e, d5_low hk (Int.le_of_eq he.symm), Int.le_of_eq he⟩
  · exact ⟨0, Nat.pow_pos (by decide), h0⟩
theorem five_roof {k : Nat} (hk : k ≤ 30000) : ∃ e : Nat, 5 ^ k < 2 ^ e ∧ (e : Int) = d5 k + 2 := by
  have h0 : 0 ≤ d5 k + 2 := by rw [d5_nat]; omega
  obtain ⟨e, he⟩ : ∃ e : Nat, d5 k + 2 = (e : Int) := ⟨(d5 k + 2).toNat, (Int.toNat_of_nonneg h0).symm⟩
  exact ⟨e, d5_high hk (Int.le_of_eq he), he.symm⟩
theorem far_exp1 {a b p q m n e : Nat} {s t x y z : Int} (hp : p = (s - t).toNat) (hq : q = (t - s).toNat) (hm : 1 ≤ m) (h : 6 < ((m : Int) + s + x) - ((n : Int) + t + y)) (h1 : z - (x - y) ≤ 1) (h2 : -1 ≤ z - (x - y)) (he : z - 1 ≤ (e : Int)) : n + q ≤ m - 1 + e + p := by omega
theorem far_exp2 {a b p q m n e : Nat} {s t x y z : Int} (hp : p = (s - t).toNat) (hq : q = (t - s).toNat) (hm : 1 ≤ m) (h : 6 < ((m : Int) + s + x) - ((n : Int) + t + y)) (h1 : -z - (x - y) ≤ 1) (h2 : -1 ≤ -z - (x - y)) (he : (e : Int) = z + 2) : n + e + q ≤ m - 1 + p := by omega
/-- far apart: the greater size has the greater number -/
theorem far_more {M N : Nat} {s f t g : Int} (hM : 0 < M) (hN : 0 < N) (hs : -10000 ≤ s ∧ s ≤ 10000) (hf : -10000 ≤ f ∧ f ≤ 10000) (ht : -10000 ≤ t ∧ t ≤ 10000) (hg : -10000 ≤ g ∧ g ≤ 10000)
    (h : 6 < ((bitsN M : Int) + s + d5 f) - ((bitsN N : Int) + t + d5 g)) : xcmp M s f N t g = 1 := by
  rw [xcmp_cross M N s f t g (by omega) (by omega) (by omega) (by omega)]
  apply (cmpN_cases _ _).2.1.2
  obtain ⟨x1, x2⟩ := d5_add (f := f) (g := g) (by omega) (by omega)
  obtain ⟨m1, m2, m3⟩ := bitsN_low hM
  obtain ⟨n1, n2, n3⟩ := bitsN_low hN
  rcases Int.le_total 0 (f - g) with hh | hh
  · obtain ⟨k, hk⟩ : ∃ k : Nat, f - g = (k : Int) := ⟨(f - g).toNat, (Int.toNat_of_nonneg hh).symm⟩
    have hk1 : k ≤ 30000 := by clear m1 m2 n1 n2; omega
    have hk0 : (g - f).toNat = 0 := by clear m1 m2 n1 n2; omega
    rw [hk, hk0, Int.toNat_natCast, Nat.pow_zero, Nat.mul_one]
    rw [hk] at x1 x2
    obtain ⟨e, he, hle⟩ := five_floor hk1
    exact far_up m1 n2 he (far_exp1 (a := 0) (b := 0) rfl rfl m3 h x1 x2 hle)
  · obtain ⟨k, hk⟩ : ∃ k : Nat, g - f = (k : Int) := ⟨(g - f).toNat, (Int.toNat_of_nonneg (by omega)).symm⟩
    have hk1 : k ≤ 30000 := by clear m1 m2 n1 n2; omega
    have hk0 : (f - g).toNat = 0 := by clear m1 m2 n1 n2; omega
    have hfg : f - g = -(k : Int) := by clear m1 m2 n1 n2; omega
    rw [hk, hk0, Int.toNat_natCast, Nat.pow_zero, Nat.mul_one]
    rw [hfg, d5_neg] at x1 x2
    obtain ⟨e, he, hle⟩ := five_roof hk1
    exact far_dn m1 n2 he (far_exp2 (a := 0) (b := 0) rfl rfl m3 h x1 x2 hle)
theorem far_less {M N : Nat} {s f t g : Int} (hM : 0 < M) (hN : 0 < N) (hs : -10000 ≤ s ∧ s ≤ 10000) (hf : -10000 ≤ f ∧ f ≤ 10000) (ht : -10000 ≤ t ∧ t ≤ 10000) (hg : -10000 ≤ g ∧ g ≤ 10000)
    (h : ((bitsN M : Int) + s + d5 f) - ((bitsN N : Int) + t + d5 g) < -6) : xcmp M s f N t g = -1 := by
  have := far_more hN hM ht hg hs hf (by omega)
  rw [xcmp_neg] at this
  exact Int.neg_inj.1 this
end Go.Proofs.Yteiajccjlbghoaa

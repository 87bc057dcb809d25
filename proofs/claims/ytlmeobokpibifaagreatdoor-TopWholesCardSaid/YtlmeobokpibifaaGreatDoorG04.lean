/- Magnitudes of a form with a field and a mantissa, as numbers, and the boundaries behind them: the plain law. No program stands here. Conditions: as each theorem names them. The nearest number of a binary format to a whole number, as a magnitude: the plain law. No program stands here. Conditions: as each theorem names them. A two-word number by a word, half word by half word: the plain law. No program stands here. Conditions: as each theorem names them. -/
import Derived.Test.YtlmeobokpibifaaGreatDoorG03
import GoSem.Core.Float
import Derived.Test.YtlmeobokpibifaaGreatDoorG01
section
set_option linter.unusedSimpArgs false
set_option linter.unusedVariables false
set_option linter.unusedVariables false
namespace Go.Proofs.YtlmeobokpibifaaGreatDoor

/-- the significand of a magnitude, how far it is shifted, its number, and the boundary behind it, in halves -/
def sg (man key : Nat) : Nat := if key / 2 ^ man = 0 then key else 2 ^ man + key % 2 ^ man
def ex1 (man key : Nat) : Nat := max (key / 2 ^ man) 1 - 1
def rv (man key : Nat) : Nat := sg man key * 2 ^ ex1 man key
def md (man key : Nat) : Nat := (2 * sg man key + 1) * 2 ^ ex1 man key
theorem sg_low {man key : Nat} (h : key < 2 ^ man) : sg man key = key ∧ ex1 man key = 0 := by
  unfold sg ex1
  rw [Nat.div_eq_of_lt h]
  exact ⟨if_pos rfl, rfl⟩
theorem sg_form {man q r : Nat} (hr : r < 2 ^ man) (hq : 0 < q) : sg man (q * 2 ^ man + r) = 2 ^ man + r ∧ ex1 man (q * 2 ^ man + r) = q - 1 := by
  have h0 := Nat.two_pow_pos man
  have e1 : (q * 2 ^ man + r) / 2 ^ man = q := by
    rw [Nat.mul_comm, Nat.mul_add_div h0, Nat.div_eq_of_lt hr, Nat.add_zero]
  have e2 : (q * 2 ^ man + r) % 2 ^ man = r := by
    rw [Nat.mul_comm, Nat.mul_add_mod, Nat.mod_eq_of_lt hr]
  unfold sg ex1
  rw [e1, e2, if_neg (by omega)]
  exact ⟨rfl, by omega⟩
theorem key_form (man key : Nat) : key < 2 ^ man ∨ ∃ q r, key = q * 2 ^ man + r ∧ r < 2 ^ man ∧ 0 < q := by
  rcases Nat.lt_or_ge key (2 ^ man) with h | h
  · exact Or.inl h
  · refine Or.inr ⟨key / 2 ^ man, key % 2 ^ man, ?_, Nat.mod_lt _ (Nat.two_pow_pos _), Nat.div_pos h (Nat.two_pow_pos _)⟩
    rw [Nat.mul_comm]; exact (Nat.div_add_mod _ _).symm
/-- the next magnitude is greater by one of the last place -/
theorem rv_next (man key : Nat) : rv man (key + 1) = (sg man key + 1) * 2 ^ ex1 man key := by
  rcases key_form man key with h | ⟨q, r, rfl, hr, hq⟩
  · obtain ⟨e1, e2⟩ := sg_low h
    rw [e1, e2]
    rcases Nat.lt_or_ge (key + 1) (2 ^ man) with h2 | h2
    · obtain ⟨e3, e4⟩ := sg_low h2
      unfold rv; rw [e3, e4]
    · obtain ⟨e3, e4⟩ := sg_form (man := man) (q := 1) (r := 0) (Nat.two_pow_pos _) (by decide)
      have h2' : key + 1 = 2 ^ man := by omega
      have e5 : key + 1 = 1 * 2 ^ man + 0 := by omega
      unfold rv; rw [h2'] ; rw [show (2 : Nat) ^ man = 1 * 2 ^ man + 0 by omega, e3, e4]; simp
  · obtain ⟨e1, e2⟩ := sg_form (man := man) hr hq
    rw [e1, e2]
    rcases Nat.lt_or_ge (r + 1) (2 ^ man) with h2 | h2
    · obtain ⟨e3, e4⟩ := sg_form (man := man) h2 hq
      unfold rv; rw [Nat.add_assoc, e3, e4, Nat.add_assoc]
    · obtain ⟨e3, e4⟩ := sg_form (man := man) (q := q + 1) (r := 0) (Nat.two_pow_pos _) (by omega)
      have e5 : q * 2 ^ man + r + 1 = (q + 1) * 2 ^ man + 0 := by rw [Nat.add_mul]; omega
      unfold rv; rw [e5, e3, e4]
      obtain ⟨p, rfl⟩ : ∃ p, q = p + 1 := ⟨q - 1, by omega⟩
      rw [Nat.add_zero, Nat.add_sub_cancel, Nat.add_sub_cancel, show 2 ^ man + r + 1 = 2 * 2 ^ man by omega, Nat.pow_succ', Nat.mul_left_comm, Nat.mul_assoc]
theorem rv_lt (man key : Nat) : rv man key < rv man (key + 1) := by
  rw [rv_next]
  unfold rv
  exact Nat.mul_lt_mul_of_pos_right (Nat.lt_succ_self _) (Nat.two_pow_pos _)
theorem md_mid (man key : Nat) : md man key = rv man key + rv man (key + 1) := by
  rw [rv_next]
  unfold md rv
  rw [← Nat.add_mul]
  congr 1
  omega
theorem rv_le {man j k : Nat} (h : j ≤ k) : rv man j ≤ rv man k := by
  induction h with
  | refl => exact Nat.le_refl _
  | step _ ih => exact Nat.le_trans ih (Nat.le_of_lt (rv_lt _ _))
theorem rv_lt' {man j k : Nat} (h : j < k) : rv man j < rv man k := Nat.lt_of_lt_of_le (rv_lt man j) (rv_le h)
theorem md_lt {man j k : Nat} (h : j < k) : md man j < md man k := by
  rw [md_mid, md_mid]
  have a := rv_lt' (man := man) h
  have b := rv_lt' (man := man) (show j + 1 < k + 1 by omega)
  omega
/-- is a size, in halves of the last place of the least, to be rounded to a magnitude or a lesser one? -/
def wi (man X U key : Nat) : Bool := decide (X < md man key * U ∨ (X = md man key * U ∧ key % 2 = 0))
/-- a magnitude that a size is rounded to, and to none below it -/
theorem wi_mono {man X U K : Nat} (hU : 0 < U) (h1 : wi man X U K = true) (h2 : K = 0 ∨ wi man X U (K - 1) = false) : ∀ k, wi man X U k = decide (K ≤ k) := by
  intro k
  have up : ∀ j, K ≤ j → wi man X U j = true := by
    intro j hj
    rcases Nat.eq_or_lt_of_le hj with e | e
    · rw [← e]; exact h1
    · unfold wi at h1 ⊢
      apply decide_eq_true
      have h3 := of_decide_eq_true h1
      have h4 : md man K * U < md man j * U := Nat.mul_lt_mul_of_pos_right (md_lt e) hU
      left
      rcases h3 with h3 | ⟨h3, _⟩ <;> omega
  have dn : ∀ j, j < K → wi man X U j = false := by
    intro j hj
    rcases h2 with h2 | h2
    · omega
    · rcases Nat.eq_or_lt_of_le (show j ≤ K - 1 by omega) with e | e
      · rw [e]; exact h2
      · unfold wi at h2 ⊢
        apply decide_eq_false
        have h3 := of_decide_eq_false h2
        have h4 : md man j * U < md man (K - 1) * U := Nat.mul_lt_mul_of_pos_right (md_lt e) hU
        rintro (h5 | ⟨h5, _⟩)
        · exact h3 (Or.inl (by omega))
        · exact h3 (Or.inl (by omega))
  rcases Nat.lt_or_ge k K with h | h
  · rw [dn k h, decide_eq_false (by omega)]
  · rw [up k h, decide_eq_true h]
end Go.Proofs.YtlmeobokpibifaaGreatDoor
end

section
set_option linter.unusedSimpArgs false
set_option linter.unusedVariables false
set_option linter.unusedVariables false
namespace Go.Proofs.YtlmeobokpibifaaGreatDoor

theorem wi_scale {man X U key : Nat} (hU : 0 < U) : wi man (X * U) U key = wi man X 1 key := by
  unfold wi
  rw [Nat.mul_one]
  have a : X * U < md man key * U ↔ X < md man key := Nat.mul_lt_mul_right hU
  have b : X * U = md man key * U ↔ X = md man key := ⟨fun h => Nat.eq_of_mul_eq_mul_right hU h, fun h => by rw [h]⟩
  simp only [a, b]
/-- a magnitude by its field and its significand, that may be the next field's least -/
theorem rv_kept {man E kept : Nat} (h1 : 2 ^ man ≤ kept) (h2 : kept ≤ 2 ^ (man + 1)) : rv man (E * 2 ^ man + kept) = kept * 2 ^ E := by
  rcases Nat.eq_or_lt_of_le h2 with e | e
  · obtain ⟨e3, e4⟩ := sg_form (man := man) (q := E + 2) (r := 0) (Nat.two_pow_pos _) (by omega)
    have e5 : E * 2 ^ man + kept = (E + 2) * 2 ^ man + 0 := by rw [e, Nat.pow_succ, Nat.add_mul]; omega
    unfold rv
    rw [e5, e3, e4, e, Nat.add_zero, show E + 2 - 1 = E + 1 by omega, Nat.pow_succ, Nat.pow_succ, Nat.mul_assoc]
    congr 1
    exact Nat.mul_comm _ _
  · rw [Nat.pow_succ] at e
    obtain ⟨e3, e4⟩ := sg_form (man := man) (q := E + 1) (r := kept - 2 ^ man) (by omega) (by omega)
    have e5 : E * 2 ^ man + kept = (E + 1) * 2 ^ man + (kept - 2 ^ man) := by rw [Nat.add_mul]; omega
    unfold rv
    rw [e5, e3, e4, Nat.add_sub_cancel, show 2 ^ man + (kept - 2 ^ man) = kept by omega]
theorem md_kept {man E kept : Nat} (h1 : 2 ^ man ≤ kept) (h2 : kept < 2 ^ (man + 1)) : md man (E * 2 ^ man + kept) = kept * 2 ^ (E + 1) + 2 ^ E := by
  rw [md_mid, show E * 2 ^ man + kept + 1 = E * 2 ^ man + (kept + 1) by omega, rv_kept h1 (Nat.le_of_lt h2), rv_kept (kept := kept + 1) (by omega) h2, Nat.add_mul, Nat.one_mul, Nat.pow_succ, ← Nat.mul_assoc]
  omega
/-- rounding by what is left -/
theorem near_kept {man E low more X p : Nat} (hm : 0 < man) (h1 : 2 ^ man ≤ low) (h2 : low < 2 ^ (man + 1)) (hX : X = low * 2 ^ (E + 1) + p) (hp : p < 2 ^ (E + 1))
    (h0 : more = 0 ∧ (p < 2 ^ E ∨ p = 2 ^ E ∧ low % 2 = 0) ∨ more = 1 ∧ (2 ^ E < p ∨ p = 2 ^ E ∧ low % 2 = 1)) :
    wi man X 1 (E * 2 ^ man + (low + more)) = true ∧ (E * 2 ^ man + (low + more) = 0 ∨ wi man X 1 (E * 2 ^ man + (low + more) - 1) = false) := by
  have hpow : 2 ^ (E + 1) = 2 * 2 ^ E := by rw [Nat.pow_succ, Nat.mul_comm]
  have hpar : (E * 2 ^ man + low) % 2 = low % 2 := by
    obtain ⟨j, rfl⟩ : ∃ j, man = j + 1 := ⟨man - 1, by omega⟩
    rw [Nat.pow_succ, ← Nat.mul_assoc]; omega
  have hpos := Nat.two_pow_pos man
  have hmd := md_kept (E := E) h1 h2
  rcases h0 with ⟨rfl, h0⟩ | ⟨rfl, h0⟩
  · rw [Nat.add_zero]
    constructor
    · unfold wi
      apply decide_eq_true
      rw [hmd, Nat.mul_one, hX, hpar]
      omega
    · right
      unfold wi
      apply decide_eq_false
      obtain ⟨k, hk⟩ : ∃ k, E * 2 ^ man + low = k + 1 := ⟨E * 2 ^ man + low - 1, by omega⟩
      have hr := rv_kept (E := E) h1 (Nat.le_of_lt h2)
      rw [hk] at hr ⊢
      rw [Nat.add_sub_cancel, md_mid, Nat.mul_one, hr]
      have hl := rv_lt man k
      rw [hr] at hl
      rw [hX, hpow]
      have e : low * (2 * 2 ^ E) = 2 * (low * 2 ^ E) := by rw [Nat.mul_left_comm]
      rw [e]
      omega
  · constructor
    · unfold wi
      apply decide_eq_true
      left
      have hr := rv_kept (E := E) (kept := low + 1) (by omega) h2
      have hl := rv_lt man (E * 2 ^ man + (low + 1))
      rw [md_mid, Nat.mul_one, hX]
      rw [hr] at hl ⊢
      have e : (low + 1) * 2 ^ E = low * 2 ^ E + 2 ^ E := by rw [Nat.add_mul, Nat.one_mul]
      have e2 : low * 2 ^ (E + 1) = 2 * (low * 2 ^ E) := by rw [hpow, Nat.mul_left_comm]
      omega
    · right
      unfold wi
      apply decide_eq_false
      rw [← Nat.add_assoc, Nat.add_sub_cancel, hmd, Nat.mul_one, hX, hpar]
      omega

/-- of a format: how many bits behind the point, and how far half of the least lies below 1 -/
structure Bin (f : Ieee.Format) (man h : Nat) : Prop where
  frac : f.fractionBits = man
  least : f.leastPlace = 1 - (h : Int)
  mpos : 0 < man
  far : man + 1 ≤ h
theorem bin_double : Bin Ieee.double 52 1075 := ⟨rfl, by decide, by decide, by decide⟩
theorem bin_single : Bin Ieee.single 23 150 := ⟨rfl, by decide, by decide, by decide⟩

/-- the magnitude of the nearest number to a whole number -/
theorem nearest_key {f : Ieee.Format} {man h : Nat} (b : Bin f man h) (neg : Bool) (n : Nat) : ∃ K, f.nearest neg n 0 = f.word neg (min K f.infRung) ∧ wi man (n * 2 ^ h) 1 K = true ∧ (K = 0 ∨ wi man (n * 2 ^ h) 1 (K - 1) = false) ∧ (n = 0 → K = 0) ∧ (0 < n → K ≤ (Nat.log2 n + h + 2) * 2 ^ man) := by
  rcases Nat.eq_zero_or_pos n with h0 | h0
  · subst h0
    refine ⟨0, ?_, ?_, Or.inl rfl, fun _ => rfl, fun h => absurd h (Nat.lt_irrefl _)⟩
    · unfold Ieee.Format.nearest
      rw [if_pos rfl, Nat.zero_min]
    · unfold wi
      apply decide_eq_true
      left
      rw [Nat.zero_mul, Nat.mul_one]
      unfold md
      exact Nat.mul_pos (by omega) (Nat.two_pow_pos _)
  · have hn0 : n ≠ 0 := by omega
    have hl1 := Nat.log2_self_le hn0
    have hl2 := Nat.lt_log2_self (n := n)
    obtain ⟨L, hL⟩ : ∃ L, n.log2 = L := ⟨_, rfl⟩
    rw [hL] at hl1 hl2
    have hfar := b.far
    obtain ⟨E, hE⟩ : ∃ E, L + h = man + 1 + E := ⟨L + h - (man + 1), by omega⟩
    have hlast : max ((0 : Int) + (L : Int) - (man : Int)) (1 - (h : Int)) = (L : Int) - (man : Int) := by omega
    have hmin : ((L : Int) - (man : Int) - (1 - (h : Int))).toNat = E := by omega
    have hbm : f.binade = 2 ^ man := by unfold Ieee.Format.binade; rw [b.frac]
    rcases Nat.lt_or_ge man L with hd | hd
    · -- digits are dropped
      obtain ⟨d, rfl⟩ : ∃ d, L = man + d := ⟨L - man, by omega⟩
      have hgap : 0 < 2 ^ d := Nat.two_pow_pos d
      obtain ⟨low, hlow⟩ : ∃ low, n / 2 ^ d = low := ⟨_, rfl⟩
      obtain ⟨rest, hrest⟩ : ∃ rest, n % 2 ^ d = rest := ⟨_, rfl⟩
      have hdm : 2 ^ d * low + rest = n := by rw [← hlow, ← hrest]; exact Nat.div_add_mod _ _
      have hrl : rest < 2 ^ d := by rw [← hrest]; exact Nat.mod_lt _ hgap
      have k1 : 2 ^ man ≤ low := by
        rw [← hlow]
        apply (Nat.le_div_iff_mul_le hgap).2
        rw [← Nat.pow_add]; exact hl1
      have k2 : low < 2 ^ (man + 1) := by
        rw [← hlow]
        apply (Nat.div_lt_iff_lt_mul hgap).2
        rw [← Nat.pow_add]
        have : man + 1 + d = man + d + 1 := by omega
        rw [this]; exact hl2
      have hhd : d + h = E + 1 := by omega
      have hX : n * 2 ^ h = low * 2 ^ (E + 1) + rest * 2 ^ h := by
        rw [← hdm, Nat.add_mul, ← hhd, Nat.pow_add, Nat.mul_comm (2 ^ d), Nat.mul_assoc]
      have hp : rest * 2 ^ h < 2 ^ (E + 1) := by
        rw [← hhd, Nat.pow_add]
        exact Nat.mul_lt_mul_of_pos_right hrl (Nat.two_pow_pos h)
      have hh : 2 ^ (E + 1) = 2 * 2 ^ E := by rw [Nat.pow_succ, Nat.mul_comm]
      have hg2 : 2 ^ d * 2 ^ h = 2 * 2 ^ E := by rw [← Nat.pow_add, hhd, hh]
      have hpos := Nat.two_pow_pos h
      obtain ⟨more, hmore, hmm⟩ : ∃ more : Nat, ((decide (2 ^ d < 2 * rest) || (2 ^ d == 2 * rest && low % 2 == 1)).toNat = more) ∧ (more = 0 ∧ (rest * 2 ^ h < 2 ^ E ∨ rest * 2 ^ h = 2 ^ E ∧ low % 2 = 0) ∨ more = 1 ∧ (2 ^ E < rest * 2 ^ h ∨ rest * 2 ^ h = 2 ^ E ∧ low % 2 = 1)) := by
        rcases Nat.lt_trichotomy (2 ^ d) (2 * rest) with c | c | c
        · refine ⟨1, by rw [decide_eq_true c]; rfl, Or.inr ⟨rfl, Or.inl ?_⟩⟩
          have := Nat.mul_lt_mul_of_pos_right c hpos
          rw [hg2, Nat.mul_assoc] at this
          omega
        · have e : rest * 2 ^ h = 2 ^ E := by
            have this : 2 ^ d * 2 ^ h = 2 * rest * 2 ^ h := by rw [c]
            rw [hg2, Nat.mul_assoc] at this
            omega
          rcases (show low % 2 = 0 ∨ low % 2 = 1 from by omega) with l0 | l1
          · refine ⟨0, ?_, Or.inl ⟨rfl, Or.inr ⟨e, l0⟩⟩⟩
            rw [← c, l0]; simp
          · refine ⟨1, ?_, Or.inr ⟨rfl, Or.inr ⟨e, l1⟩⟩⟩
            rw [← c, l1]; simp
        · refine ⟨0, ?_, Or.inl ⟨rfl, Or.inl ?_⟩⟩
          · rw [decide_eq_false (by omega)]
            have : (2 ^ d == 2 * rest) = false := by simp; omega
            rw [this]; rfl
          · have := Nat.mul_lt_mul_of_pos_right c hpos
            rw [hg2, Nat.mul_assoc] at this
            omega
      obtain ⟨w1, w2⟩ := near_kept b.mpos k1 k2 hX hp hmm
      refine ⟨E * 2 ^ man + (low + more), ?_, w1, w2, fun h => absurd h hn0, fun _ => ?_⟩
      · unfold Ieee.Format.nearest
        rw [if_neg hn0]
        simp only [hL, b.frac, b.least, hlast, hmin, hbm]
        have z1 : ((0 : Int) - (((man + d : Nat) : Int) - (man : Int))).toNat = 0 := by omega
        have z2 : ((((man + d : Nat) : Int) - (man : Int)) - 0).toNat = d := by omega
        rw [z1, z2, Nat.shiftLeft_zero]
        unfold Ieee.Toward.cut
        have z3 : min d (n.log2 + 2) = d := by rw [hL]; omega
        simp only [z3, Nat.one_shiftLeft, hlow, hrest, hmore]
      · have hmo : more ≤ 1 := by rcases hmm with ⟨h, _⟩ | ⟨h, _⟩ <;> omega
        have e1 : low + more ≤ 2 * 2 ^ man := by rw [Nat.pow_succ] at k2; omega
        have e2 : (man + d + h + 2) * 2 ^ man = (E + 1 + man) * 2 ^ man + 2 * 2 ^ man := by rw [← Nat.add_mul]; congr 1; omega
        rw [hL, e2]
        have e3 : E * 2 ^ man ≤ (E + 1 + man) * 2 ^ man := Nat.mul_le_mul_right _ (by omega)
        omega
    · -- all digits are kept
      obtain ⟨d, rfl⟩ : ∃ d, man = L + d := ⟨man - L, by omega⟩
      have hkept1 : 2 ^ (L + d) ≤ n * 2 ^ d := by rw [Nat.pow_add]; exact Nat.mul_le_mul_right _ hl1
      have hkept2 : n * 2 ^ d < 2 ^ (L + d + 1) := by
        rw [show L + d + 1 = L + 1 + d by omega, Nat.pow_add]
        exact Nat.mul_lt_mul_of_pos_right hl2 (Nat.two_pow_pos d)
      have hX : n * 2 ^ h = n * 2 ^ d * 2 ^ (E + 1) + 0 := by
        rw [Nat.add_zero, Nat.mul_assoc, ← Nat.pow_add]; congr 2; omega
      obtain ⟨w1, w2⟩ := near_kept (more := 0) b.mpos hkept1 hkept2 hX (Nat.two_pow_pos _) (Or.inl ⟨rfl, Or.inl (Nat.two_pow_pos _)⟩)
      refine ⟨E * 2 ^ (L + d) + (n * 2 ^ d + 0), ?_, w1, w2, fun h => absurd h hn0, fun _ => ?_⟩
      · unfold Ieee.Format.nearest
        rw [if_neg hn0]
        simp only [hL, b.frac, b.least, hlast, hmin, hbm]
        have z1 : ((0 : Int) - ((L : Int) - ((L + d : Nat) : Int))).toNat = d := by omega
        have z2 : (((L : Int) - ((L + d : Nat) : Int)) - 0).toNat = 0 := by omega
        rw [z1, z2, Nat.shiftLeft_eq]
        unfold Ieee.Toward.cut
        have z3 : ∀ k, min 0 k = 0 := fun k => Nat.zero_min k
        simp only [z3, Nat.shiftLeft_zero, Nat.div_one, Nat.mod_one]
        simp
      · rw [hL]
        have e2 : (L + h + 2) * 2 ^ (L + d) = (E + 1 + (L + d)) * 2 ^ (L + d) + 2 * 2 ^ (L + d) := by rw [← Nat.add_mul]; congr 1; omega
        rw [e2]
        rw [Nat.pow_succ] at hkept2
        have e3 : E * 2 ^ (L + d) ≤ (E + 1 + (L + d)) * 2 ^ (L + d) := Nat.mul_le_mul_right _ (by omega)
        omega
end Go.Proofs.YtlmeobokpibifaaGreatDoor
end

section
set_option linter.unusedSimpArgs false
set_option linter.unusedVariables false
set_option linter.unusedVariables false
namespace Go.Proofs.YtlmeobokpibifaaGreatDoor

/-- what holds of a guess of a half word: u, a half word d, by y = a * 2^32 + b -/
structure Guess (u d a b q p r : Nat) : Prop where
  sum : p * a + r = u
  low : q ≤ p
  top : p ≤ 4294967297
  rest : r < 4294967296
/-- what a half step divides -/
structure Half (u d a b q : Nat) : Prop where
  a1 : 2147483648 ≤ a
  a2 : a < 4294967296
  b2 : b < 4294967296
  d2 : d < 4294967296
  u2 : u < a * 4294967296 + b
  quo : (u * 4294967296 + d) / (a * 4294967296 + b) = q

theorem Half.q_lt {u d a b q : Nat} (h : Half u d a b q) : q < 4294967296 := by
  have h1 := h.a1; have h3 := h.u2; have h4 := h.d2
  rw [← h.quo, Nat.div_lt_iff_lt_mul (by omega)]
  have : (u + 1) * 4294967296 ≤ (a * 4294967296 + b) * 4294967296 := Nat.mul_le_mul_right _ h3
  omega
theorem Half.le {u d a b q : Nat} (h : Half u d a b q) (p : Nat) : p ≤ q ↔ p * (a * 4294967296 + b) ≤ u * 4294967296 + d := by
  have h1 := h.a1
  rw [← h.quo, Nat.le_div_iff_mul_le (by omega)]
theorem Half.start {u d a b q : Nat} (h : Half u d a b q) : Guess u d a b q (u / a) (u % a) := by
  obtain ⟨h1, h2, h3, h4, h5, h6⟩ := h
  have hd := Nat.div_add_mod u a
  have hm := Nat.mod_lt u (show 0 < a by omega)
  refine ⟨by rw [Nat.mul_comm]; exact hd, ?_, ?_, by omega⟩
  · rw [← h6]
    apply Nat.le_of_lt_succ
    rw [Nat.div_lt_iff_lt_mul (by omega)]
    have e : (u / a + 1) * a = a * (u / a) + a := by rw [Nat.add_mul, Nat.one_mul, Nat.mul_comm]
    have e2 : (u + 1) ≤ (u / a + 1) * a := by omega
    have e3 : (u + 1) * 4294967296 ≤ (u / a + 1) * a * 4294967296 := Nat.mul_le_mul_right _ e2
    have e4 : (u / a).succ * (a * 4294967296 + b) = (u / a + 1) * a * 4294967296 + (u / a + 1) * b := by
      rw [Nat.mul_add, Nat.mul_assoc]
    omega
  · apply Nat.le_of_lt_succ
    rw [Nat.div_lt_iff_lt_mul (by omega)]
    omega
/-- the guess in the loop's test -/
theorem Guess.test {u d a b q p r : Nat} (g : Guess u d a b q p r) (h : Half u d a b q) : p ≤ q ↔ p * b ≤ 4294967296 * r + d := by
  rw [h.le]
  have := g.sum
  have e : p * (a * 4294967296 + b) = p * a * 4294967296 + p * b := by rw [Nat.mul_add, Nat.mul_assoc]
  rw [e, ← this, Nat.add_mul]
  omega
theorem Guess.stop {u d a b q p r : Nat} (g : Guess u d a b q p r) (h : Half u d a b q) (h1 : p < 4294967296) (h2 : p * b ≤ 4294967296 * r + d) : p = q := by
  have := (g.test h).2 h2
  have := g.low
  omega
theorem Guess.more {u d a b q p r : Nat} (g : Guess u d a b q p r) (h : Half u d a b q) (h1 : 4294967296 ≤ p ∨ 4294967296 * r + d < p * b) : q < p := by
  have := h.q_lt
  rcases h1 with h1 | h1
  · omega
  · rcases Nat.lt_or_ge q p with h2 | h2
    · exact h2
    · have := (g.test h).1 h2; omega
theorem Guess.next {u d a b q p r : Nat} (g : Guess u d a b q p r) (h : Half u d a b q) (h1 : q < p) : (p - 1) * a + (r + a) = u ∧ p - 1 ≤ 4294967296 ∧ q ≤ p - 1 := by
  obtain ⟨x, y, z, w⟩ := g
  refine ⟨?_, by omega, by omega⟩
  obtain ⟨t, rfl⟩ : ∃ t, p = t + 1 := ⟨p - 1, by omega⟩
  rw [Nat.add_mul, Nat.one_mul] at x
  rw [Nat.add_sub_cancel]
  omega
theorem Guess.go {u d a b q p r : Nat} (g : Guess u d a b q p r) (h : Half u d a b q) (h1 : q < p) (h2 : r + a < 4294967296) : Guess u d a b q (p - 1) (r + a) := by
  obtain ⟨x, y, z⟩ := g.next h h1
  exact ⟨x, z, by omega, h2⟩
theorem Guess.leave {u d a b q p r : Nat} (g : Guess u d a b q p r) (h : Half u d a b q) (h1 : q < p) (h2 : 4294967296 ≤ r + a) : p - 1 = q := by
  obtain ⟨x, y, z⟩ := g.next h h1
  have e : (p - 1) * (a * 4294967296 + b) = (p - 1) * a * 4294967296 + (p - 1) * b := by rw [Nat.mul_add, Nat.mul_assoc]
  have hb : (p - 1) * b ≤ 4294967296 * 4294967295 := Nat.mul_le_mul y (by have := h.b2; omega)
  have : p - 1 ≤ q := by
    rw [h.le, e, ← x, Nat.add_mul]
    omega
  omega

/-- what is left of a half step -/
theorem Half.left {u d a b q y : Nat} (h : Half u d a b q) (hy : y = a * 4294967296 + b) : (u * 4294967296 + d) % y = u * 4294967296 + d - q * y ∧ q * y ≤ u * 4294967296 + d ∧ u * 4294967296 + d - q * y < y := by
  subst hy
  have hm := Nat.mod_lt (u * 4294967296 + d) (show 0 < a * 4294967296 + b by have := h.a1; omega)
  have hd := Nat.div_add_mod (u * 4294967296 + d) (a * 4294967296 + b)
  rw [h.quo, Nat.mul_comm] at hd
  omega

theorem glue (B : Nat) {u l l1 l0 P v Q R : Nat} (e1 : u * B + l1 = P + v) (e2 : Q + R = v * B + l0) (hl : l = l1 * B + l0) : u * (B * B) + l = P * B + Q + R := by
  have h2 : (u * B + l1) * B = (P + v) * B := by rw [e1]
  rw [Nat.add_mul, Nat.add_mul, Nat.mul_assoc] at h2
  rw [hl, ← Nat.add_assoc, h2, Nat.add_assoc (P * B) Q R, e2, Nat.add_assoc]
theorem div_glue {u l l1 l0 P v Q R : Nat} (e1 : u * 4294967296 + l1 = P + v) (e2 : Q + R = v * 4294967296 + l0) (hl : l = l1 * 4294967296 + l0) : u * 18446744073709551616 + l = P * 4294967296 + Q + R :=
  glue 4294967296 e1 e2 hl
/-- the whole: shifted so that the highest bit is 1 -/
theorem div_parts {hi lo y s e y1 a b u l l1 l0 : Nat} (hhi : hi < y) (hlo : lo < 18446744073709551616) (hs : s < 64) (he : 64 - s = e) (hy1 : y * 2 ^ s = y1) (h1 : 9223372036854775808 ≤ y1) (h2 : y1 < 18446744073709551616)
    (ha : y1 / 4294967296 = a) (hb : y1 % 4294967296 = b) (hu : hi * 2 ^ s + lo / 2 ^ e = u) (hl : lo * 2 ^ s % 18446744073709551616 = l) (hl1 : l / 4294967296 = l1) (hl0 : l % 4294967296 = l0)
    {q1 v q0 : Nat} (hq1 : (u * 4294967296 + l1) / y1 = q1) (hv : (u * 4294967296 + l1) % y1 = v) (hq0 : (v * 4294967296 + l0) / y1 = q0) :
    Half u l1 a b q1 ∧ Half v l0 a b q0 ∧ (hi * 18446744073709551616 + lo) / y = q1 * 4294967296 + q0 ∧ (hi * 18446744073709551616 + lo) % y = (v * 4294967296 + l0) % y1 / 2 ^ s ∧ u < y1 ∧ v < y1 := by
  have hps := Nat.two_pow_pos s
  have hW : (18446744073709551616 : Nat) = 2 ^ e * 2 ^ s := by rw [← Nat.pow_add, ← he, show 64 - s + s = 64 by omega]
  have hN : (hi * 18446744073709551616 + lo) * 2 ^ s = u * 18446744073709551616 + l := by
    have d1 := Nat.div_add_mod (lo * 2 ^ s) 18446744073709551616
    have d2 : lo * 2 ^ s / 18446744073709551616 = lo / 2 ^ e := by rw [hW, Nat.mul_div_mul_right _ _ hps]
    rw [d2, hl] at d1
    rw [Nat.add_mul, ← hu, Nat.add_mul, ← d1, Nat.mul_right_comm hi]
    omega
  have hl64 : l < 18446744073709551616 := by rw [← hl]; exact Nat.mod_lt _ (by decide)
  have hu2 : u < y1 := by
    have h3 : (hi * 18446744073709551616 + lo + 1) ≤ y * 18446744073709551616 := by
      have : (hi + 1) * 18446744073709551616 ≤ y * 18446744073709551616 := Nat.mul_le_mul_right _ hhi
      omega
    have h4 : (hi * 18446744073709551616 + lo + 1) * 2 ^ s ≤ y * 18446744073709551616 * 2 ^ s := Nat.mul_le_mul_right _ h3
    rw [Nat.add_mul, hN, Nat.mul_right_comm, hy1] at h4
    omega
  have hl10 : l = l1 * 4294967296 + l0 := by omega
  have hv2 : v < y1 := by rw [← hv]; exact Nat.mod_lt _ (by omega)
  have hab : a * 4294967296 + b = y1 := by omega
  have e1 : u * 4294967296 + l1 = y1 * q1 + v := by rw [← hq1, ← hv]; exact (Nat.div_add_mod _ _).symm
  have e2 := Nat.div_add_mod (v * 4294967296 + l0) y1
  rw [hq0] at e2
  have e3 : u * 18446744073709551616 + l = y1 * (q1 * 4294967296 + q0) + (v * 4294967296 + l0) % y1 := by
    rw [Nat.mul_add, ← Nat.mul_assoc]
    exact div_glue e1 e2 hl10
  have hr := Nat.mod_lt (v * 4294967296 + l0) (show 0 < y1 by omega)
  have hy0 : 0 < y := by omega
  refine ⟨⟨by omega, by omega, by omega, by omega, by omega, by rw [hab]; exact hq1⟩, ⟨by omega, by omega, by omega, by omega, by omega, by rw [hab]; exact hq0⟩, ?_, ?_, hu2, hv2⟩
  · have : (hi * 18446744073709551616 + lo) * 2 ^ s / (y * 2 ^ s) = q1 * 4294967296 + q0 := by
      rw [hN, hy1, e3, Nat.mul_add_div (by omega), Nat.div_eq_of_lt hr, Nat.add_zero]
    rwa [Nat.mul_div_mul_right _ _ hps] at this
  · have : (hi * 18446744073709551616 + lo) * 2 ^ s % (y * 2 ^ s) = (v * 4294967296 + l0) % y1 := by
      rw [hN, hy1, e3, Nat.mul_add_mod, Nat.mod_eq_of_lt hr]
    rw [Nat.mul_mod_mul_right] at this
    rw [← this, Nat.mul_div_cancel _ hps]
end Go.Proofs.YtlmeobokpibifaaGreatDoor
end

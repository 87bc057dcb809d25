/- package nat's Word, Bit. Conditions: as each theorem names them. -/
import Derived.Test.YteiajccjlbghoaaDivl
set_option linter.unusedVariables false
namespace Go.Proofs.Yteiajccjlbghoaa
open Go.RowKit

theorem word_N (v : Value) (N x : Nat) (w : World) (h : IsN w v N) (hx : N % 18446744073709551616 = x) :
    Calls Try.prog 35 #[v] w fun e w' => (∃ b, e = .returned (.tuple #[.int .u64 x, .bool b])) ∧ Below w.heap.size w w' := by
  have T := Lib.hid (trim_N v N w h)
  obtain ⟨A, n, c, F, rfl, hr, hn, rfl⟩ := h
  have hv : x = if (0 : Int) ≤ 0 ∧ (0 : Int) < n then F (0 : Int).toNat else 0 := by
    rw [← hx]
    rcases n with _ | n
    · simp [S_zero]
    · rw [if_pos ⟨by omega, by omega⟩, S_shift, Wd_eq, Nat.add_mul_mod_self_left, Nat.mod_eq_of_lt (hr.word' 0 (by omega))]; rfl
  have AT := Lib.hid (at_any A n c F 0 w hr x hv)
  clear hv hr hn hx
  go_enter Try.func35, Try.ntmps35
  go_wp2_with fail
  with_reducible (refine AT.out.mono ?_)
  rintro e w1 ⟨rfl, rfl⟩
  go_wp2_with fail
  with_reducible (refine T.out.mono ?_)
  rintro e w1 ⟨⟨A1, n1, F1, rfl, h1, h2, h3⟩, rfl⟩
  have h4 := h1.small
  clear h1 h2 h3
  go_wp2_with fail
  go_ret2
  exact ⟨⟨_, rfl⟩, Below.refl _ _⟩

theorem bit_S {n i q r : Nat} {F : Nat → Nat} (hF : ∀ i, i < n → F i < Wd) (hi : i = 64 * q + r) (hr : r < 64) : S F n / 2 ^ i % 2 = ext n F q / 2 ^ r % 2 := by
  have h1 : S F n = S (ext n F) (n + q + 1) := (S_ext F (by omega)).symm
  rw [h1, show n + q + 1 = q + (n + 1) by omega, S_split, S_shift, hi, Nat.pow_add, ← Wp_two, ← Nat.div_div_eq_div_mul]
  have h2 : S (ext n F) q < Wd ^ q := S_lt (fun i hi => by unfold ext; split; exact hF i (by assumption); exact Wd_pos)
  rw [Nat.add_mul_div_left _ _ (Wp_pos q), Nat.div_eq_of_lt h2, Nat.zero_add, Nat.add_zero]
  generalize S (fun i => ext n F (q + (i + 1))) n = R
  generalize ext n F q = x
  have e : Wd = 2 ^ r * (2 * 2 ^ (63 - r)) := by
    rw [Wd_pow, ← Nat.pow_succ', ← Nat.pow_add]; congr 1; omega
  rw [e, Nat.mul_assoc, Nat.add_mul_div_left _ _ (Nat.two_pow_pos r), Nat.mul_assoc, Nat.add_mul_mod_self_left]
theorem bit_N (v : Value) (N i : Nat) (b : Bool) (w : World) (h : IsN w v N) (hi : i ≤ 10000000) (hb : decide (N / 2 ^ i % 2 = 1) = b) :
    Calls Try.prog 57 #[v, .int .i64 i] w fun e w' => e = .returned (.bool b) ∧ w = w' := by
  obtain ⟨A, n, c, F, rfl, hr, hn, rfl⟩ := h
  obtain ⟨q, hq⟩ : ∃ q, i / 64 = q := ⟨_, rfl⟩
  obtain ⟨r, hrr⟩ : ∃ r, i % 64 = r := ⟨_, rfl⟩
  have hr64 : r < 64 := by omega
  rw [bit_S (q := q) (r := r) hr.word (by omega) hr64] at hb
  have hx64 := ext_lt hr q
  have AT := Lib.hid (fun w h => at_ext A n c F q w h)
  have HH := Lib.hid hr
  generalize ext n F q = x at hb hx64 AT
  have hqi : (i : Int) / 64 = (q : Int) := by omega
  have hri : (i : Int) % 64 = (r : Int) := by omega
  have htd : ((i : Int)).tdiv 64 = (q : Int) := by rw [Int.tdiv_eq_ediv_of_nonneg (by omega)]; exact hqi
  have htm : ((i : Int)).tmod 64 = (r : Int) := by rw [Int.tmod_eq_emod_of_nonneg (by omega)]; exact hri
  have t1 : decide ((0 : Int) ≤ (i : Int)) = true := decide_eq_true (by omega)
  have hand : bits .and .u64 ((x : Int) / 2 ^ r) 1 = ((x / 2 ^ r % 2 : Nat) : Int) := by
    have e1 : ((x : Int) / 2 ^ r) = ((x / 2 ^ r : Nat) : Int) := by simp
    have := bits_and_u64_nat (x / 2 ^ r) 1 (Nat.lt_of_le_of_lt (Nat.div_le_self _ _) hx64) (by decide)
    rw [e1]
    rw [show ((1 : Nat) : Int) = 1 from rfl] at this
    rw [this, Nat.and_one_is_mod]
  clear hr hn hq hrr
  go_enter Try.func57, Try.ntmps57
  go_wp2_with fail
  with_reducible (refine (AT.out _ HH.out).mono ?_)
  rintro e w1 ⟨rfl, rfl⟩
  go_wp2_with fail
  have hb2 : ((x : Int) / 2 ^ r % 2 == 1) = b := by
    rw [← hb]
    have e1 : ((x : Int) / 2 ^ r % 2) = ((x / 2 ^ r % 2 : Nat) : Int) := by simp
    rw [e1]
    by_cases h1 : x / 2 ^ r % 2 = 1
    · rw [h1]; rfl
    · rw [decide_eq_false h1]; simp; omega
  go_ret
  exact ⟨by simp [hb2], rfl⟩
end Go.Proofs.Yteiajccjlbghoaa

/- posit.Join answers the key of fields, if some key has them; else it refuses. Conditions: as each theorem names them. -/
import Derived.Test.YtfmecakoccnblaaDoorPositJp
set_option linter.unusedVariables false
namespace Go.Proofs.YtfmecakoccnblaaDoor
open Go.RowKit

theorem rest_tail (ex fr b : Nat) (h : b ≤ 62) : (ex * 2 ^ b + fr) * 2 ^ (64 - (b + 2)) = ex * 4611686018427387904 + fr * 2 ^ (62 - b) := by
  rw [show 64 - (b + 2) = 62 - b by omega, Nat.add_mul, Nat.mul_assoc, ← Nat.pow_add, show b + (62 - b) = 62 by omega]
theorem rest_fits (ex fr b : Nat) (he : ex ≤ 3) (hf : fr < 2 ^ b) : ex * 2 ^ b + fr < 2 ^ (b + 2) := by
  have : 2 ^ (b + 2) = 2 ^ b * 4 := by rw [Nat.pow_add]
  rw [this]
  have := Nat.mul_le_mul_right (2 ^ b) he
  omega
theorem rest_or (ex fr b : Nat) (he : ex ≤ 3) (hb : b ≤ 62) (hf : fr < 2 ^ b) : bits .or .u64 (IntKind.u64.wrap ((ex : Int) * 2 ^ b)) fr = ((ex * 2 ^ b + fr : Nat) : Int) := by
  have h1 := rest_fits ex fr b he hf
  have h2 := pow_le64 (show b + 2 ≤ 64 by omega)
  rw [wrap_shl _ _ (by omega), bits_or_u64_nat _ _ (by omega) (by omega), or_shl _ _ _ hf]
theorem frac_zero (fr b : Nat) (hf : fr < 2 ^ b) : ((fr : Int) / 2 ^ b == 0) = true := by
  rw [cast_shr, Nat.div_eq_of_lt hf]; rfl

theorem Join_yes (wd : Int) (n key : Nat) (w : World) (h : Fit wd n key) :
    Calls Tryd.prog 20 #[.int .i64 wd, .agg #[.int .i64 (fReg n key), .int .i64 (fExp n key), .int .u64 (fFrac n key), .int .i64 (fBits n key)]] w fun r w' => r = .returned (.tuple #[.int .u64 key, .int .i64 0]) ∧ Below w.heap.size w w' := by
  obtain ⟨hn, h1, h2, h3, h4⟩ := h
  have n2 : 2 ≤ n := by omega
  have n64 : n ≤ 64 := by omega
  obtain ⟨t1, t2, t3, t4⟩ := tail_parts n2 n64 h3 h4
  obtain ⟨r1, r2⟩ := reg_bounds n2 n64 h3 h4
  have hs := fun w => split_fields wd n key w hn h1 h2 h3 h4
  have hm : Made n (fReg n key) ((fExp n key * 2 ^ fBits n key + fFrac n key) * 2 ^ (64 - (fBits n key + 2))) key := ⟨h3, h4, rfl, by rw [rest_tail _ _ _ (by omega), t1]⟩
  rcases join_main wd (fReg n key) n (fExp n key * 2 ^ fBits n key + fFrac n key) (fBits n key + 2) hn h1 h2 (by omega) (by omega) (rest_fits _ _ _ t2 t3) (by omega) (by omega) with ⟨k, k1, k2⟩ | ⟨k1, _⟩
  · have := Made_inj n2 n64 k1 hm
    subst this
    exact Join_walk_yes wd _ _ _ _ _ _ w h1 h2 (by omega) (by omega) t2 (by omega) (frac_zero _ _ t3) (rest_or _ _ _ t2 (by omega) t3) k2 hs
  · exact absurd ⟨key, hm⟩ k1

theorem Join_no (wd reg ex bts : Int) (fr : Nat) (w : World) (h : ¬ ∃ n key, Fit wd n key ∧ fReg n key = reg ∧ (fExp n key : Int) = ex ∧ fFrac n key = fr ∧ (fBits n key : Int) = bts) :
    Calls Tryd.prog 20 #[.int .i64 wd, .agg #[.int .i64 reg, .int .i64 ex, .int .u64 fr, .int .i64 bts]] w fun r w' => r = .returned (.tuple #[.int .u64 0, .int .i64 1]) ∧ Below w.heap.size w w' := by
  by_cases hw : 3 ≤ wd ∧ wd ≤ 65
  case neg => exact Join_width wd reg ex bts fr w hw
  obtain ⟨h1, h2⟩ := hw
  by_cases f0 : 0 ≤ ex
  case neg => exact Join_range0 wd reg ex bts fr w h1 h2 f0
  by_cases f1 : ex < 4
  case neg => exact Join_range1 wd reg ex bts fr w h1 h2 f0 f1
  by_cases f2 : 0 ≤ bts
  case neg => exact Join_range2 wd reg ex bts fr w h1 h2 f0 f1 f2
  by_cases f3 : bts < 65
  case neg => exact Join_range3 wd reg ex bts fr w h1 h2 f0 f1 f2 f3
  by_cases f4 : -65 < reg
  case neg => exact Join_range4 wd reg ex bts fr w h1 h2 f0 f1 f2 f3 f4
  by_cases f5 : reg < 65
  case neg => exact Join_range5 wd reg ex bts fr w h1 h2 f0 f1 f2 f3 f4 f5
  by_cases f6 : 62 < bts
  · exact Join_bits wd reg ex bts fr w h1 h2 f0 f1 f2 f3 f4 f5 f6
  obtain ⟨b, rfl⟩ : ∃ b : Nat, bts = (b : Int) := ⟨bts.toNat, by omega⟩
  obtain ⟨x, rfl⟩ : ∃ x : Nat, ex = (x : Int) := ⟨ex.toNat, by omega⟩
  obtain ⟨n, hn⟩ : ∃ n : Nat, wd - 1 = (n : Int) := ⟨(wd - 1).toNat, by omega⟩
  by_cases hf : fr < 2 ^ b
  case neg =>
    refine Join_frac wd reg x b fr w h1 h2 f0 f1 (by omega) f4 f5 ?_
    have : 1 ≤ fr / 2 ^ b := (Nat.le_div_iff_mul_le (Nat.two_pow_pos b)).2 (by omega)
    rw [cast_shr]
    generalize fr / 2 ^ b = z at *
    simp; omega
  have n2 : 2 ≤ n := by omega
  have n64 : n ≤ 64 := by omega
  rcases join_main wd reg n (x * 2 ^ b + fr) (b + 2) hn h1 h2 (by omega) (by omega) (rest_fits _ _ _ (by omega) hf) (by omega) (by omega) with ⟨k, k1, k2⟩ | ⟨k1, k2⟩
  · obtain ⟨k3, k4, k5, k6⟩ := k1
    have hs := fun w => split_fields wd n k w hn h1 h2 k3 k4
    obtain ⟨t1, t2, t3, t4⟩ := tail_parts n2 n64 k3 k4
    rw [rest_tail _ _ _ (by omega), t1] at k6
    have l1 : fFrac n k * 2 ^ (62 - fBits n k) < 4611686018427387904 := by
      have := Nat.mul_lt_mul_of_pos_right t3 (Nat.two_pow_pos (62 - fBits n k))
      rw [← Nat.pow_add, show fBits n k + (62 - fBits n k) = 62 by omega] at this
      exact this
    have l2 : fr * 2 ^ (62 - b) < 4611686018427387904 := by
      have := Nat.mul_lt_mul_of_pos_right hf (Nat.two_pow_pos (62 - b))
      rw [← Nat.pow_add, show b + (62 - b) = 62 by omega] at this
      exact this
    have ee : fExp n k = x := by omega
    rw [k5, ee] at hs
    by_cases hfe : (fFrac n k : Int) = fr
    · rw [hfe] at hs
      refine Join_other_bits wd reg x fr b _ k w h1 h2 f4 f5 (by omega) (by omega) (frac_zero _ _ hf) (rest_or _ _ _ (by omega) (by omega) hf) k2 (fBits n k) hs ?_
      intro hbe
      exact h ⟨n, k, ⟨hn, h1, h2, k3, k4⟩, k5, by omega, by omega, hbe⟩
    · exact Join_other_frac wd reg x fr b _ k w h1 h2 f4 f5 (by omega) (by omega) (frac_zero _ _ hf) (rest_or _ _ _ (by omega) (by omega) hf) k2 (fFrac n k) (fBits n k) hs hfe
  · exact Join_none wd reg x fr b _ 0 w h1 h2 f4 f5 (by omega) (by omega) (frac_zero _ _ hf) (rest_or _ _ _ (by omega) (by omega) hf) k2
end Go.Proofs.YtfmecakoccnblaaDoor

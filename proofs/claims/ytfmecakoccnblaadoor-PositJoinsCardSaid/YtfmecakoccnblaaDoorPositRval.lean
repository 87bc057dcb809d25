/- caliperref05.Value walked: it answers the number of a key. Conditions: as each theorem names them. -/
import Derived.Test.YtfmecakoccnblaaDoorPositSplits
set_option linter.unusedVariables false
namespace Go.Proofs.YtfmecakoccnblaaDoor
open Go.RowKit

theorem sig_parts {n key : Nat} (h1 : 2 ≤ n) (h2 : n ≤ 64) (h3 : 0 < key) (h4 : key < 2 ^ n) : ∃ c q : Nat, fFrac n key + 2 ^ fBits n key = 2 ^ c * (2 * q + 1) ∧ fM n key = 2 * q + 1 ∧ 4 * fReg n key + (fExp n key : Int) - (fBits n key : Int) + (c : Int) = fE n key ∧ c ≤ 61 ∧ 2 ^ c * (2 * q + 1) < 2305843009213693952 := by
  obtain ⟨t1, t2, t3, t4⟩ := tail_parts h1 h2 h3 h4
  obtain ⟨s1, s2⟩ := SA_parts h1 h2 h3 h4
  obtain ⟨k, q, e1, e2, e3, e4, e5, e6⟩ := M_parts n key
  obtain ⟨a1, a2⟩ := A_range n key
  have hp0 := Nat.two_pow_pos (fBits n key)
  have hp60 := pow_le (show fBits n key ≤ 60 from t4)
  have hsg : fSig n key = fFrac n key + 2 ^ fBits n key := by unfold fSig; omega
  have sg0 : fSig n key ≠ 0 := by omega
  have sg1 : fSig n key < 2305843009213693952 := by omega
  obtain ⟨c, r, f1, f2, f3, f4⟩ := odd_parts (fSig n key) sg0 (by omega)
  have hA : fA n key = 2 ^ (62 - fBits n key + c) * (2 * r + 1) := by
    rw [s2, f1, ← Nat.mul_assoc, ← Nat.pow_add]
  have hk : k = 62 - fBits n key + c := by
    have := ctz_of (62 - fBits n key + c) r (by rw [← hA]; omega)
    rw [← hA, e2] at this; exact this
  have hq : 2 * q + 1 = 2 * r + 1 := by
    rw [e3, hk] at hA
    exact Nat.eq_of_mul_eq_mul_left (Nat.two_pow_pos _) hA
  refine ⟨c, r, by rw [← hsg, f1], by rw [e1, hq], ?_, ?_, by rw [← f1]; exact sg1⟩
  · rw [e6, s1]; omega
  · rcases Nat.lt_or_ge 61 c with hc | hc
    · have := pow_le (show 62 ≤ c by omega)
      have h5 : 2 ^ c * 1 ≤ 2 ^ c * (2 * r + 1) := Nat.mul_le_mul_left _ (by omega)
      omega
    · exact hc

/-- halving an even number, so often as it goes -/
theorem strip (c q : Nat) : ∃ K : Nat → Nat, K 0 = 2 ^ c * (2 * q + 1) ∧ (∀ j, j < c → K j % 2 = 0) ∧ (∀ j, j < c → K (j + 1) = K j / 2) ∧ K c = 2 * q + 1 ∧ (∀ j, j ≤ c → K j ≤ 2 ^ c * (2 * q + 1)) ∧ (∀ j, 0 < K j) := by
  have hs : ∀ j, j < c → 2 ^ (c - j) * (2 * q + 1) = 2 * (2 ^ (c - (j + 1)) * (2 * q + 1)) := by
    intro j hj
    rw [show c - j = c - (j + 1) + 1 by omega, pow_add_one, Nat.mul_assoc]
  refine ⟨fun j => 2 ^ (c - j) * (2 * q + 1), rfl, ?_, ?_, ?_, ?_, ?_⟩
  · intro j hj
    show 2 ^ (c - j) * (2 * q + 1) % 2 = 0
    rw [hs j hj]; omega
  · intro j hj
    show 2 ^ (c - (j + 1)) * (2 * q + 1) = 2 ^ (c - j) * (2 * q + 1) / 2
    rw [hs j hj]; omega
  · show 2 ^ (c - c) * (2 * q + 1) = 2 * q + 1
    rw [Nat.sub_self, Nat.pow_zero, Nat.one_mul]
  · intro j hj
    exact Nat.mul_le_mul_right _ (pow_le (by omega))
  · intro j
    exact Nat.mul_pos (Nat.two_pow_pos _) (by omega)

theorem refValue_walk (wd rg e0 e1 : Int) (key ex fr bt c q : Nat) (w : World)
    (S : ∀ w, Calls Tryd.prog 13 #[.int .i64 wd, .int .u64 key] w fun e w' => e = .returned (.tuple #[.agg #[.int .i64 rg, .int .i64 ex, .int .u64 fr, .int .i64 bt], .bool true]) ∧ Below w.heap.size w w')
    (hrg1 : -64 ≤ rg) (hrg2 : rg ≤ 63) (hex : ex ≤ 3) (hbt : bt ≤ 60) (hfr : fr < 2 ^ bt) (hsg : fr + 2 ^ bt = 2 ^ c * (2 * q + 1)) (hc : c ≤ 61) (hlt : 2 ^ c * (2 * q + 1) < 2305843009213693952)
    (he0 : 4 * rg + (ex : Int) - (bt : Int) = e0) (he1 : e0 + (c : Int) = e1) :
    Calls Tryd.prog 15 #[.int .i64 wd, .int .u64 key] w fun e w' => e = .returned (.tuple #[.int .u64 ((2 * q + 1 : Nat) : Int), .int .i64 e1, .bool true]) ∧ Below w.heap.size w w' := by
  obtain ⟨P, p0, p1, p2, p3⟩ : ∃ P : Nat → Nat, P 0 = 1 ∧ (∀ j, P (j + 1) = 2 * P j) ∧ (∀ j, j ≤ bt → P j ≤ 1152921504606846976) ∧ P bt = 2 ^ bt :=
    ⟨fun j => 2 ^ j, rfl, fun j => pow_add_one j, fun j hj => pow_le (show j ≤ 60 by omega), rfl⟩
  obtain ⟨K, k0, k1, k2, k3, k4, k5⟩ := strip c q
  rw [← p3, ← k0] at hsg
  have hb0 : -400 ≤ e0 ∧ e0 ≤ 400 := by omega
  obtain ⟨hb01, hb02⟩ := hb0
  have hfr60 : fr < 1152921504606846976 := Nat.lt_of_lt_of_le hfr (pow_le hbt)
  have hm1 : (2 * q + 1) % 2 = 1 := by omega
  generalize 2 * q + 1 = m at *
  have HM := Lib.hid hm1
  clear hm1
  have S' := Lib.hid S
  have P0 := Lib.hid p0
  have P1 := Lib.hid p1
  have P2 := Lib.hid p2
  have K1 := Lib.hid k1
  have K2 := Lib.hid k2
  have K3 := Lib.hid k3
  have K4 := Lib.hid k4
  have HSG := Lib.hid hsg
  have HE0 := Lib.hid he0
  have HE1 := Lib.hid he1
  have HLT := Lib.hid hlt
  clear S p0 p1 p2 p3 k0 k1 k2 k3 k4 k5 hsg he0 he1 hfr hlt
  go_enter Tryd.func15, Tryd.ntmps15
  go_wp2_with fail
  refine (S'.out _).mono ?_; rintro e w1 ⟨rfl, b1⟩
  have B := Lib.hid (bgrow b1 (.cells #[.int .i64 rg, .int .i64 ex, .int .u64 fr, .int .i64 bt] 29))
  clear b1
  go_wp2_with fail
  go_loop [10, 11] (fun x i => ∃ j : Nat, j ≤ bt ∧ x = .int .u64 (P j) ∧ i = .int .i64 j) (fun _ i => (bt - (intOf i).toNat))
  case atStart => exact ⟨0, Nat.zero_le _, by rw [P0.out]; rfl, rfl⟩
  case round =>
    obtain ⟨j, hj, rfl, rfl⟩ := hrel
    have u1 := P2.out j hj
    by_cases hlt : j < bt
    · have u2 := P1.out j
      have u3 := P2.out (j + 1) (by omega)
      have u4 : IntKind.u64.wrap (2 * (P j : Int)) = (P (j + 1) : Int) := by rw [u2, show (2 * (P j : Int)) = ((2 * P j : Nat) : Int) by omega, wrap_u64_nat _ (by omega)]
      clear u2
      have u5 : decide (j < bt) = true := by simpa using hlt
      go_wp2_with fail
      go_round
      case rel => exact ⟨j + 1, by omega, rfl, by go_num⟩
      case measure => simp [intOf]; omega
    · obtain rfl : j = bt := by omega
      have u2 := HSG.out
      have u5 : decide (j < j) = false := by simp
      have u6 : IntKind.u64.wrap ((fr : Int) + (P j : Int)) = (K 0 : Int) := by rw [← u2, show ((fr : Int) + (P j : Int)) = ((fr + P j : Nat) : Int) by omega, wrap_u64_nat _ (by omega)]
      have u7 := HE0.out
      clear u2
      go_wp2_with fail
      go_loop [9, 12] (fun x i => ∃ k : Nat, k ≤ c ∧ x = .int .u64 (K k) ∧ i = .int .i64 (e0 + k)) (fun _ i => (400 + c - (intOf i)).toNat)
      case atStart => exact ⟨0, Nat.zero_le _, rfl, by simp⟩
      case round =>
        obtain ⟨k, hk, rfl, rfl⟩ := hrel
        have v1 := K4.out k hk
        have v0 := HLT.out
        by_cases hlt2 : k < c
        · have v2 := K1.out k hlt2
          have v3 := Lib.hid (K2.out k hlt2)
          have v4 : ((K k : Int) % 2 == 0) = true := by simp; omega
          have v5 : ((K k : Nat) : Int) / 2 = ((K (k + 1) : Nat) : Int) := by rw [v3.out]; omega
          clear v2
          go_wp2_with fail
          go_round
          case rel => exact ⟨k + 1, by omega, rfl, by go_num⟩
          case measure => simp [intOf]; omega
        · obtain rfl : k = c := by omega
          have v2 := Lib.hid K3.out
          have v4 : ((K k : Int) % 2 == 0) = false := by
            have := v2.out
            have := HM.out
            simp; omega
          have v5 := HE1.out
          go_wp2_with fail
          refine bodyPost_ret (v := .tuple #[.int .u64 m, .int .i64 e1, .bool true]) ?_ rfl ⟨rfl, B.out⟩
          simp [results, Tryd.results15, go_sem, v2.out]
end Go.Proofs.YtfmecakoccnblaaDoor

/- What the document's answers of the package caliperref06 come to, each by a walk of its own text; and that what must be in any case is so. Conditions: as each theorem names them. -/
import Derived.Test.YtifcoifpmnabpaaDoorMiniLow
namespace Go.Proofs.YtifcoifpmnabpaaDoor
open Go.RowKit

theorem ref_fits_yes (man key : Nat) (bias : Int) (w : World) (h1 : man ≤ 60) (h3 : -2000 ≤ bias) (h4 : bias ≤ 2000) (h2 : key / 2 ^ man ≤ 4095) :
    Calls Tryd.prog 10 #[.int .i64 man, .int .i64 bias, .int .u64 key] w fun e w' => e = .returned (.int .i64 0) ∧ w = w' := by
  have h5 : (key : Int) / 2 ^ man ≤ 4095 := by rw [cast_shr]; generalize key / 2 ^ man = x at *; omega
  go_enter Tryd.func10, Tryd.ntmps10
  go_wp2
  go_ret
  exact ⟨rfl, rfl⟩
theorem ref_fits_no_key (man key : Nat) (bias : Int) (w : World) (h1 : man ≤ 60) (h3 : -2000 ≤ bias) (h4 : bias ≤ 2000) (h2 : 4095 < key / 2 ^ man) :
    Calls Tryd.prog 10 #[.int .i64 man, .int .i64 bias, .int .u64 key] w fun e w' => e = .returned (.int .i64 1) ∧ w = w' := by
  have h5 : 4095 < (key : Int) / 2 ^ man := by rw [cast_shr]; generalize key / 2 ^ man = x at *; omega
  go_enter Tryd.func10, Tryd.ntmps10
  go_wp2
  go_ret
  exact ⟨rfl, rfl⟩
theorem ref_fits_no (man bias key : Int) (w : World) (h : ¬ (0 ≤ man ∧ man ≤ 60 ∧ -2000 ≤ bias ∧ bias ≤ 2000)) :
    Calls Tryd.prog 10 #[.int .i64 man, .int .i64 bias, .int .u64 key] w fun e w' => e = .returned (.int .i64 1) ∧ w = w' := by
  by_cases h1 : man < 0
  · clear h
    go_enter Tryd.func10, Tryd.ntmps10
    go_wp2
    go_ret
    exact ⟨rfl, rfl⟩
  · by_cases h2 : 60 < man
    · clear h
      go_enter Tryd.func10, Tryd.ntmps10
      go_wp2
      go_ret
      exact ⟨rfl, rfl⟩
    · by_cases h3 : bias < -2000
      · clear h
        go_enter Tryd.func10, Tryd.ntmps10
        go_wp2
        go_ret
        exact ⟨rfl, rfl⟩
      · have h4 : 2000 < bias := by omega
        clear h
        go_enter Tryd.func10, Tryd.ntmps10
        go_wp2
        go_ret
        exact ⟨rfl, rfl⟩

theorem ref_split (man key : Nat) (w : World) (h1 : man ≤ 60) (hk : key < 18446744073709551616) :
    Calls Tryd.prog 11 #[.int .i64 man, .int .u64 key] w fun e w' => e = .returned (.tuple #[.int .u64 ((key / 2 ^ man : Nat) : Int), .int .u64 ((key % 2 ^ man : Nat) : Int)]) ∧ ∃ n, w' = w.drewN n := by
  have h0 : 0 < 2 ^ man := Nat.two_pow_pos man
  have P := Lib.hid (fun w => power_any man w h1)
  generalize 2 ^ man = p at *
  have hd : IntKind.u64.wrap ((key : Int) / p) = ((key / p : Nat) : Int) := by
    rw [show ((key : Int) / p) = ((key / p : Nat) : Int) by simp, wrap_u64_nat _ (Nat.lt_of_le_of_lt (Nat.div_le_self _ _) hk)]
  have H := Lib.hid hd
  clear hd
  go_enter Tryd.func11, Tryd.ntmps11
  go_wp2_with (first
    | (go_at_call 16; refine (P.out _).mono ?_; rintro e w' ⟨rfl, rfl⟩))
  go_quiet (fail)
  go_wp2
  go_ret2
  exact ⟨ret2 H.out (by simp), _, rfl⟩

/-- the document's Value: an odd number times a power of two is halved till it is odd -/
theorem ref_value_low (man key : Nat) (bias : Int) (w : World) (h1 : man ≤ 60) (hk : key < 18446744073709551616) (h3 : -2000 ≤ bias) (h4 : bias ≤ 2000) (h2 : key / 2 ^ man = 0)
    (c q : Nat) (hc : c < 64) (hm : key % 2 ^ man = 2 ^ c * (2 * q + 1)) (hm1 : key % 2 ^ man < 18446744073709551616) :
    Calls Tryd.prog 12 #[.int .i64 man, .int .i64 bias, .int .u64 key] w fun e w' => e = .returned (.tuple #[.int .u64 ((2 * q + 1 : Nat) : Int), .int .i64 (1 - bias - man + c)]) ∧ ∃ n, w' = w.drewN n := by
  have S := fun w => ref_split man key w h1 hk
  rw [h2, hm] at S
  have hS := Lib.hid S
  rw [hm] at hm1
  have hpos : 0 < 2 ^ c * (2 * q + 1) := Nat.mul_pos (Nat.two_pow_pos c) (by omega)
  have hm0 : (((2 ^ c * (2 * q + 1) : Nat) : Int) == 0) = false := by
    generalize 2 ^ c * (2 * q + 1) = x at *; simp; omega
  have hst : ∀ j, j ≤ c → 2 ^ (c - j) * (2 * q + 1) ≤ 2 ^ c * (2 * q + 1) := fun j _ => Nat.mul_le_mul_right _ (Nat.pow_le_pow_right (by decide) (by omega))
  have hstep : ∀ j, j < c → 2 ^ (c - j) * (2 * q + 1) = 2 * (2 ^ (c - (j + 1)) * (2 * q + 1)) := fun j hj => by
    rw [show c - j = (c - (j + 1)) + 1 by omega, Nat.pow_succ, Nat.mul_comm _ 2, Nat.mul_assoc]
  have HST := Lib.hid hst
  have HSTEP := Lib.hid hstep
  have HEND : Hid (2 ^ (c - c) * (2 * q + 1) = 2 * q + 1) := by
    exact Lib.hid (by simp)
  clear S h2 hm hst hstep
  have g0 : 2 ^ c * (2 * q + 1) = 2 ^ (c - 0) * (2 * q + 1) := rfl
  have hf : ∃ F : Nat → Nat, ∀ j, F j = 2 ^ (c - j) * (2 * q + 1) := ⟨_, fun _ => rfl⟩
  obtain ⟨F, hF⟩ := hf
  have HF := Lib.hid hF
  rw [g0, ← hF 0] at hS hpos hm1 hm0
  clear g0 hF
  go_enter Tryd.func12, Tryd.ntmps12
  go_wp2_with (first
    | (go_at_call 11; refine (hS.out _).mono ?_; rintro e w' ⟨rfl, n, rfl⟩))
  go_loop [9, 10] (fun x i => ∃ j : Nat, j ≤ c ∧ x = .int .u64 (F j) ∧ i = .int .i64 (1 - bias - man + j)) (fun x _ => (intOf x).toNat)
  case atStart => exact ⟨0, Nat.zero_le _, rfl, by simp⟩
  case round =>
    obtain ⟨j, hj, rfl, rfl⟩ := hrel
    have b1 : F j < 18446744073709551616 := by
      have a1 := HST.out j hj
      have a2 := HST.out 0 (Nat.zero_le _)
      rw [HF.out] at hm1 ⊢
      exact Nat.lt_of_le_of_lt a1 hm1
    by_cases hlt : j < c
    · have b2 : F j = 2 * F (j + 1) := by rw [HF.out, HF.out]; exact HSTEP.out j hlt
      have b3 : 0 < F (j + 1) := by rw [HF.out]; exact Nat.mul_pos (Nat.two_pow_pos _) (by omega)
      have hmod : (((F j : Nat) : Int) % 2 == 0) = true := by rw [b2]; simp
      have hdiv : ((F j : Nat) : Int) / 2 = ((F (j + 1) : Nat) : Int) := by omega
      have B := Lib.hid b2
      clear b2
      go_wp2
      go_round
      case rel => exact ⟨j + 1, by omega, rfl, by go_num⟩
      case measure => have := B.out; simp [intOf]; omega
    · obtain rfl : j = c := by omega
      have b2 : F j = 2 * q + 1 := by rw [HF.out]; exact HEND.out
      have hmod : (((F j : Nat) : Int) % 2 == 0) = false := by rw [b2]; simp
      have B := Lib.hid b2
      clear b2
      go_wp2
      go_ret2
      exact ⟨ret2 (by rw [B.out]; omega) rfl, _, rfl⟩
/-- the same of a field that is not 0 -/
theorem ref_value_high (man key : Nat) (bias : Int) (w : World) (h1 : man ≤ 60) (hk : key < 18446744073709551616) (h3 : -2000 ≤ bias) (h4 : bias ≤ 2000) (f : Nat) (h2 : key / 2 ^ man = f) (hf1 : 1 ≤ f) (hf2 : f ≤ 4095)
    (c q : Nat) (hc : c < 64) (hm : key % 2 ^ man + 2 ^ man = 2 ^ c * (2 * q + 1)) (hm1 : key % 2 ^ man + 2 ^ man < 18446744073709551616) :
    Calls Tryd.prog 12 #[.int .i64 man, .int .i64 bias, .int .u64 key] w fun e w' => e = .returned (.tuple #[.int .u64 ((2 * q + 1 : Nat) : Int), .int .i64 (f - bias - man + c)]) ∧ ∃ n, w' = w.drewN n := by
  have S := fun w => ref_split man key w h1 hk
  rw [h2] at S
  have hP := Lib.hid (fun w => power_any man w h1)
  have hsum : ((key % 2 ^ man : Nat) : Int) + ((2 ^ man : Nat) : Int) = ((key % 2 ^ man + 2 ^ man : Nat) : Int) := rfl
  rw [hm] at hsum hm1
  generalize key % 2 ^ man = a at *
  generalize 2 ^ man = p at *
  have hS := Lib.hid S
  have hpos : 0 < 2 ^ c * (2 * q + 1) := Nat.mul_pos (Nat.two_pow_pos c) (by omega)
  have hm0 : (((2 ^ c * (2 * q + 1) : Nat) : Int) == 0) = false := by
    generalize 2 ^ c * (2 * q + 1) = x at *; simp; omega
  have hst : ∀ j, j ≤ c → 2 ^ (c - j) * (2 * q + 1) ≤ 2 ^ c * (2 * q + 1) := fun j _ => Nat.mul_le_mul_right _ (Nat.pow_le_pow_right (by decide) (by omega))
  have hstep : ∀ j, j < c → 2 ^ (c - j) * (2 * q + 1) = 2 * (2 ^ (c - (j + 1)) * (2 * q + 1)) := fun j hj => by
    rw [show c - j = (c - (j + 1)) + 1 by omega, Nat.pow_succ, Nat.mul_comm _ 2, Nat.mul_assoc]
  have HST := Lib.hid hst
  have HSTEP := Lib.hid hstep
  have HEND : Hid (2 ^ (c - c) * (2 * q + 1) = 2 * q + 1) := by
    exact Lib.hid (by simp)
  clear S h2 hm hst hstep
  have g0 : 2 ^ c * (2 * q + 1) = 2 ^ (c - 0) * (2 * q + 1) := rfl
  have hf : ∃ F : Nat → Nat, ∀ j, F j = 2 ^ (c - j) * (2 * q + 1) := ⟨_, fun _ => rfl⟩
  obtain ⟨F, hF⟩ := hf
  have HF := Lib.hid hF
  rw [g0, ← hF 0] at hsum hpos hm1 hm0
  clear g0 hF
  go_enter Tryd.func12, Tryd.ntmps12
  go_wp2_with (first
    | (go_at_call 11; refine (hS.out _).mono ?_; rintro e w' ⟨rfl, n, rfl⟩)
    | (go_at_call 16; refine (hP.out _).mono ?_; rintro e w' ⟨rfl, rfl⟩))
  go_loop [9, 10] (fun x i => ∃ j : Nat, j ≤ c ∧ x = .int .u64 (F j) ∧ i = .int .i64 (f - bias - man + j)) (fun x _ => (intOf x).toNat)
  case atStart => exact ⟨0, Nat.zero_le _, rfl, by simp⟩
  case round =>
    obtain ⟨j, hj, rfl, rfl⟩ := hrel
    have b1 : F j < 18446744073709551616 := by
      have a1 := HST.out j hj
      have a2 := HST.out 0 (Nat.zero_le _)
      rw [HF.out] at hm1 ⊢
      exact Nat.lt_of_le_of_lt a1 hm1
    by_cases hlt : j < c
    · have b2 : F j = 2 * F (j + 1) := by rw [HF.out, HF.out]; exact HSTEP.out j hlt
      have b3 : 0 < F (j + 1) := by rw [HF.out]; exact Nat.mul_pos (Nat.two_pow_pos _) (by omega)
      have hmod : (((F j : Nat) : Int) % 2 == 0) = true := by rw [b2]; simp
      have hdiv : ((F j : Nat) : Int) / 2 = ((F (j + 1) : Nat) : Int) := by omega
      have B := Lib.hid b2
      clear b2
      go_wp2
      go_round
      case rel => exact ⟨j + 1, by omega, rfl, by go_num⟩
      case measure => have := B.out; simp [intOf]; omega
    · obtain rfl : j = c := by omega
      have b2 : F j = 2 * q + 1 := by rw [HF.out]; exact HEND.out
      have hmod : (((F j : Nat) : Int) % 2 == 0) = false := by rw [b2]; simp
      have B := Lib.hid b2
      clear b2
      go_wp2
      go_ret2
      exact ⟨ret2 (by rw [B.out]; omega) rfl, _, rfl⟩

/-- what must be in any case, is -/
theorem shown_true (w : World) (hT : Tab w) : Calls Tryd.prog 7 #[] w fun e w' => e = .returned (.bool true) ∧ ∃ n, w' = w.drewN n := by
  have V1 : ∀ w, Tab w → Calls Tryd.prog 9 #[.int .i64 3, .int .i64 7, .int .u64 56] w fun e w' => e = .returned (.tuple #[.int .u64 1, .int .i64 0, .int .i64 0]) ∧ ∃ n, w' = w.drewN n := fun w h => by
    simpa [sig] using value_yes 3 56 7 w h (by decide) (by decide) (by decide) (by decide) (by decide) (by decide) 3 (by decide)
  have V2 : ∀ w, Tab w → Calls Tryd.prog 9 #[.int .i64 3, .int .i64 7, .int .u64 1] w fun e w' => e = .returned (.tuple #[.int .u64 1, .int .i64 (-9), .int .i64 0]) ∧ ∃ n, w' = w.drewN n := fun w h => by
    simpa [sig] using value_yes 3 1 7 w h (by decide) (by decide) (by decide) (by decide) (by decide) (by decide) 0 (by decide)
  have K1 : ∀ w, Tab w → Calls Tryd.prog 13 #[.int .i64 3, .int .i64 7, .int .u64 7, .int .i64 6] w fun e w' => e = .returned (.tuple #[.int .u64 126, .int .i64 0]) ∧ ∃ n, w' = w.drewN n := fun w h =>
    key_large 3 7 6 7 w h (by decide) (by decide) (by decide) (by decide) (by decide) (by decide) (by decide) (by decide) 2 (by decide) (by decide) 5 (by decide) (by decide) (by decide) (by decide) 14 (by decide) (by decide) (by decide) (by decide) 126 (by decide)
  have K2 : ∀ w, Tab w → Calls Tryd.prog 13 #[.int .i64 3, .int .i64 7, .int .u64 17, .int .i64 0] w fun e w' => e = .returned (.tuple #[.int .u64 0, .int .i64 8]) ∧ ∃ n, w' = w.drewN n := fun w h =>
    key_none 3 7 0 17 w h (by decide) (by decide) (by decide) (by decide) (by decide) (by decide) (by decide) (by decide) 4 (by decide) (by decide) (by decide)
  have S1 : ∀ w, Calls Tryd.prog 8 #[.int .i64 3, .int .u64 58] w fun e w' => e = .returned (.tuple #[.int .u64 7, .int .u64 2, .int .i64 0]) ∧ ∃ n, w' = w.drewN n := fun w => by
    simpa using split_yes 3 58 w (by decide) (by decide) (by decide)
  have S2 : ∀ w, Calls Tryd.prog 8 #[.int .i64 61, .int .u64 0] w fun e w' => e = .returned (.tuple #[.int .u64 0, .int .u64 0, .int .i64 1]) ∧ ∃ n, w' = w.drewN n := fun w =>
    split_no_man 61 0 w (by decide)
  have V1 := Lib.hid V1
  have V2 := Lib.hid V2
  have K1 := Lib.hid K1
  have K2 := Lib.hid K2
  have S1 := Lib.hid S1
  have S2 := Lib.hid S2
  have hTab := Lib.hid hT
  clear hT
  go_enter Tryd.func7, Tryd.ntmps7
  go_wp2_with fail
  refine (V1.out _ hTab.out).mono ?_; rintro e w' ⟨rfl, n1, rfl⟩
  go_wp2_with fail
  refine (V2.out _ (hTab.out.drewN _)).mono ?_; rintro e w' ⟨rfl, n2, rfl⟩
  go_wp2_with fail
  refine (K1.out _ (hTab.out.drewN _)).mono ?_; rintro e w' ⟨rfl, n3, rfl⟩
  go_wp2_with fail
  refine (K2.out _ (hTab.out.drewN _)).mono ?_; rintro e w' ⟨rfl, n4, rfl⟩
  go_wp2_with fail
  refine (S1.out _).mono ?_; rintro e w' ⟨rfl, n5, rfl⟩
  go_wp2_with fail
  refine (S2.out _).mono ?_; rintro e w' ⟨rfl, n6, rfl⟩
  go_wp2_with fail
  go_ret
  exact ⟨rfl, _, rfl⟩
end Go.Proofs.YtifcoifpmnabpaaDoor

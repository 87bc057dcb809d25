/- What the functions of the packages mini and caliperref06 answer, each by a walk of its own text. Conditions: as each theorem names them. -/
import Derived.Test.YtifcoifpmnabpaaDoorProg
import Derived.Test.YtifcoifpmnabpaaDoorNum
import Derived.Deep.QuietTactic
import Derived.BigQuiet
import Derived.Test.YtifcoifpmnabpaaDoorShelf
import Derived.Lib.Hide
namespace Go.Proofs.YtifcoifpmnabpaaDoor
open Go.RowKit

theorem fits_yes (man bias : Int) (w : World) (h1 : 0 ≤ man) (h2 : man ≤ 60) (h3 : -2000 ≤ bias) (h4 : bias ≤ 2000) :
    Calls Tryd.prog 14 #[.int .i64 man, .int .i64 bias] w fun e w' => e = .returned (.bool true) ∧ w = w' := by
  go_enter Tryd.func14, Tryd.ntmps14
  go_wp2
  go_ret
  exact ⟨rfl, rfl⟩

theorem fits_no (man bias : Int) (w : World) (h : ¬ (0 ≤ man ∧ man ≤ 60 ∧ -2000 ≤ bias ∧ bias ≤ 2000)) :
    Calls Tryd.prog 14 #[.int .i64 man, .int .i64 bias] w fun e w' => e = .returned (.bool false) ∧ w = w' := by
  by_cases h1 : 0 ≤ man
  · by_cases h2 : man ≤ 60
    · by_cases h3 : -2000 ≤ bias
      · have h4 : ¬ bias ≤ 2000 := by omega
        clear h
        go_enter Tryd.func14, Tryd.ntmps14
        go_wp2
        go_ret
        exact ⟨rfl, rfl⟩
      · clear h
        go_enter Tryd.func14, Tryd.ntmps14
        go_wp2
        go_ret
        exact ⟨rfl, rfl⟩
    · clear h
      go_enter Tryd.func14, Tryd.ntmps14
      go_wp2
      go_ret
      exact ⟨rfl, rfl⟩
  · clear h
    go_enter Tryd.func14, Tryd.ntmps14
    go_wp2
    go_ret
    exact ⟨rfl, rfl⟩

theorem ret3 {k1 k2 k3 : IntKind} {a b c a' b' c' : Int} (h1 : a = a') (h2 : b = b') (h3 : c = c') :
    Ending.returned (.tuple #[.int k1 a, .int k2 b, .int k3 c]) = .returned (.tuple #[.int k1 a', .int k2 b', .int k3 c']) := by
  rw [h1, h2, h3]
theorem ret2 {k1 k2 : IntKind} {a b a' b' : Int} (h1 : a = a') (h2 : b = b') :
    Ending.returned (.tuple #[.int k1 a, .int k2 b]) = .returned (.tuple #[.int k1 a', .int k2 b']) := by
  rw [h1, h2]
theorem ret1 {k1 : IntKind} {a a' : Int} (h1 : a = a') :
    Ending.returned (.int k1 a) = .returned (.int k1 a') := by
  rw [h1]

set_option maxHeartbeats 400000 in
theorem split_yes (man key : Nat) (w : World) (h1 : man ≤ 60) (hk : key < 18446744073709551616) (h2 : key / 2 ^ man ≤ 4095) :
    Calls Tryd.prog 8 #[.int .i64 man, .int .u64 key] w fun e w' => e = .returned (.tuple #[.int .u64 ((key / 2 ^ man : Nat) : Int), .int .u64 ((key % 2 ^ man : Nat) : Int), .int .i64 0]) ∧ ∃ n, w' = w.drewN n := by
  have h3 : (key : Int) / 2 ^ man ≤ 4095 := by rw [cast_shr]; omega
  go_enter Tryd.func8, Tryd.ntmps8
  go_wp2_with (go_at_call 14; refine (fits_yes _ _ _ (by omega) (by omega) (by omega) (by omega)).mono ?_; rintro e w' ⟨rfl, rfl⟩)
  go_quiet (fail)
  go_wp2
  go_ret3
  exact ⟨ret3 (cast_shr _ _) (u64_mask _ _ hk (by omega)) rfl, _, rfl⟩

theorem split_no_man (man key : Int) (w : World) (h : ¬ (0 ≤ man ∧ man ≤ 60)) :
    Calls Tryd.prog 8 #[.int .i64 man, .int .u64 key] w fun e w' => e = .returned (.tuple #[.int .u64 0, .int .u64 0, .int .i64 1]) ∧ ∃ n, w' = w.drewN n := by
  go_enter Tryd.func8, Tryd.ntmps8
  go_wp2_with (go_at_call 14; refine (fits_no _ _ _ (by omega)).mono ?_; rintro e w' ⟨rfl, rfl⟩)
  go_ret3
  exact ⟨rfl, 0, rfl⟩

theorem split_no_key (man key : Nat) (w : World) (h1 : man ≤ 60) (h2 : 4095 < key / 2 ^ man) :
    Calls Tryd.prog 8 #[.int .i64 man, .int .u64 key] w fun e w' => e = .returned (.tuple #[.int .u64 0, .int .u64 0, .int .i64 1]) ∧ ∃ n, w' = w.drewN n := by
  have h3 : 4095 < (key : Int) / 2 ^ man := by rw [cast_shr]; omega
  go_enter Tryd.func8, Tryd.ntmps8
  go_wp2_with (go_at_call 14; refine (fits_yes _ _ _ (by omega) (by omega) (by omega) (by omega)).mono ?_; rintro e w' ⟨rfl, rfl⟩)
  go_ret3
  exact ⟨rfl, 0, rfl⟩

/-- the table that TrailingZeros64 reads -/
def Tab (w : World) : Prop := ∀ j, j < Lib.deBruijn64tab.length → w.cell? ⟨0, j, none⟩ = some (.int .u8 (Lib.deBruijn64tab.getD j 0))
theorem Tab.drewN {w : World} (h : Tab w) (n : Nat) : Tab (w.drewN n) := h

theorem tz_key (x a : Nat) (hx : x < 18446744073709551616) (hx0 : x ≠ 0) (hlow : x &&& (18446744073709551616 - x) = a) :
    IntKind.u64.wrap (bits BinOp.and IntKind.u64 (x : Int) (IntKind.u64.wrap (-(x : Int))) * 285870213051353865) / 288230376151711744 = ((a * 285870213051353865 % 18446744073709551616 / 288230376151711744 : Nat) : Int) := by
  have e1 : IntKind.u64.wrap (-(x : Int)) = ((18446744073709551616 - x : Nat) : Int) := by rw [IntKind.wrap_u64]; omega
  rw [e1, bits_and_u64_nat x _ hx (by omega), hlow, IntKind.wrap_u64]
  omega

set_option maxHeartbeats 1000000 in
theorem tz_core (x k idx : Nat) (w : World) (hx0 : ((x : Int) == 0) = false)
    (key : IntKind.u64.wrap (bits BinOp.and IntKind.u64 (x : Int) (IntKind.u64.wrap (-(x : Int))) * 285870213051353865) / 288230376151711744 = (idx : Int))
    (hi : idx < 64) (hk : k < 64) (hcell : w.cell? ⟨0, idx, none⟩ = some (.int .u8 k)) :
    Calls Tryd.prog 15 #[.int .u64 x] w fun e w' => e = .returned (.int .i64 k) ∧ w = w' := by
  go_enter Tryd.func15, Tryd.ntmps15
  go_wp2_with (simp only [key])
  go_ret
  exact ⟨rfl, rfl⟩

theorem tz_any (x : Nat) (hx : x < 18446744073709551616) (hx0 : x ≠ 0) (w : World) (hT : Tab w) :
    Calls Tryd.prog 15 #[.int .u64 x] w fun e w' => e = .returned (.int .i64 (Lib.ctz 64 x)) ∧ w = w' := by
  obtain ⟨hlow, hk⟩ := Lib.lowest_bit 64 x hx0 hx
  obtain ⟨hi, htab⟩ := Lib.deBruijn64_at _ hk
  have hcell := hT _ hi
  rw [htab] at hcell
  exact tz_core x _ _ w (by simp; omega) (tz_key x _ hx hx0 hlow) hi hk hcell

theorem power_any (n : Nat) (w : World) (h : n ≤ 60) :
    Calls Tryd.prog 16 #[.int .i64 n] w fun e w' => e = .returned (.int .u64 ((2 ^ n : Nat) : Int)) ∧ w = w' := by
  go_enter Tryd.func16, Tryd.ntmps16
  go_wp2
  go_loop [3, 4] (fun x i => ∃ k : Nat, k ≤ n ∧ i = .int .i64 k ∧ x = .int .u64 ((2 ^ k : Nat) : Int)) (fun _ i => n - (intOf i).toNat)
  case atStart => exact ⟨0, Nat.zero_le _, rfl, rfl⟩
  case round =>
    obtain ⟨k, hk, rfl, rfl⟩ := hrel
    by_cases hlt : k < n
    · have hb : 2 ^ k < 2 ^ 60 := Nat.pow_lt_pow_right (by decide) (by omega)
      have hs : 2 ^ k + 2 ^ k = 2 ^ (k + 1) := by rw [Nat.pow_succ]; omega
      have HS := Lib.hid hs
      clear hs
      generalize 2 ^ k = p at *
      go_wp2
      go_round
      case rel => exact ⟨k + 1, by omega, by go_num, by rw [← HS.out]; go_num⟩
      case measure => simp [intOf]; omega
    · obtain rfl : k = n := by omega
      go_wp2
      go_ret
      exact ⟨rfl, rfl⟩

/-- the significand that a field and a mantissa make -/
def sig (man key : Nat) : Nat := if key / 2 ^ man = 0 then key % 2 ^ man else key % 2 ^ man + 2 ^ man

theorem value_zero (man : Nat) (bias : Int) (w : World) (h1 : man ≤ 60) (h3 : -2000 ≤ bias) (h4 : bias ≤ 2000) :
    Calls Tryd.prog 9 #[.int .i64 man, .int .i64 bias, .int .u64 0] w fun e w' => e = .returned (.tuple #[.int .u64 0, .int .i64 0, .int .i64 0]) ∧ ∃ n, w' = w.drewN n := by
  go_enter Tryd.func9, Tryd.ntmps9
  go_wp2_with (first
    | (go_at_call 8; refine (split_yes man 0 _ h1 (by omega) (by simp)).mono ?_; rintro e w' ⟨rfl, n, rfl⟩)
    | (go_at_call 14; refine (fits_yes _ _ _ (by omega) (by omega) (by omega) (by omega)).mono ?_; rintro e w' ⟨rfl, rfl⟩))
  go_ret3
  exact ⟨rfl, _, rfl⟩

theorem value_no_man (man bias key : Int) (w : World) (h : ¬ (0 ≤ man ∧ man ≤ 60)) :
    Calls Tryd.prog 9 #[.int .i64 man, .int .i64 bias, .int .u64 key] w fun e w' => e = .returned (.tuple #[.int .u64 0, .int .i64 0, .int .i64 1]) ∧ ∃ n, w' = w.drewN n := by
  go_enter Tryd.func9, Tryd.ntmps9
  go_wp2_with (first
    | (go_at_call 8; refine (split_no_man man key _ h).mono ?_; rintro e w' ⟨rfl, n, rfl⟩))
  go_ret3
  exact ⟨rfl, _, rfl⟩

theorem value_no_key (man key : Nat) (bias : Int) (w : World) (h1 : man ≤ 60) (h2 : 4095 < key / 2 ^ man) :
    Calls Tryd.prog 9 #[.int .i64 man, .int .i64 bias, .int .u64 key] w fun e w' => e = .returned (.tuple #[.int .u64 0, .int .i64 0, .int .i64 1]) ∧ ∃ n, w' = w.drewN n := by
  go_enter Tryd.func9, Tryd.ntmps9
  go_wp2_with (first
    | (go_at_call 8; refine (split_no_key man key _ h1 h2).mono ?_; rintro e w' ⟨rfl, n, rfl⟩))
  go_ret3
  exact ⟨rfl, _, rfl⟩

theorem value_no_bias (man key : Nat) (bias : Int) (w : World) (h1 : man ≤ 60) (hk : key < 18446744073709551616) (h2 : key / 2 ^ man ≤ 4095) (h3 : ¬ (-2000 ≤ bias ∧ bias ≤ 2000)) :
    Calls Tryd.prog 9 #[.int .i64 man, .int .i64 bias, .int .u64 key] w fun e w' => e = .returned (.tuple #[.int .u64 0, .int .i64 0, .int .i64 1]) ∧ ∃ n, w' = w.drewN n := by
  go_enter Tryd.func9, Tryd.ntmps9
  go_wp2_with (first
    | (go_at_call 8; refine (split_yes man key _ h1 hk h2).mono ?_; rintro e w' ⟨rfl, n, rfl⟩)
    | (go_at_call 14; refine (fits_no _ _ _ (by omega)).mono ?_; rintro e w' ⟨rfl, rfl⟩))
  go_ret3
  exact ⟨rfl, _, rfl⟩

theorem sig_pos (man key : Nat) (h : key ≠ 0) : sig man key ≠ 0 := by
  unfold sig
  have h0 : 0 < 2 ^ man := Nat.two_pow_pos man
  split
  · rename_i h1
    have := Nat.div_add_mod key (2 ^ man)
    rw [h1] at this
    omega
  · omega
theorem sig_lt (man key : Nat) : sig man key < 2 ^ (man + 1) := by
  unfold sig
  have h0 : 0 < 2 ^ man := Nat.two_pow_pos man
  have := Nat.mod_lt key h0
  rw [Nat.pow_succ]
  split <;> omega

theorem value_low (man key : Nat) (bias : Int) (w : World) (hT : Tab w) (h1 : man ≤ 60) (hk : key < 18446744073709551616) (h0 : ((key : Int) == 0) = false) (h2 : key / 2 ^ man = 0) (h3 : -2000 ≤ bias) (h4 : bias ≤ 2000)
    (m c : Nat) (hm : key % 2 ^ man = m) (hc : Lib.ctz 64 m = c) (hm0 : m ≠ 0) (hm1 : m < 18446744073709551616) (hc1 : c < 64) :
    Calls Tryd.prog 9 #[.int .i64 man, .int .i64 bias, .int .u64 key] w fun e w' => e = .returned (.tuple #[.int .u64 ((m / 2 ^ c : Nat) : Int), .int .i64 (1 - bias - man + c), .int .i64 0]) ∧ ∃ n, w' = w.drewN n := by
  have S := fun w => split_yes man key w h1 hk (by omega)
  rw [hm, h2] at S
  have hS := Lib.hid S
  have T := fun w hT => tz_any m hm1 hm0 w hT
  rw [hc] at T
  have hT' := Lib.hid T
  have hTab := Lib.hid hT
  clear S T hm hc hT h2
  go_enter Tryd.func9, Tryd.ntmps9
  go_wp2_with (first
    | (go_at_call 8; refine (hS.out _).mono ?_; rintro e w' ⟨rfl, n, rfl⟩)
    | (go_at_call 14; refine (fits_yes _ _ _ (by omega) (by omega) (by omega) (by omega)).mono ?_; rintro e w' ⟨rfl, rfl⟩)
    | (go_at_call 15; refine (hT'.out _ (hTab.out.drewN _)).mono ?_; rintro e w' ⟨rfl, rfl⟩))
  go_ret3
  exact ⟨ret3 (cast_shr _ _) (by omega) rfl, _, rfl⟩

theorem value_high (man key : Nat) (bias : Int) (w : World) (hT : Tab w) (h1 : man ≤ 60) (hk : key < 18446744073709551616) (h0 : ((key : Int) == 0) = false) (f : Nat) (hf : key / 2 ^ man = f) (hf1 : 1 ≤ f) (hf2 : f ≤ 4095) (h3 : -2000 ≤ bias) (h4 : bias ≤ 2000)
    (m c : Nat) (hm : key % 2 ^ man + 2 ^ man = m) (hc : Lib.ctz 64 m = c) (hm0 : m ≠ 0) (hm1 : m < 18446744073709551616) (hc1 : c < 64) :
    Calls Tryd.prog 9 #[.int .i64 man, .int .i64 bias, .int .u64 key] w fun e w' => e = .returned (.tuple #[.int .u64 ((m / 2 ^ c : Nat) : Int), .int .i64 (f - bias - man + c), .int .i64 0]) ∧ ∃ n, w' = w.drewN n := by
  have S := fun w => split_yes man key w h1 hk (by omega)
  have hor := u64_or_pow (key % 2 ^ man) man (Nat.mod_lt _ (Nat.two_pow_pos man)) (by omega)
  rw [hm] at hor
  rw [hf] at S
  generalize key % 2 ^ man = a at *
  have hS := Lib.hid S
  have T := fun w hT => tz_any m hm1 hm0 w hT
  rw [hc] at T
  have hT' := Lib.hid T
  have hTab := Lib.hid hT
  clear S T hm hc hT hf
  go_enter Tryd.func9, Tryd.ntmps9
  go_wp2_with (first
    | (go_at_call 8; refine (hS.out _).mono ?_; rintro e w' ⟨rfl, n, rfl⟩)
    | (go_at_call 14; refine (fits_yes _ _ _ (by omega) (by omega) (by omega) (by omega)).mono ?_; rintro e w' ⟨rfl, rfl⟩)
    | (go_at_call 15; refine (hT'.out _ (hTab.out.drewN _)).mono ?_; rintro e w' ⟨rfl, rfl⟩))
  go_ret3
  exact ⟨ret3 (cast_shr _ _) (by omega) rfl, _, rfl⟩

/-- Value, of what fits -/
theorem value_yes (man key : Nat) (bias : Int) (w : World) (hT : Tab w) (h1 : man ≤ 60) (hk : key < 18446744073709551616) (h0 : key ≠ 0) (h2 : key / 2 ^ man ≤ 4095) (h3 : -2000 ≤ bias) (h4 : bias ≤ 2000)
    (c : Nat) (hc : Lib.ctz 64 (sig man key) = c) :
    Calls Tryd.prog 9 #[.int .i64 man, .int .i64 bias, .int .u64 key] w fun e w' => e = .returned (.tuple #[.int .u64 ((sig man key / 2 ^ c : Nat) : Int), .int .i64 (((max (key / 2 ^ man) 1 : Nat) : Int) - bias - man + c), .int .i64 0]) ∧ ∃ n, w' = w.drewN n := by
  have hp := sig_pos man key h0
  have hl := sig_lt man key
  have h64 : 2 ^ (man + 1) ≤ 2 ^ 64 := Nat.pow_le_pow_right (by decide) (by omega)
  have hc1 : c < 64 := by obtain ⟨k, m, _, hk, h, _⟩ := odd_parts _ hp (by omega); omega
  by_cases hf : key / 2 ^ man = 0
  · have e : sig man key = key % 2 ^ man := by simp [sig, hf]
    rw [e] at hc hp hl ⊢
    rw [hf]
    exact value_low man key bias w hT h1 hk (by simpa using h0) hf h3 h4 _ c rfl hc hp (by omega) hc1
  · have e : sig man key = key % 2 ^ man + 2 ^ man := by simp [sig, hf]
    rw [e] at hc hp hl ⊢
    rw [show max (key / 2 ^ man) 1 = key / 2 ^ man from Nat.max_eq_left (Nat.one_le_iff_ne_zero.2 hf)]
    exact value_high man key bias w hT h1 hk (by simpa using h0) _ rfl (Nat.one_le_iff_ne_zero.2 hf) h2 h3 h4 _ c rfl hc hp (by omega) hc1

/-- Key: what may not be, and 0 -/
theorem key_no (man bias m e : Int) (w : World) (h : ¬ (0 ≤ man ∧ man ≤ 60 ∧ -2000 ≤ bias ∧ bias ≤ 2000)) :
    Calls Tryd.prog 13 #[.int .i64 man, .int .i64 bias, .int .u64 m, .int .i64 e] w fun e w' => e = .returned (.tuple #[.int .u64 0, .int .i64 1]) ∧ ∃ n, w' = w.drewN n := by
  go_enter Tryd.func13, Tryd.ntmps13
  go_wp2_with (first
    | (go_at_call 14; refine (fits_no _ _ _ h).mono ?_; rintro e w' ⟨rfl, rfl⟩))
  go_ret2
  exact ⟨rfl, 0, rfl⟩
theorem key_zero (man bias e : Int) (w : World) (h1 : 0 ≤ man) (h2 : man ≤ 60) (h3 : -2000 ≤ bias) (h4 : bias ≤ 2000) :
    Calls Tryd.prog 13 #[.int .i64 man, .int .i64 bias, .int .u64 0, .int .i64 e] w fun e w' => e = .returned (.tuple #[.int .u64 0, .int .i64 0]) ∧ ∃ n, w' = w.drewN n := by
  go_enter Tryd.func13, Tryd.ntmps13
  go_wp2_with (first
    | (go_at_call 14; refine (fits_yes _ _ _ h1 h2 h3 h4).mono ?_; rintro e w' ⟨rfl, rfl⟩))
  go_ret2
  exact ⟨rfl, 0, rfl⟩

theorem len_any (x : Nat) (w : World) (h1 : x < 18446744073709551616) (n : Nat) (hn : Lib.bitLen x = n) :
    Calls Tryd.prog 17 #[.int .u64 x] w fun e w' => e = .returned (.int .i64 n) ∧ w = w' :=
  (Tryd.bits_Len64 x w (by omega) (by omega)).mono fun e w' ⟨h, hw⟩ => ⟨by rw [h, Int.toNat_natCast, hn], hw.symm⟩

/-- Key of a number that has none: an odd number and a power that does not fit -/
theorem key_none (man : Nat) (bias e : Int) (m : Nat) (w : World) (hT : Tab w) (h1 : man ≤ 60) (h3 : -2000 ≤ bias) (h4 : bias ≤ 2000)
    (m0 : ((m : Int) == 0) = false) (m1 : m < 18446744073709551616) (e1 : -10000 ≤ e) (e2 : e ≤ 10000) (hz : Lib.ctz 64 m = 0) (size : Nat) (hs : Lib.bitLen m = size + 1) (hs1 : size < 64)
    (hno : e < max (e + size - man) (1 - bias - man)) :
    Calls Tryd.prog 13 #[.int .i64 man, .int .i64 bias, .int .u64 m, .int .i64 e] w fun e w' => e = .returned (.tuple #[.int .u64 0, .int .i64 8]) ∧ ∃ n, w' = w.drewN n := by
  have T := fun w hT => tz_any m m1 (by rintro rfl; simp at m0) w hT
  rw [hz] at T
  have hT' := Lib.hid T
  have hTab := Lib.hid hT
  have hL := Lib.hid (fun w => len_any m w m1 _ hs)
  clear T hz hT hs
  go_enter Tryd.func13, Tryd.ntmps13
  go_wp2_with (first
    | (go_at_call 14; refine (fits_yes _ _ _ (by omega) (by omega) (by omega) (by omega)).mono ?_; rintro e w' ⟨rfl, rfl⟩)
    | (go_at_call 15; refine (hT'.out _ hTab.out).mono ?_; rintro e w' ⟨rfl, rfl⟩)
    | (go_at_call 17; refine (hL.out _).mono ?_; rintro e w' ⟨rfl, rfl⟩))
  go_ret2
  exact ⟨rfl, 0, rfl⟩

/-- Key of a number whose field is 0 -/
theorem key_small (man : Nat) (bias e : Int) (m : Nat) (w : World) (hT : Tab w) (h1 : man ≤ 60) (h3 : -2000 ≤ bias) (h4 : bias ≤ 2000)
    (m0 : ((m : Int) == 0) = false) (m1 : m < 18446744073709551616) (e1 : -10000 ≤ e) (e2 : e ≤ 10000) (hz : Lib.ctz 64 m = 0) (size : Nat) (hs : Lib.bitLen m = size + 1) (hs1 : size < 64)
    (low : Int) (hlow : max (e + size - man) (1 - bias - man) = low) (hl1 : low ≤ e) (hl2 : e - low ≤ 63) (hf : e + size - man ≤ 4095 - bias - man)
    (m2 : Nat) (hm2 : IntKind.u64.wrap ((m : Int) * 2 ^ (e - low).toNat) = (m2 : Int))
    (hq : ((m2 : Int) / 2 ^ man == 0) = true) :
    Calls Tryd.prog 13 #[.int .i64 man, .int .i64 bias, .int .u64 m, .int .i64 e] w fun e w' => e = .returned (.tuple #[.int .u64 m2, .int .i64 0]) ∧ ∃ n, w' = w.drewN n := by
  have T := fun w hT => tz_any m m1 (by rintro rfl; simp at m0) w hT
  rw [hz] at T
  have hT' := Lib.hid T
  have hTab := Lib.hid hT
  have hL := Lib.hid (fun w => len_any m w m1 _ hs)
  clear T hz hT hs
  go_enter Tryd.func13, Tryd.ntmps13
  go_wp2_with (first
    | (go_at_call 14; refine (fits_yes _ _ _ (by omega) (by omega) (by omega) (by omega)).mono ?_; rintro e w' ⟨rfl, rfl⟩)
    | (go_at_call 15; refine (hT'.out _ hTab.out).mono ?_; rintro e w' ⟨rfl, rfl⟩)
    | (go_at_call 17; refine (hL.out _).mono ?_; rintro e w' ⟨rfl, rfl⟩))
  go_ret2
  exact ⟨rfl, 0, rfl⟩
/-- Key of a number whose field is not 0 -/
theorem key_large (man : Nat) (bias e : Int) (m : Nat) (w : World) (hT : Tab w) (h1 : man ≤ 60) (h3 : -2000 ≤ bias) (h4 : bias ≤ 2000)
    (m0 : ((m : Int) == 0) = false) (m1 : m < 18446744073709551616) (e1 : -10000 ≤ e) (e2 : e ≤ 10000) (hz : Lib.ctz 64 m = 0) (size : Nat) (hs : Lib.bitLen m = size + 1) (hs1 : size < 64)
    (low : Int) (hlow : max (e + size - man) (1 - bias - man) = low) (hl1 : low ≤ e) (hl2 : e - low ≤ 63) (hf : e + size - man ≤ 4095 - bias - man)
    (m2 : Nat) (hm2 : IntKind.u64.wrap ((m : Int) * 2 ^ (e - low).toNat) = (m2 : Int))
    (hb1 : 0 ≤ low + bias + man) (hb2 : low + bias + man ≤ 5000) (hq : ((m2 : Int) / 2 ^ man == 0) = false) (r : Nat)
    (hr : bits .or .u64 (IntKind.u64.wrap ((low + bias + man) * 2 ^ man)) (bits .andNot .u64 m2 (IntKind.u64.wrap (2 ^ man))) = (r : Int)) :
    Calls Tryd.prog 13 #[.int .i64 man, .int .i64 bias, .int .u64 m, .int .i64 e] w fun e w' => e = .returned (.tuple #[.int .u64 r, .int .i64 0]) ∧ ∃ n, w' = w.drewN n := by
  have T := fun w hT => tz_any m m1 (by rintro rfl; simp at m0) w hT
  rw [hz] at T
  have hT' := Lib.hid T
  have hTab := Lib.hid hT
  have hL := Lib.hid (fun w => len_any m w m1 _ hs)
  clear T hz hT hs
  go_enter Tryd.func13, Tryd.ntmps13
  go_wp2_with (first
    | (go_at_call 14; refine (fits_yes _ _ _ (by omega) (by omega) (by omega) (by omega)).mono ?_; rintro e w' ⟨rfl, rfl⟩)
    | (go_at_call 15; refine (hT'.out _ hTab.out).mono ?_; rintro e w' ⟨rfl, rfl⟩)
    | (go_at_call 17; refine (hL.out _).mono ?_; rintro e w' ⟨rfl, rfl⟩))
  go_quiet (fail)
  go_wp2
  go_ret2
  exact ⟨rfl, _, rfl⟩
end Go.Proofs.YtifcoifpmnabpaaDoor

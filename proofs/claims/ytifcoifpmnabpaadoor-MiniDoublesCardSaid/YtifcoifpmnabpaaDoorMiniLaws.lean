/- The laws MiniTells, MiniBack, MiniRises, MiniDoubles walked: each answers true. Conditions: the table of math-bits lies as the program's text lays it. -/
import Derived.Test.YtifcoifpmnabpaaDoorMiniRef
namespace Go.Proofs.YtifcoifpmnabpaaDoor
open Go.RowKit

theorem ref_value_zero (man : Nat) (bias : Int) (w : World) (h1 : man ≤ 60) (h3 : -2000 ≤ bias) (h4 : bias ≤ 2000) :
    Calls Tryd.prog 12 #[.int .i64 man, .int .i64 bias, .int .u64 0] w fun e w' => e = .returned (.tuple #[.int .u64 0, .int .i64 0]) ∧ ∃ n, w' = w.drewN n := by
  have S := Lib.hid (fun w => show Calls Tryd.prog 11 #[.int .i64 man, .int .u64 0] w fun e w' => e = .returned (.tuple #[.int .u64 0, .int .u64 0]) ∧ ∃ n, w' = w.drewN n by simpa using ref_split man 0 w h1 (by decide))
  go_enter Tryd.func12, Tryd.ntmps12
  go_wp2_with (first
    | (go_at_call 11; refine (S.out _).mono ?_; rintro e w' ⟨rfl, n, rfl⟩))
  go_ret2
  exact ⟨rfl, _, rfl⟩

theorem ref_value_yes (man key : Nat) (bias : Int) (w : World) (h1 : man ≤ 60) (hk : key < 18446744073709551616) (h0 : key ≠ 0) (h2 : key / 2 ^ man ≤ 4095) (h3 : -2000 ≤ bias) (h4 : bias ≤ 2000)
    (c : Nat) (hc : Lib.ctz 64 (sig man key) = c) :
    Calls Tryd.prog 12 #[.int .i64 man, .int .i64 bias, .int .u64 key] w fun e w' => e = .returned (.tuple #[.int .u64 ((sig man key / 2 ^ c : Nat) : Int), .int .i64 (((max (key / 2 ^ man) 1 : Nat) : Int) - bias - man + c)]) ∧ ∃ n, w' = w.drewN n := by
  have hp := sig_pos man key h0
  have hl := sig_lt man key
  have h64 : 2 ^ (man + 1) ≤ 2 ^ 64 := Nat.pow_le_pow_right (by decide) (by omega)
  obtain ⟨k, q, e1, e2, hk64, e3⟩ := odd_parts _ hp (by omega)
  obtain rfl : k = c := by omega
  rw [e3]
  by_cases hf : key / 2 ^ man = 0
  · have e : sig man key = key % 2 ^ man := by simp [sig, hf]
    rw [hf]
    exact ref_value_low man key bias w h1 hk h3 h4 hf k q hk64 (by rw [← e, ← e1]) (by omega)
  · have e : sig man key = key % 2 ^ man + 2 ^ man := by simp [sig, hf]
    rw [show max (key / 2 ^ man) 1 = key / 2 ^ man from Nat.max_eq_left (Nat.one_le_iff_ne_zero.2 hf)]
    exact ref_value_high man key bias w h1 hk h3 h4 _ rfl (Nat.one_le_iff_ne_zero.2 hf) h2 k q hk64 (by rw [← e, ← e1]) (by omega)

theorem tells_no_man (man bias key : Int) (w : World) (hT : Tab w) (h : ¬ (0 ≤ man ∧ man ≤ 60)) :
    Calls Tryd.prog 3 #[.int .i64 man, .int .i64 bias, .int .u64 key] w fun e w' => e = .returned (.bool true) ∧ ∃ n, w' = w.drewN n := by
  have hTab := Lib.hid hT
  clear hT
  go_enter Tryd.func3, Tryd.ntmps3
  go_wp2_with (first
    | (go_at_call 7; refine (shown_true _ hTab.out).mono ?_; rintro e w' ⟨rfl, n1, rfl⟩)
    | (go_at_call 8; refine (split_no_man _ _ _ h).mono ?_; rintro e w' ⟨rfl, n2, rfl⟩)
    | (go_at_call 9; refine (value_no_man _ _ _ _ h).mono ?_; rintro e w' ⟨rfl, n3, rfl⟩)
    | (go_at_call 10; refine (ref_fits_no _ _ _ _ (by omega)).mono ?_; rintro e w' ⟨rfl, rfl⟩))
  go_ret
  exact ⟨rfl, _, rfl⟩
theorem tells_no_key (man key : Nat) (bias : Int) (w : World) (hT : Tab w) (h1 : man ≤ 60) (h2 : 4095 < key / 2 ^ man) :
    Calls Tryd.prog 3 #[.int .i64 man, .int .i64 bias, .int .u64 key] w fun e w' => e = .returned (.bool true) ∧ ∃ n, w' = w.drewN n := by
  have hTab := Lib.hid hT
  have H2 := Lib.hid h2
  clear hT h2
  go_enter Tryd.func3, Tryd.ntmps3
  go_wp2_with (first
    | (go_at_call 7; refine (shown_true _ hTab.out).mono ?_; rintro e w' ⟨rfl, n1, rfl⟩)
    | (go_at_call 8; refine (split_no_key _ _ _ h1 H2.out).mono ?_; rintro e w' ⟨rfl, n2, rfl⟩)
    | (go_at_call 9; refine (value_no_key _ _ _ _ h1 H2.out).mono ?_; rintro e w' ⟨rfl, n3, rfl⟩)
    | (go_at_call 10; refine (ref_fits_no_key _ _ _ _ h1 (by decide) (by decide) H2.out).mono ?_; rintro e w' ⟨rfl, rfl⟩))
  go_ret
  exact ⟨rfl, _, rfl⟩
theorem tells_no_bias (man key : Nat) (bias : Int) (w : World) (hT : Tab w) (h1 : man ≤ 60) (hk : key < 18446744073709551616) (h2 : key / 2 ^ man ≤ 4095) (h : ¬ (-2000 ≤ bias ∧ bias ≤ 2000)) :
    Calls Tryd.prog 3 #[.int .i64 man, .int .i64 bias, .int .u64 key] w fun e w' => e = .returned (.bool true) ∧ ∃ n, w' = w.drewN n := by
  have hTab := Lib.hid hT
  have S := Lib.hid (fun w => split_yes man key w h1 hk h2)
  have R := Lib.hid (fun w => ref_split man key w h1 hk)
  have V := Lib.hid (fun w => value_no_bias man key bias w h1 hk h2 h)
  have F := Lib.hid (fun w => ref_fits_yes man key 0 w h1 (by decide) (by decide) h2)
  clear hT h2
  generalize key / 2 ^ man = a at *
  generalize key % 2 ^ man = b at *
  go_enter Tryd.func3, Tryd.ntmps3
  go_wp2_with fail
  refine (shown_true _ hTab.out).mono ?_; rintro e w' ⟨rfl, n1, rfl⟩
  go_wp2_with fail
  refine (S.out _).mono ?_; rintro e w' ⟨rfl, n2, rfl⟩
  go_wp2_with fail
  refine (V.out _).mono ?_; rintro e w' ⟨rfl, n3, rfl⟩
  go_wp2_with fail
  refine (F.out _).mono ?_; rintro e w' ⟨rfl, rfl⟩
  go_wp2_with fail
  refine (R.out _).mono ?_; rintro e w' ⟨rfl, n4, rfl⟩
  go_wp2_with fail
  refine (ref_fits_no _ _ _ _ (by omega)).mono ?_; rintro e w' ⟨rfl, rfl⟩
  go_wp2_with fail
  go_ret
  exact ⟨rfl, _, rfl⟩
theorem tells_yes (man key : Nat) (bias : Int) (w : World) (hT : Tab w) (h1 : man ≤ 60) (hk : key < 18446744073709551616) (h2 : key / 2 ^ man ≤ 4095) (h3 : -2000 ≤ bias) (h4 : bias ≤ 2000) (m : Nat) (x : Int)
    (V : ∀ w, Tab w → Calls Tryd.prog 9 #[.int .i64 man, .int .i64 bias, .int .u64 key] w fun e w' => e = .returned (.tuple #[.int .u64 m, .int .i64 x, .int .i64 0]) ∧ ∃ n, w' = w.drewN n)
    (Y : ∀ w, Calls Tryd.prog 12 #[.int .i64 man, .int .i64 bias, .int .u64 key] w fun e w' => e = .returned (.tuple #[.int .u64 m, .int .i64 x]) ∧ ∃ n, w' = w.drewN n) :
    Calls Tryd.prog 3 #[.int .i64 man, .int .i64 bias, .int .u64 key] w fun e w' => e = .returned (.bool true) ∧ ∃ n, w' = w.drewN n := by
  have hTab := Lib.hid hT
  have S := Lib.hid (fun w => split_yes man key w h1 hk h2)
  have R := Lib.hid (fun w => ref_split man key w h1 hk)
  have F := Lib.hid (fun w => ref_fits_yes man key 0 w h1 (by decide) (by decide) h2)
  have G := Lib.hid (fun w => ref_fits_yes man key bias w h1 h3 h4 h2)
  have V' := Lib.hid V
  have Y' := Lib.hid Y
  clear hT h2 V Y
  generalize key / 2 ^ man = a at *
  generalize key % 2 ^ man = b at *
  go_enter Tryd.func3, Tryd.ntmps3
  go_wp2_with fail
  refine (shown_true _ hTab.out).mono ?_; rintro e w' ⟨rfl, n1, rfl⟩
  go_wp2_with fail
  refine (S.out _).mono ?_; rintro e w' ⟨rfl, n2, rfl⟩
  go_wp2_with fail
  refine (V'.out _ (hTab.out.drewN _)).mono ?_; rintro e w' ⟨rfl, n3, rfl⟩
  go_wp2_with fail
  refine (F.out _).mono ?_; rintro e w' ⟨rfl, rfl⟩
  go_wp2_with fail
  refine (R.out _).mono ?_; rintro e w' ⟨rfl, n4, rfl⟩
  go_wp2_with fail
  refine (G.out _).mono ?_; rintro e w' ⟨rfl, rfl⟩
  go_wp2_with fail
  refine (Y'.out _).mono ?_; rintro e w' ⟨rfl, n5, rfl⟩
  go_wp2_with fail
  go_ret
  exact ⟨rfl, _, rfl⟩

/-- MiniTells answers true. -/
theorem tells_any (man bias : Int) (key : Nat) (hk : key < 18446744073709551616) (w : World) (hT : Tab w) :
    Calls Tryd.prog 3 #[.int .i64 man, .int .i64 bias, .int .u64 key] w fun e w' => e = .returned (.bool true) ∧ ∃ n, w' = w.drewN n := by
  by_cases h : 0 ≤ man ∧ man ≤ 60
  · obtain ⟨man, rfl⟩ := Int.eq_ofNat_of_zero_le h.1
    have h1 : man ≤ 60 := by omega
    by_cases h2 : key / 2 ^ man ≤ 4095
    · by_cases h3 : -2000 ≤ bias ∧ bias ≤ 2000
      · by_cases h0 : key = 0
        · subst h0
          exact tells_yes man 0 bias w hT h1 hk h2 h3.1 h3.2 0 0 (fun w _ => value_zero man bias w h1 h3.1 h3.2) (fun w => ref_value_zero man bias w h1 h3.1 h3.2)
        · exact tells_yes man key bias w hT h1 hk h2 h3.1 h3.2 _ _ (fun w hT => value_yes man key bias w hT h1 hk h0 h2 h3.1 h3.2 _ rfl) (fun w => ref_value_yes man key bias w h1 hk h0 h2 h3.1 h3.2 _ rfl)
      · exact tells_no_bias man key bias w hT h1 hk h2 h3
    · exact tells_no_key man key bias w hT h1 (Nat.lt_of_not_le h2)
  · exact tells_no_man man bias key w hT h

theorem u64_nat {a : Int} (h : (Lit.int .u64 a).wf = true) : ∃ n : Nat, a = n ∧ n < 18446744073709551616 := by
  simp [Lit.wf, IntKind.min, IntKind.max, IntKind.signed, IntKind.bits] at h
  exact ⟨a.toNat, by omega, by omega⟩
theorem walk_MiniTells (a0 : Int) (_ : (Lit.int .i64 a0).wf = true) (a1 : Int) (_ : (Lit.int .i64 a1).wf = true) (a2 : Int) (w2 : (Lit.int .u64 a2).wf = true) (w : World) (hT : Tab w) :
    Calls Tryd.prog 3 #[.int .i64 a0, .int .i64 a1, .int .u64 a2] w fun e w' => e = .returned (.bool true) ∧ ∃ n, w' = w.drewN n := by
  obtain ⟨k, rfl, hk⟩ := u64_nat w2
  exact tells_any a0 a1 k hk w hT
end Go.Proofs.YtifcoifpmnabpaaDoor

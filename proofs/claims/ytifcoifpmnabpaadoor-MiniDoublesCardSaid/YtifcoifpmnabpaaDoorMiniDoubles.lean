/- MiniDoubles walked: a field more is twice as much. Conditions: the table of math-bits lies as the text lays it. -/
import Derived.Test.YtifcoifpmnabpaaDoorMiniLaws
set_option linter.unusedVariables false
namespace Go.Proofs.YtifcoifpmnabpaaDoor
open Go.RowKit

theorem and63 (x : Int) : ∃ b : Nat, bits .and .i64 x 63 = (b : Int) ∧ b ≤ 63 := by
  refine ⟨(BitVec.ofInt 64 x &&& BitVec.ofInt 64 63).toNat, ?_, ?_⟩
  · show IntKind.i64.wrap ((BitVec.ofInt 64 x &&& BitVec.ofInt 64 63).toNat : Int) = _
    have h : (BitVec.ofInt 64 x &&& BitVec.ofInt 64 63).toNat ≤ 63 := by
      rw [BitVec.toNat_and]; exact Nat.and_le_right
    rw [IntKind.wrap_i64]; omega
  · rw [BitVec.toNat_and]; exact Nat.and_le_right
theorem and63_id (x : Nat) (h : x ≤ 63) : bits .and .i64 (x : Int) 63 = (x : Int) := by
  show IntKind.i64.wrap ((BitVec.ofInt 64 (x : Int) &&& BitVec.ofInt 64 63).toNat : Int) = _
  have h1 : (BitVec.ofInt 64 (x : Int)).toNat = x := by
    rw [BitVec.ofInt_natCast, BitVec.toNat_ofNat]; exact Nat.mod_eq_of_lt (by omega)
  have h2 : (BitVec.ofInt 64 63).toNat = 2 ^ 6 - 1 := by decide
  rw [BitVec.toNat_and, h1, h2, Nat.and_two_pow_sub_one_eq_mod, Nat.mod_eq_of_lt (by omega), IntKind.wrap_i64]
  omega

theorem doubles_no (man bias key : Int) (w : World) (hT : Tab w)
    (S : ∀ w, Calls Tryd.prog 8 #[.int .i64 man, .int .u64 key] w fun e w' => e = .returned (.tuple #[.int .u64 0, .int .u64 0, .int .i64 1]) ∧ ∃ n, w' = w.drewN n) :
    Calls Tryd.prog 6 #[.int .i64 man, .int .i64 bias, .int .u64 key] w fun e w' => e = .returned (.bool true) ∧ ∃ n, w' = w.drewN n := by
  obtain ⟨b, hb, hb1⟩ := and63 man
  have hTab := Lib.hid hT
  have S' := Lib.hid S
  clear hT S
  go_enter Tryd.func6, Tryd.ntmps6
  go_wp2_with fail
  refine (shown_true _ hTab.out).mono ?_; rintro e w' ⟨rfl, n1, rfl⟩
  go_wp2_with fail
  refine (S'.out _).mono ?_; rintro e w' ⟨rfl, n2, rfl⟩
  go_wp2_with fail
  go_ret
  exact ⟨rfl, _, rfl⟩

theorem doubles_edge (man key : Nat) (bias : Int) (w : World) (hT : Tab w) (hm : man ≤ 60) (f a nx : Nat)
    (S : ∀ w, Calls Tryd.prog 8 #[.int .i64 man, .int .u64 key] w fun e w' => e = .returned (.tuple #[.int .u64 f, .int .u64 a, .int .i64 0]) ∧ ∃ n, w' = w.drewN n)
    (hnx : IntKind.u64.wrap ((key : Int) + IntKind.u64.wrap (2 ^ man)) = (nx : Int))
    (he : ((f : Int) == 0) = true ∨ ((f : Int) == 0) = false ∧ ((f : Int) == 4095) = true ∨ ((f : Int) == 0) = false ∧ ((f : Int) == 4095) = false ∧ nx < key) :
    Calls Tryd.prog 6 #[.int .i64 man, .int .i64 bias, .int .u64 key] w fun e w' => e = .returned (.bool true) ∧ ∃ n, w' = w.drewN n := by
  have hb := and63_id man (by omega)
  have hTab := Lib.hid hT
  have S' := Lib.hid S
  clear hT S
  rcases he with he | ⟨he1, he2⟩ | ⟨he1, he2, he3⟩
  all_goals
    go_enter Tryd.func6, Tryd.ntmps6
    go_wp2_with fail
    refine (shown_true _ hTab.out).mono ?_; rintro e w' ⟨rfl, n1, rfl⟩
    go_wp2_with fail
    refine (S'.out _).mono ?_; rintro e w' ⟨rfl, n2, rfl⟩
    go_wp2_with fail
    go_ret
    exact ⟨rfl, _, rfl⟩

theorem doubles_both (man key : Nat) (bias : Int) (w : World) (hT : Tab w) (hm : man ≤ 60) (f a nx : Nat) (m x y : Int) (g : Int)
    (S : ∀ w, Calls Tryd.prog 8 #[.int .i64 man, .int .u64 key] w fun e w' => e = .returned (.tuple #[.int .u64 f, .int .u64 a, .int .i64 0]) ∧ ∃ n, w' = w.drewN n)
    (V : ∀ w, Tab w → Calls Tryd.prog 9 #[.int .i64 man, .int .i64 bias, .int .u64 key] w fun e w' => e = .returned (.tuple #[.int .u64 m, .int .i64 x, .int .i64 g]) ∧ ∃ n, w' = w.drewN n)
    (V2 : ∀ w, Tab w → Calls Tryd.prog 9 #[.int .i64 man, .int .i64 bias, .int .u64 nx] w fun e w' => e = .returned (.tuple #[.int .u64 m, .int .i64 y, .int .i64 g]) ∧ ∃ n, w' = w.drewN n)
    (hnx : IntKind.u64.wrap ((key : Int) + IntKind.u64.wrap (2 ^ man)) = (nx : Int))
    (he1 : ((f : Int) == 0) = false) (he2 : ((f : Int) == 4095) = false) (he3 : key ≤ nx)
    (hg : (g != 0) = true ∨ ((g != 0) = false ∧ (g == 0) = true ∧ y = x + 1 ∧ -10000 ≤ x ∧ x ≤ 10000)) :
    Calls Tryd.prog 6 #[.int .i64 man, .int .i64 bias, .int .u64 key] w fun e w' => e = .returned (.bool true) ∧ ∃ n, w' = w.drewN n := by
  have hb := and63_id man (by omega)
  have hTab := Lib.hid hT
  have S' := Lib.hid S
  have V' := Lib.hid V
  have V2' := Lib.hid V2
  clear hT S V V2
  rcases hg with hg | ⟨hg1, hg2, hy, hx1, hx2⟩
  · go_enter Tryd.func6, Tryd.ntmps6
    go_wp2_with fail
    refine (shown_true _ hTab.out).mono ?_; rintro e w' ⟨rfl, n1, rfl⟩
    go_wp2_with fail
    refine (S'.out _).mono ?_; rintro e w' ⟨rfl, n2, rfl⟩
    go_wp2_with fail
    refine (V'.out _ (hTab.out.drewN _)).mono ?_; rintro e w' ⟨rfl, n3, rfl⟩
    go_wp2_with fail
    refine (V2'.out _ (hTab.out.drewN _)).mono ?_; rintro e w' ⟨rfl, n4, rfl⟩
    go_wp2_with fail
    go_ret
    exact ⟨rfl, _, rfl⟩
  · have hxy : (y == x + 1) = true := by simp [hy]
    clear hy
    go_enter Tryd.func6, Tryd.ntmps6
    go_wp2_with fail
    refine (shown_true _ hTab.out).mono ?_; rintro e w' ⟨rfl, n1, rfl⟩
    go_wp2_with fail
    refine (S'.out _).mono ?_; rintro e w' ⟨rfl, n2, rfl⟩
    go_wp2_with fail
    refine (V'.out _ (hTab.out.drewN _)).mono ?_; rintro e w' ⟨rfl, n3, rfl⟩
    go_wp2_with fail
    refine (V2'.out _ (hTab.out.drewN _)).mono ?_; rintro e w' ⟨rfl, n4, rfl⟩
    go_wp2_with fail
    go_ret
    exact ⟨rfl, _, rfl⟩

/-- MiniDoubles answers true. -/
theorem doubles_any (man bias : Int) (key : Nat) (hk : key < 18446744073709551616) (w : World) (hT : Tab w) :
    Calls Tryd.prog 6 #[.int .i64 man, .int .i64 bias, .int .u64 key] w fun e w' => e = .returned (.bool true) ∧ ∃ n, w' = w.drewN n := by
  by_cases h : 0 ≤ man ∧ man ≤ 60
  · obtain ⟨man, rfl⟩ := Int.eq_ofNat_of_zero_le h.1
    have h1 : man ≤ 60 := by omega
    have hpm : 0 < 2 ^ man := Nat.two_pow_pos man
    have hp64 : 2 ^ man < 18446744073709551616 := pow_lt64 (by omega)
    have hnx : IntKind.u64.wrap ((key : Int) + IntKind.u64.wrap (2 ^ man)) = (((key + 2 ^ man) % 18446744073709551616 : Nat) : Int) := by
      rw [wrap_pow (by omega), ← Int.natCast_add, wrap_u64_mod]
    by_cases h2 : key / 2 ^ man ≤ 4095
    · have S := fun w => split_yes man key w h1 hk h2
      have hmd := Nat.mod_lt key hpm
      by_cases f0 : key / 2 ^ man = 0
      · exact doubles_edge man key bias w hT h1 _ _ _ S hnx (Or.inl (by rw [f0]; rfl))
      · by_cases f1 : key / 2 ^ man = 4095
        · exact doubles_edge man key bias w hT h1 _ _ _ S hnx (Or.inr (Or.inl ⟨by rw [f1]; rfl, by rw [f1]; rfl⟩))
        · have g0 : (((key / 2 ^ man : Nat) : Int) == 0) = false := by generalize key / 2 ^ man = f at *; simp; omega
          have g1 : (((key / 2 ^ man : Nat) : Int) == 4095) = false := by generalize key / 2 ^ man = f at *; simp; omega
          by_cases hov : key + 2 ^ man < 18446744073709551616
          · have e : (key + 2 ^ man) % 18446744073709551616 = key + 2 ^ man := Nat.mod_eq_of_lt hov
            rw [e] at hnx
            have d1 : (key + 2 ^ man) / 2 ^ man = key / 2 ^ man + 1 := Nat.add_div_right _ hpm
            have d2 : (key + 2 ^ man) % 2 ^ man = key % 2 ^ man := Nat.add_mod_right _ _
            have s1 : sig man (key + 2 ^ man) = sig man key := by
              unfold sig
              rw [d1, d2, if_neg (Nat.succ_ne_zero _), if_neg f0]
            have k0 : key ≠ 0 := by rintro rfl; simp at f0
            have hb2 : (key + 2 ^ man) / 2 ^ man ≤ 4095 := by rw [d1]; generalize key / 2 ^ man = f at *; omega
            by_cases h3 : -2000 ≤ bias ∧ bias ≤ 2000
            · have V := fun w hT => value_yes man key bias w hT h1 hk k0 h2 h3.1 h3.2 _ rfl
              have V2 := fun w hT => value_yes man (key + 2 ^ man) bias w hT h1 hov (by omega) hb2 h3.1 h3.2 _ rfl
              rw [s1, d1] at V2
              have hp := sig_pos man key k0
              have hl := sig_lt man key
              have h64 : 2 ^ (man + 1) ≤ 2 ^ 61 := Nat.pow_le_pow_right (by decide) (by omega)
              obtain ⟨k, q, e1, e2, hk64, e3⟩ := odd_parts _ hp (by omega)
              rw [e2] at V V2
              refine doubles_both man key bias w hT h1 _ _ (key + 2 ^ man) _ _ _ 0 S V V2 hnx g0 g1 (by omega) (Or.inr ⟨rfl, rfl, ?_, ?_, ?_⟩)
              all_goals (generalize key / 2 ^ man = f at *; omega)
            · exact doubles_both man key bias w hT h1 _ _ (key + 2 ^ man) 0 0 0 1 S (fun w _ => value_no_bias man key bias w h1 hk h2 h3) (fun w _ => value_no_bias man (key + 2 ^ man) bias w h1 hov hb2 h3) hnx g0 g1 (by omega) (Or.inl rfl)
          · exact doubles_edge man key bias w hT h1 _ _ _ S hnx (Or.inr (Or.inr ⟨g0, g1, by omega⟩))
    · exact doubles_no man bias key w hT (fun w => split_no_key man key w h1 (Nat.lt_of_not_le h2))
  · exact doubles_no man bias key w hT (fun w => split_no_man man key w h)
theorem walk_MiniDoubles (a0 : Int) (_ : (Lit.int .i64 a0).wf = true) (a1 : Int) (_ : (Lit.int .i64 a1).wf = true) (a2 : Int) (w2 : (Lit.int .u64 a2).wf = true) (w : World) (hT : Tab w) :
    Calls Tryd.prog 6 #[.int .i64 a0, .int .i64 a1, .int .u64 a2] w fun e w' => e = .returned (.bool true) ∧ ∃ n, w' = w.drewN n := by
  obtain ⟨k, rfl, hk⟩ := u64_nat w2
  exact doubles_any a0 a1 k hk w hT
end Go.Proofs.YtifcoifpmnabpaaDoor

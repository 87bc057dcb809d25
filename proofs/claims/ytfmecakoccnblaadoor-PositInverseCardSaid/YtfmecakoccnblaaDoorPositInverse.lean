/- PositInverse walked: the magnitude of one over a power of two is that of the power turned. Conditions: the table of math-bits lies as the text lays it. -/
import Derived.Test.YtfmecakoccnblaaDoorPositKeys
set_option linter.unusedVariables false
namespace Go.Proofs.YtfmecakoccnblaaDoor
open Go.RowKit

theorem W_turn_neg {n key : Nat} (h1 : 2 ≤ n) (h2 : n ≤ 64) (h3 : 0 < key) (h5 : key < 2 ^ (n - 1)) : fW n (2 ^ n - key) = -fW n key := by
  have hp := pow_pred (n := n) (by omega)
  obtain ⟨a, b, c, d, e, _⟩ := neg_parts h1 h2 h3 h5
  have hW : fW n key = -((n - fLeft n key - 1 : Nat) : Int) * 18446744073709551616 + (fRest n key * 2 ^ (64 - fLeft n key) : Nat) := by
    unfold fW fTail; rw [e]; congr 2; omega
  rw [hW]
  generalize fLeft n key = l at *
  generalize fRest n key = r at *
  have hl : l + 2 ≤ n := by omega
  have e64 : 2 ^ l * 2 ^ (64 - l) = 18446744073709551616 := by rw [← Nat.pow_add, show l + (64 - l) = 64 by omega]
  have hle := pow_le (show l + 1 ≤ n by omega)
  have hs := pow_add_one l
  by_cases hr : r = 0
  · subst hr
    by_cases hl0 : l = 0
    · subst hl0
      obtain ⟨x1, x2, x3, x4⟩ := all_parts h1 h2
      have : 2 ^ n - key = 2 ^ n - 1 := by simp at c; omega
      rw [this]
      unfold fW fTail
      rw [x3, x4]
      simp
      omega
    · obtain ⟨y1, y2, y3, y4, y5⟩ := pos_made h1 h2 (l := l - 1) (r := 0) (by omega) (Nat.two_pow_pos _)
      rw [show l - 1 + 1 = l by omega] at y1 y2 y3 y4 y5
      have : 2 ^ n - key = 2 ^ n - 2 ^ l + 0 := by omega
      rw [this]
      unfold fW fTail
      rw [y3, y5]
      simp
      omega
  · obtain ⟨y1, y2, y3, y4, y5⟩ := pos_made h1 h2 (l := l) (r := 2 ^ l - r) hl (by omega)
    have : 2 ^ n - key = 2 ^ n - 2 ^ (l + 1) + (2 ^ l - r) := by omega
    rw [this]
    unfold fW fTail
    rw [y3, y4, y5, Nat.sub_mul, e64]
    have : r * 2 ^ (64 - l) ≤ 2 ^ l * 2 ^ (64 - l) := Nat.mul_le_mul_right _ (by omega)
    rw [e64] at this
    omega
theorem W_turn {n key : Nat} (h1 : 2 ≤ n) (h2 : n ≤ 64) (h3 : 0 < key) (h4 : key < 2 ^ n) : fW n (2 ^ n - key) = -fW n key := by
  have hp := pow_pred (n := n) (by omega)
  by_cases h5 : key < 2 ^ (n - 1)
  · exact W_turn_neg h1 h2 h3 h5
  · by_cases h6 : key = 2 ^ (n - 1)
    · obtain ⟨y1, y2, y3, y4, y5⟩ := pos_made h1 h2 (l := n - 2) (r := 0) (by omega) (Nat.two_pow_pos _)
      rw [show n - 2 + 1 = n - 1 by omega, Nat.add_zero] at y3 y4 y5
      have e1 : 2 ^ n - key = key := by omega
      have e2 : 2 ^ n - 2 ^ (n - 1) = key := by omega
      rw [e2] at y3 y4 y5
      have : fW n key = 0 := by
        unfold fW fTail
        rw [y3, y5]
        simp
        omega
      rw [e1, this]; rfl
    · have := W_turn_neg h1 h2 (key := 2 ^ n - key) (by omega) (by omega)
      rw [show 2 ^ n - (2 ^ n - key) = key by omega] at this
      omega

theorem inverse_no (wd e e' : Int) (w : World) (hT : Tab w) (x y f g : Int) (he' : wrap64 (-e) = e')
    (K : ∀ w, Tab w → Calls Tryd.prog 16 #[.int .i64 wd, .int .u64 1, .int .i64 e] w fun r w' => r = .returned (.tuple #[.int .u64 x, .int .i64 f]) ∧ Below w.heap.size w w')
    (K2 : ∀ w, Tab w → Calls Tryd.prog 16 #[.int .i64 wd, .int .u64 1, .int .i64 e'] w fun r w' => r = .returned (.tuple #[.int .u64 y, .int .i64 g]) ∧ Below w.heap.size w w')
    (h : (f != 0) = true ∧ (f == g) = true ∨ (f != 0) = true ∧ (f == g) = false ∧ (f == 8) = true ∨ (f != 0) = false ∧ (g != 0) = true ∧ (f == g) = false ∧ (f == 8) = false ∧ (g == 8) = true) :
    Calls Tryd.prog 6 #[.int .i64 wd, .int .i64 e] w fun r w' => r = .returned (.bool true) ∧ Below w.heap.size w w' := by
  have hn : (Op.unary .neg (.int .i64 e)) = Op.unary .neg (.int .i64 e) := rfl
  have K' := Lib.hid K
  have K2' := Lib.hid K2
  have hTab := Lib.hid hT
  clear K K2 hT hn
  rcases h with ⟨h1, h2⟩ | ⟨h1, h2, h3⟩ | ⟨h1, h2, h3, h4, h5⟩
  all_goals
    go_enter Tryd.func6, Tryd.ntmps6
    go_wp2_with fail
    refine (shown_true _ hTab.out).mono ?_; rintro r w1 ⟨rfl, b1⟩
    have hTab1 := Lib.hid (hTab.out.below b1)
    go_wp2_with fail
    refine (K'.out _ hTab1.out).mono ?_; rintro r w2 ⟨rfl, b2⟩
    have hTab2 := Lib.hid (hTab1.out.below b2)
    go_wp2_with fail
    refine (K2'.out _ hTab2.out).mono ?_; rintro r w3 ⟨rfl, b3⟩
    go_wp2_with fail
    go_ret
    exact ⟨rfl, bthen (bthen b1 b2) b3⟩

theorem inverse_yes (wd e : Int) (n a b : Nat) (w : World) (hT : Tab w) (he1 : -1000 < e) (he2 : e < 1000) (hwd1 : 3 ≤ wd) (hwd2 : wd ≤ 65)
    (K : ∀ w, Tab w → Calls Tryd.prog 16 #[.int .i64 wd, .int .u64 1, .int .i64 e] w fun r w' => r = .returned (.tuple #[.int .u64 a, .int .i64 0]) ∧ Below w.heap.size w w')
    (K2 : ∀ w, Tab w → Calls Tryd.prog 16 #[.int .i64 wd, .int .u64 1, .int .i64 (-e)] w fun r w' => r = .returned (.tuple #[.int .u64 b, .int .i64 0]) ∧ Below w.heap.size w w')
    (k : Nat) (hk : wd - 2 = (k : Int)) (hk2 : k ≤ 63) (hsum : (IntKind.u64.wrap ((a : Int) + b) == IntKind.u64.wrap (IntKind.u64.wrap (2 ^ k) * 2)) = true) :
    Calls Tryd.prog 6 #[.int .i64 wd, .int .i64 e] w fun r w' => r = .returned (.bool true) ∧ Below w.heap.size w w' := by
  have K' := Lib.hid K
  have K2' := Lib.hid K2
  have hTab := Lib.hid hT
  clear K K2 hT
  go_enter Tryd.func6, Tryd.ntmps6
  go_wp2_with fail
  refine (shown_true _ hTab.out).mono ?_; rintro r w1 ⟨rfl, b1⟩
  have hTab1 := Lib.hid (hTab.out.below b1)
  go_wp2_with fail
  refine (K'.out _ hTab1.out).mono ?_; rintro r w2 ⟨rfl, b2⟩
  have hTab2 := Lib.hid (hTab1.out.below b2)
  go_wp2_with fail
  refine (K2'.out _ hTab2.out).mono ?_; rintro r w3 ⟨rfl, b3⟩
  go_wp2_with fail
  go_ret
  exact ⟨rfl, bthen (bthen b1 b2) b3⟩

theorem i64_bounds {a : Int} (h : (Lit.int .i64 a).wf = true) : -9223372036854775808 ≤ a ∧ a ≤ 9223372036854775807 := by
  simp [Lit.wf, IntKind.min, IntKind.max, IntKind.signed, IntKind.bits] at h
  omega

theorem inverse_any (wd e : Int) (hb1 : -9223372036854775808 ≤ e) (hb2 : e ≤ 9223372036854775807) (w : World) (hT : Tab w) :
    Calls Tryd.prog 6 #[.int .i64 wd, .int .i64 e] w fun r w' => r = .returned (.bool true) ∧ Below w.heap.size w w' := by
  by_cases hw : 3 ≤ wd ∧ wd ≤ 65
  · obtain ⟨h1, h2⟩ := hw
    by_cases he : -1000 < e ∧ e < 1000
    · obtain ⟨he1, he2⟩ := he
      have hwr : wrap64 (-e) = -e := IntWalk.wrap64_in _ (by omega)
      obtain ⟨n, hn⟩ : ∃ n : Nat, wd - 1 = (n : Int) := ⟨(wd - 1).toNat, by omega⟩
      have n2 : 2 ≤ n := by omega
      have n64 : n ≤ 64 := by omega
      rcases Key_main wd e n 1 0 0 hn h1 h2 (by decide) (by decide) he1 he2 with ⟨a, a1, a2, a3, a4, K⟩ | ⟨_, K⟩
      · rcases Key_main wd (-e) n 1 0 0 hn h1 h2 (by decide) (by decide) (by omega) (by omega) with ⟨b, b1, b2, b3, b4, K2⟩ | ⟨_, K2⟩
        · have hsum : a + b = 2 ^ n := by
            have wa : fW n a = e * 4611686018427387904 := by
              rw [← numW_of_key, a3, a4]; unfold numW
              rw [show Nat.log2 (2 * 0 + 1) = 0 by decide]; simp
            have wb : fW n b = -e * 4611686018427387904 := by
              rw [← numW_of_key, b3, b4]; unfold numW
              rw [show Nat.log2 (2 * 0 + 1) = 0 by decide]; simp
            have := W_turn n2 n64 a1 a2
            have : b = 2 ^ n - a := W_inj n2 n64 b1 b2 (by omega) (by omega) (by omega)
            omega
          refine inverse_yes wd e n a b w hT he1 he2 h1 h2 K K2 (n - 1) (by omega) (by omega) ?_
          have hp := pow_pred (n := n) (by omega)
          have e1 : ((a : Int) + b) = ((a + b : Nat) : Int) := rfl
          have e2 : (((2 ^ (n - 1) : Nat) : Int) * 2) = ((2 ^ n : Nat) : Int) := by omega
          rw [e1, hsum, wrap_pow (by omega), e2]
          simp
        · exact inverse_no wd e (-e) w hT _ _ 0 8 hwr K K2 (Or.inr (Or.inr ⟨rfl, rfl, rfl, rfl, rfl⟩))
      · rcases Key_main wd (-e) n 1 0 0 hn h1 h2 (by decide) (by decide) (by omega) (by omega) with ⟨b, b1, b2, b3, b4, K2⟩ | ⟨_, K2⟩
        · exact inverse_no wd e (-e) w hT _ _ 8 0 hwr K K2 (Or.inr (Or.inl ⟨rfl, rfl, rfl⟩))
        · exact inverse_no wd e (-e) w hT _ _ 8 8 hwr K K2 (Or.inl ⟨rfl, rfl⟩)
    · have hfar : ¬ (-1000 < wrap64 (-e) ∧ wrap64 (-e) < 1000) := by unfold wrap64; omega
      exact inverse_no wd e _ w hT 0 0 8 8 rfl (fun w _ => key_far wd e 1 w h1 h2 rfl he) (fun w _ => key_far wd _ 1 w h1 h2 rfl hfar) (Or.inl ⟨rfl, rfl⟩)
  · exact inverse_no wd e _ w hT 0 0 1 1 rfl (fun w _ => key_width wd e 1 w hw) (fun w _ => key_width wd _ 1 w hw) (Or.inl ⟨rfl, rfl⟩)
theorem walk_PositInverse (a0 : Int) (_ : (Lit.int .i64 a0).wf = true) (a1 : Int) (w1 : (Lit.int .i64 a1).wf = true) (w : World) (hT : Tab w) :
    Calls Tryd.prog 6 #[.int .i64 a0, .int .i64 a1] w fun e w' => e = .returned (.bool true) ∧ Below w.heap.size w w' := by
  obtain ⟨k1, k2⟩ := i64_bounds w1
  exact inverse_any a0 a1 k1 k2 w hT
end Go.Proofs.YtfmecakoccnblaaDoor

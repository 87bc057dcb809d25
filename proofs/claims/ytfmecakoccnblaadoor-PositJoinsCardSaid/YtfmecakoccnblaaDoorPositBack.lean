/- PositBack walked: what is split is joined, and what a key means has that key. Conditions: the table of math-bits lies as the text lays it. -/
import Derived.Test.YtfmecakoccnblaaDoorPositJq
import Derived.Test.YtfmecakoccnblaaDoorPositRises
set_option linter.unusedVariables false
namespace Go.Proofs.YtfmecakoccnblaaDoor
open Go.RowKit

theorem W_more {n key : Nat} (h1 : 2 ≤ n) (h2 : n + 1 ≤ 64) (h3 : 0 < key) (h4 : key < 2 ^ n) : fW (n + 1) (2 * key) = fW n key := by
  have hp := pow_pred (n := n) (by omega)
  have scale : ∀ l r : Nat, l + 2 ≤ n → 2 * r * 2 ^ (64 - (l + 1)) = r * 2 ^ (64 - l) := by
    intro l r hl
    rw [show 64 - l = 64 - (l + 1) + 1 by omega, pow_add_one, Nat.mul_comm 2 r, Nat.mul_assoc]
  by_cases h5 : key < 2 ^ (n - 1)
  · obtain ⟨a, b, c, d, e, _⟩ := neg_parts h1 (by omega) h3 h5
    have hs := pow_add_one (fLeft n key)
    obtain ⟨y1, y2, y3, y4, y5⟩ := neg_made (n := n + 1) (l := fLeft n key + 1) (r := 2 * fRest n key) (by omega) h2 (by omega) (by omega)
    have hk : 2 * key = 2 ^ (fLeft n key + 1) + 2 * fRest n key := by omega
    rw [hk]
    unfold fW fTail
    rw [y3, y4, y5, scale _ _ (by omega), e]
    congr 2
    omega
  · by_cases h6 : key = 2 ^ n - 1
    · subst h6
      obtain ⟨x1, x2, x3, x4⟩ := all_parts h1 (show n ≤ 64 by omega)
      obtain ⟨y1, y2, y3, y4, y5⟩ := pos_made (n := n + 1) (l := 0) (r := 0) (by omega) h2 (by omega) (by decide)
      have hs := pow_add_one n
      have hk : 2 * (2 ^ n - 1) = 2 ^ (n + 1) - 2 ^ (0 + 1) + 0 := by omega
      rw [hk]
      unfold fW fTail
      rw [y3, y4, y5, x2, x3, x4]
      simp
      omega
    · obtain ⟨a, b, c, d, e, _⟩ := pos_parts h1 (by omega) h4 (by omega) h6
      have hs := pow_add_one (fLeft n key)
      have hs1 := pow_add_one (fLeft n key + 1)
      have hs2 := pow_add_one n
      obtain ⟨y1, y2, y3, y4, y5⟩ := pos_made (n := n + 1) (l := fLeft n key + 1) (r := 2 * fRest n key) (by omega) h2 (by omega) (by omega)
      have hk : 2 * key = 2 ^ (n + 1) - 2 ^ (fLeft n key + 1 + 1) + 2 * fRest n key := by
        have := pow_le (show fLeft n key + 1 ≤ n by omega)
        omega
      rw [hk]
      unfold fW fTail
      rw [y3, y4, y5, scale _ _ (by omega), e]
      congr 2
      omega

theorem back_no (wd : Int) (key : Nat) (w : World) (hT : Tab w) (h : ¬ ∃ n, Fit wd n key) :
    Calls Tryd.prog 8 #[.int .i64 wd, .int .u64 key] w fun r w' => r = .returned (.bool true) ∧ Below w.heap.size w w' := by
  have S := Lib.hid (fun w => Split_no wd key w h)
  have hTab := Lib.hid hT
  clear h hT
  go_enter Tryd.func8, Tryd.ntmps8
  go_wp2_with fail
  refine (shown_true _ hTab.out).mono ?_; rintro r w1 ⟨rfl, b1⟩
  go_wp2_with fail
  refine (S.out _).mono ?_; rintro r w2 ⟨rfl, b2⟩
  go_wp2_with fail
  go_ret
  exact ⟨rfl, bgrow (bthen b1 b2) _⟩

theorem back_full (wd reg : Int) (ex fr bts m key : Nat) (d : Int) (w : World) (hT : Tab w)
    (S : ∀ w, Calls Tryd.prog 12 #[.int .i64 wd, .int .u64 key] w fun r w' => r = .returned (.tuple #[.agg #[.int .i64 reg, .int .i64 ex, .int .u64 fr, .int .i64 bts], .int .i64 0]) ∧ Below w.heap.size w w')
    (J : ∀ w, Calls Tryd.prog 20 #[.int .i64 wd, .agg #[.int .i64 reg, .int .i64 ex, .int .u64 fr, .int .i64 bts]] w fun r w' => r = .returned (.tuple #[.int .u64 key, .int .i64 0]) ∧ Below w.heap.size w w')
    (V : ∀ w, Tab w → Calls Tryd.prog 14 #[.int .i64 wd, .int .u64 key] w fun r w' => r = .returned (.tuple #[.int .u64 m, .int .i64 d, .int .i64 0]) ∧ Below w.heap.size w w')
    (K : ∀ w, Tab w → Calls Tryd.prog 16 #[.int .i64 wd, .int .u64 m, .int .i64 d] w fun r w' => r = .returned (.tuple #[.int .u64 key, .int .i64 0]) ∧ Below w.heap.size w w')
    (h : wd = 65) :
    Calls Tryd.prog 8 #[.int .i64 wd, .int .u64 key] w fun r w' => r = .returned (.bool true) ∧ Below w.heap.size w w' := by
  subst h
  have S' := Lib.hid S
  have J' := Lib.hid J
  have V' := Lib.hid V
  have K' := Lib.hid K
  have hTab := Lib.hid hT
  clear S J V K hT
  go_enter Tryd.func8, Tryd.ntmps8
  go_wp2_with fail
  refine (shown_true _ hTab.out).mono ?_; rintro r w1 ⟨rfl, b1⟩
  have hTab1 := Lib.hid (hTab.out.below b1)
  go_wp2_with fail
  refine (S'.out _).mono ?_; rintro r w2 ⟨rfl, b2⟩
  have hTab2 := Lib.hid (hTab1.out.below b2)
  go_wp2_with fail
  refine (J'.out _).mono ?_; rintro r w3 ⟨rfl, b3⟩
  have hTab3 := Lib.hid ((hTab2.out.alloc _).below b3)
  go_wp2_with fail
  refine (V'.out _ hTab3.out).mono ?_; rintro r w4 ⟨rfl, b4⟩
  have hTab4 := Lib.hid (hTab3.out.below b4)
  go_wp2_with fail
  refine (K'.out _ hTab4.out).mono ?_; rintro r w5 ⟨rfl, b5⟩
  go_wp2_with fail
  go_ret
  exact ⟨rfl, bthen (bthen (bthen (bgrow (bthen b1 b2) _) b3) b4) b5⟩

theorem back_more (wd wd1 reg : Int) (ex fr bts m key key2 : Nat) (d : Int) (w : World) (hT : Tab w)
    (S : ∀ w, Calls Tryd.prog 12 #[.int .i64 wd, .int .u64 key] w fun r w' => r = .returned (.tuple #[.agg #[.int .i64 reg, .int .i64 ex, .int .u64 fr, .int .i64 bts], .int .i64 0]) ∧ Below w.heap.size w w')
    (J : ∀ w, Calls Tryd.prog 20 #[.int .i64 wd, .agg #[.int .i64 reg, .int .i64 ex, .int .u64 fr, .int .i64 bts]] w fun r w' => r = .returned (.tuple #[.int .u64 key, .int .i64 0]) ∧ Below w.heap.size w w')
    (V : ∀ w, Tab w → Calls Tryd.prog 14 #[.int .i64 wd, .int .u64 key] w fun r w' => r = .returned (.tuple #[.int .u64 m, .int .i64 d, .int .i64 0]) ∧ Below w.heap.size w w')
    (K : ∀ w, Tab w → Calls Tryd.prog 16 #[.int .i64 wd, .int .u64 m, .int .i64 d] w fun r w' => r = .returned (.tuple #[.int .u64 key, .int .i64 0]) ∧ Below w.heap.size w w')
    (V2 : ∀ w, Tab w → Calls Tryd.prog 14 #[.int .i64 wd1, .int .u64 key2] w fun r w' => r = .returned (.tuple #[.int .u64 m, .int .i64 d, .int .i64 0]) ∧ Below w.heap.size w w')
    (h : (wd == 65) = false) (h1 : wrap64 (wd + 1) = wd1) (h2 : IntKind.u64.wrap (2 * (key : Int)) = key2) :
    Calls Tryd.prog 8 #[.int .i64 wd, .int .u64 key] w fun r w' => r = .returned (.bool true) ∧ Below w.heap.size w w' := by
  have S' := Lib.hid S
  have J' := Lib.hid J
  have V' := Lib.hid V
  have K' := Lib.hid K
  have V2' := Lib.hid V2
  have hTab := Lib.hid hT
  clear S J V K V2 hT
  go_enter Tryd.func8, Tryd.ntmps8
  go_wp2_with fail
  refine (shown_true _ hTab.out).mono ?_; rintro r w1 ⟨rfl, b1⟩
  have hTab1 := Lib.hid (hTab.out.below b1)
  go_wp2_with fail
  refine (S'.out _).mono ?_; rintro r w2 ⟨rfl, b2⟩
  have hTab2 := Lib.hid (hTab1.out.below b2)
  go_wp2_with fail
  refine (J'.out _).mono ?_; rintro r w3 ⟨rfl, b3⟩
  have hTab3 := Lib.hid ((hTab2.out.alloc _).below b3)
  go_wp2_with fail
  refine (V'.out _ hTab3.out).mono ?_; rintro r w4 ⟨rfl, b4⟩
  have hTab4 := Lib.hid (hTab3.out.below b4)
  go_wp2_with fail
  refine (K'.out _ hTab4.out).mono ?_; rintro r w5 ⟨rfl, b5⟩
  have hTab5 := Lib.hid (hTab4.out.below b5)
  go_wp2_with fail
  refine (V2'.out _ hTab5.out).mono ?_; rintro r w6 ⟨rfl, b6⟩
  go_wp2_with fail
  go_ret
  exact ⟨rfl, bthen (bthen (bthen (bthen (bgrow (bthen b1 b2) _) b3) b4) b5) b6⟩

theorem M_same {n n' key key' : Nat} (h : fW n' key' = fW n key) : fM n' key' = fM n key ∧ fE n' key' = fE n key := by
  obtain ⟨m1, m2, _⟩ := M_odd n key
  exact (ME_iff m1 m2).2 (by rw [h, numW_of_key])

theorem back_any (wd : Int) (key : Nat) (w : World) (hT : Tab w) :
    Calls Tryd.prog 8 #[.int .i64 wd, .int .u64 key] w fun r w' => r = .returned (.bool true) ∧ Below w.heap.size w w' := by
  by_cases h : ∃ n, Fit wd n key
  · obtain ⟨n, h⟩ := h
    obtain ⟨hn, h1, h2, h3, h4⟩ := h
    have n2 : 2 ≤ n := by omega
    have n64 : n ≤ 64 := by omega
    obtain ⟨m1, m2, m3⟩ := M_odd n key
    obtain ⟨e1, e2, _⟩ := E_bounds n2 n64 h3 h4
    have h : Fit wd n key := ⟨hn, h1, h2, h3, h4⟩
    have K := fun w hT => Key_yes wd (fE n key) n (fM n key) 0 (fM n key / 2) key w hT h (by omega) (by omega) (by omega) (by omega) (by omega) (by omega)
    by_cases hw : wd = 65
    · exact back_full wd _ _ _ _ _ _ _ w hT (fun w => Split_yes wd n key w h) (fun w => Join_yes wd n key w h) (fun w hT => Value_yes wd n key w hT h) K hw
    · have hf : Fit (wd + 1) (n + 1) (2 * key) := ⟨by omega, by omega, by omega, by omega, by rw [pow_add_one]; omega⟩
      have hk := pow_le64 n64
      have hk2 := pow_le64 (show n + 1 ≤ 64 by omega)
      rw [pow_add_one] at hk2
      have V2 := fun w hT => Value_yes (wd + 1) (n + 1) (2 * key) w hT hf
      obtain ⟨x1, x2⟩ := M_same (W_more n2 (by omega) h3 h4)
      rw [x1, x2] at V2
      refine back_more wd (wd + 1) _ _ _ _ _ _ (2 * key) _ w hT (fun w => Split_yes wd n key w h) (fun w => Join_yes wd n key w h) (fun w hT => Value_yes wd n key w hT h) K V2 (by simp; omega) (IntWalk.wrap64_in _ (by omega)) ?_
      have : (2 * (key : Int)) = ((2 * key : Nat) : Int) := by omega
      rw [this]
      exact wrap_u64_nat _ (by omega)
  · exact back_no wd key w hT h
theorem walk_PositBack (a0 : Int) (_ : (Lit.int .i64 a0).wf = true) (a1 : Int) (w1 : (Lit.int .u64 a1).wf = true) (w : World) (hT : Tab w) :
    Calls Tryd.prog 8 #[.int .i64 a0, .int .u64 a1] w fun e w' => e = .returned (.bool true) ∧ Below w.heap.size w w' := by
  obtain ⟨k, rfl, hk⟩ := u64_nat w1
  exact back_any a0 k w hT
end Go.Proofs.YtfmecakoccnblaaDoor

/- PositValues walked: magnitudes are the numbers that the document says, and numbers have the magnitudes. Conditions: the table of math-bits lies as the text lays it. -/
import Derived.Test.YtfmecakoccnblaaDoorPositRk2
set_option linter.unusedVariables false
namespace Go.Proofs.YtfmecakoccnblaaDoor
open Go.RowKit

theorem refKey_any (wd e : Int) (n m c q : Nat) (hn : wd - 1 = (n : Int)) (h1 : 3 ≤ wd) (h2 : wd ≤ 65) (hm : m = 2 ^ c * (2 * q + 1)) (hm64 : m < 18446744073709551616) (hc : c ≤ 64) (he : -9223372036854775808 ≤ e ∧ e ≤ 9223372036854775807) (w : World) :
    Calls Tryd.prog 18 #[.int .i64 wd, .int .u64 m, .int .i64 e] w fun r w' =>
      ((∀ k, 0 < k → k < 2 ^ n → fM n k = 2 * q + 1 → fE n k = e + c → r = .returned (.tuple #[.int .u64 k, .bool true])) ∧
       ((¬ ∃ k, 0 < k ∧ k < 2 ^ n ∧ fM n k = 2 * q + 1 ∧ fE n k = e + c) → r = .returned (.tuple #[.int .u64 0, .bool false]))) ∧ Below w.heap.size w w' := by
  obtain ⟨E, E0, E1, E2⟩ := ups e
  have n2 : 2 ≤ n := by omega
  have n64 : n ≤ 64 := by omega
  have e0 : E 0 = e := by rw [E0, IntWalk.wrap64_in _ he]
  by_cases hr : -1000 ≤ E c ∧ E c ≤ 1000
  · have ec : E c = e + c := by
      have := E2 c
      unfold wrap64 at this
      omega
    refine (refKey_near wd e (E c) n m c q w hn h1 h2 hm hm64 E e0 E1 rfl hr.1 hr.2).mono ?_
    rintro r w' ⟨hk, hb⟩
    exact ⟨⟨fun k k1 k2 k3 k4 => keyEnd_yes n2 n64 hk k1 k2 k3 (by rw [k4, ec]), fun hno => keyEnd_no hk (by rw [ec]; exact hno)⟩, hb⟩
  · refine (refKey_far wd e (E c) m c q w hm hm64 E e0 E1 rfl hr).mono ?_
    rintro r w' ⟨rfl, rfl⟩
    refine ⟨⟨fun k k1 k2 k3 k4 => ?_, fun _ => rfl⟩, Below.refl _ _⟩
    exfalso
    apply hr
    obtain ⟨b1, b2, _⟩ := E_bounds n2 n64 k1 k2
    rw [E2, IntWalk.wrap64_in _ (by omega)]
    omega

theorem values_bad (wd e : Int) (key m : Nat) (v1 v2 f fi : Int) (ok : Bool) (w : World) (hT : Tab w) (hm64 : m < 18446744073709551616) (hok : ok = true ∧ f = 0 ∨ ok = false ∧ f = 1 ∧ v1 = 0 ∧ v2 = 0)
    (V : ∀ w, Tab w → Calls Tryd.prog 14 #[.int .i64 wd, .int .u64 key] w fun r w' => r = .returned (.tuple #[.int .u64 v1, .int .i64 v2, .int .i64 f]) ∧ Below w.heap.size w w')
    (R : ∀ w, Calls Tryd.prog 15 #[.int .i64 wd, .int .u64 key] w fun r w' => r = .returned (.tuple #[.int .u64 v1, .int .i64 v2, .bool ok]) ∧ Below w.heap.size w w')
    (K : ∀ w, Tab w → Calls Tryd.prog 16 #[.int .i64 wd, .int .u64 m, .int .i64 e] w fun r w' => r = .returned (.tuple #[.int .u64 0, .int .i64 1]) ∧ Below w.heap.size w w')
    (F : ∀ w, Calls Tryd.prog 17 #[.int .i64 wd] w fun r w' => r = .returned (.int .i64 fi) ∧ w = w')
    (hfi : fi = 1 ∨ fi = 0 ∧ ((m : Int) == 0) = true) :
    Calls Tryd.prog 4 #[.int .i64 wd, .int .u64 key, .int .u64 m, .int .i64 e] w fun r w' => r = .returned (.bool true) ∧ Below w.heap.size w w' := by
  have V' := Lib.hid V
  have R' := Lib.hid R
  have K' := Lib.hid K
  have F' := Lib.hid F
  have hTab := Lib.hid hT
  clear V R K F hT
  rcases hok with ⟨rfl, rfl⟩ | ⟨rfl, rfl, rfl, rfl⟩ <;> rcases hfi with rfl | ⟨rfl, hm0⟩
  all_goals
    go_enter Tryd.func4, Tryd.ntmps4
    go_wp2_with fail
    refine (shown_true _ hTab.out).mono ?_; rintro r w1 ⟨rfl, b1⟩
    have hTab1 := Lib.hid (hTab.out.below b1)
    have B1 := Lib.hid b1
    clear b1
    go_wp2_with fail
    with_reducible (refine (V'.out _ hTab1.out).mono ?_)
    rintro r w2 ⟨rfl, b2⟩
    have hTab2 := Lib.hid (hTab1.out.below b2)
    have B2 := Lib.hid (bthen B1.out b2)
    clear b2
    go_wp2_with fail
    with_reducible (refine (R'.out _).mono ?_)
    rintro r w3 ⟨rfl, b3⟩
    have hTab3 := Lib.hid (hTab2.out.below b3)
    have B3 := Lib.hid (bthen B2.out b3)
    clear b3
    go_wp2_with fail
    with_reducible (refine (K'.out _ hTab3.out).mono ?_)
    rintro r w4 ⟨rfl, b4⟩
    have B4 := Lib.hid (bthen B3.out b4)
    clear b4
    go_wp2_with fail
    with_reducible (refine (F'.out _).mono ?_)
    rintro r w5 ⟨rfl, rfl⟩
    go_wp2_with fail
    go_ret
    exact ⟨rfl, B4.out⟩

theorem values_good (wd e : Int) (key m : Nat) (v1 v2 f k g : Int) (ok is : Bool) (w : World) (hT : Tab w) (hm64 : m < 18446744073709551616) (hok : ok = true ∧ f = 0 ∨ ok = false ∧ f = 1 ∧ v1 = 0 ∧ v2 = 0)
    (V : ∀ w, Tab w → Calls Tryd.prog 14 #[.int .i64 wd, .int .u64 key] w fun r w' => r = .returned (.tuple #[.int .u64 v1, .int .i64 v2, .int .i64 f]) ∧ Below w.heap.size w w')
    (R : ∀ w, Calls Tryd.prog 15 #[.int .i64 wd, .int .u64 key] w fun r w' => r = .returned (.tuple #[.int .u64 v1, .int .i64 v2, .bool ok]) ∧ Below w.heap.size w w')
    (K : ∀ w, Tab w → Calls Tryd.prog 16 #[.int .i64 wd, .int .u64 m, .int .i64 e] w fun r w' => r = .returned (.tuple #[.int .u64 k, .int .i64 g]) ∧ Below w.heap.size w w')
    (F : ∀ w, Calls Tryd.prog 17 #[.int .i64 wd] w fun r w' => r = .returned (.int .i64 0) ∧ w = w') (hm0 : ((m : Int) == 0) = false)
    (W : ∀ w, Calls Tryd.prog 18 #[.int .i64 wd, .int .u64 m, .int .i64 e] w fun r w' => r = .returned (.tuple #[.int .u64 k, .bool is]) ∧ Below w.heap.size w w')
    (hg : is = true ∧ g = 0 ∨ is = false ∧ g = 8 ∧ k = 0) :
    Calls Tryd.prog 4 #[.int .i64 wd, .int .u64 key, .int .u64 m, .int .i64 e] w fun r w' => r = .returned (.bool true) ∧ Below w.heap.size w w' := by
  have V' := Lib.hid V
  have R' := Lib.hid R
  have K' := Lib.hid K
  have F' := Lib.hid F
  have W' := Lib.hid W
  have hTab := Lib.hid hT
  clear V R K F W hT
  rcases hok with ⟨rfl, rfl⟩ | ⟨rfl, rfl, rfl, rfl⟩ <;> rcases hg with ⟨rfl, rfl⟩ | ⟨rfl, rfl, rfl⟩
  all_goals
    go_enter Tryd.func4, Tryd.ntmps4
    go_wp2_with fail
    refine (shown_true _ hTab.out).mono ?_; rintro r w1 ⟨rfl, b1⟩
    have hTab1 := Lib.hid (hTab.out.below b1)
    have B1 := Lib.hid b1
    clear b1
    go_wp2_with fail
    with_reducible (refine (V'.out _ hTab1.out).mono ?_)
    rintro r w2 ⟨rfl, b2⟩
    have hTab2 := Lib.hid (hTab1.out.below b2)
    have B2 := Lib.hid (bthen B1.out b2)
    clear b2
    go_wp2_with fail
    with_reducible (refine (R'.out _).mono ?_)
    rintro r w3 ⟨rfl, b3⟩
    have hTab3 := Lib.hid (hTab2.out.below b3)
    have B3 := Lib.hid (bthen B2.out b3)
    clear b3
    go_wp2_with fail
    with_reducible (refine (K'.out _ hTab3.out).mono ?_)
    rintro r w4 ⟨rfl, b4⟩
    have B4 := Lib.hid (bthen B3.out b4)
    clear b4
    go_wp2_with fail
    with_reducible (refine (F'.out _).mono ?_)
    rintro r w5 ⟨rfl, rfl⟩
    go_wp2_with fail
    with_reducible (refine (W'.out _).mono ?_)
    rintro r w6 ⟨rfl, b6⟩
    have B6 := Lib.hid (bthen B4.out b6)
    clear b6
    go_wp2_with fail
    go_ret
    exact ⟨rfl, B6.out⟩

theorem values_any (wd e : Int) (key m : Nat) (hk : key < 18446744073709551616) (hm64 : m < 18446744073709551616) (he : -9223372036854775808 ≤ e ∧ e ≤ 9223372036854775807) (w : World) (hT : Tab w) :
    Calls Tryd.prog 4 #[.int .i64 wd, .int .u64 key, .int .u64 m, .int .i64 e] w fun r w' => r = .returned (.bool true) ∧ Below w.heap.size w w' := by
  obtain ⟨v1, v2, f, ok, V, R, hok⟩ : ∃ (v1 v2 f : Int) (ok : Bool), (∀ w, Tab w → Calls Tryd.prog 14 #[.int .i64 wd, .int .u64 key] w fun r w' => r = .returned (.tuple #[.int .u64 v1, .int .i64 v2, .int .i64 f]) ∧ Below w.heap.size w w') ∧
      (∀ w, Calls Tryd.prog 15 #[.int .i64 wd, .int .u64 key] w fun r w' => r = .returned (.tuple #[.int .u64 v1, .int .i64 v2, .bool ok]) ∧ Below w.heap.size w w') ∧ (ok = true ∧ f = 0 ∨ ok = false ∧ f = 1 ∧ v1 = 0 ∧ v2 = 0) := by
    by_cases hF : ∃ n, Fit wd n key
    · obtain ⟨n, hF⟩ := hF
      exact ⟨_, _, _, _, fun w hT => Value_yes wd n key w hT hF, fun w => refValue_yes wd n key w hF, Or.inl ⟨rfl, rfl⟩⟩
    · exact ⟨_, _, _, _, fun w hT => Value_no wd key w hF, fun w => refValue_no wd key w hk hF, Or.inr ⟨rfl, rfl, rfl, rfl⟩⟩
  by_cases hw : 3 ≤ wd ∧ wd ≤ 65
  case neg => exact values_bad wd e key m v1 v2 f 1 ok w hT hm64 hok V R (fun w _ => key_width wd e m w hw) (fun w => fits_no wd w hw) (Or.inl rfl)
  obtain ⟨h1, h2⟩ := hw
  by_cases hm0 : m = 0
  · exact values_bad wd e key m v1 v2 f 0 ok w hT hm64 hok V R (fun w _ => key_zero wd e m w h1 h2 (by simp [hm0])) (fun w => fits_yes wd w h1 h2) (Or.inr ⟨rfl, by simp [hm0]⟩)
  obtain ⟨c, q, o1, o2, o3, o4⟩ := odd_parts m hm0 hm64
  obtain ⟨n, hn⟩ : ∃ n : Nat, wd - 1 = (n : Int) := ⟨(wd - 1).toNat, by omega⟩
  have n2 : 2 ≤ n := by omega
  have n64 : n ≤ 64 := by omega
  have W := refKey_any wd e n m c q hn h1 h2 o1 hm64 (by omega) he
  have hmb : ((m : Int) == 0) = false := by simp; omega
  by_cases hr : -1000 < e ∧ e < 1000
  · rcases Key_main wd e n m c q hn h1 h2 o1 hm64 hr.1 hr.2 with ⟨k, k1, k2, k3, k4, K⟩ | ⟨hno, K⟩
    · exact values_good wd e key m v1 v2 f k 0 ok true w hT hm64 hok V R K (fun w => fits_yes wd w h1 h2) hmb (fun w => (W w).mono (fun r w' h => ⟨h.1.1 k k1 k2 k3 k4, h.2⟩)) (Or.inl ⟨rfl, rfl⟩)
    · exact values_good wd e key m v1 v2 f 0 8 ok false w hT hm64 hok V R K (fun w => fits_yes wd w h1 h2) hmb (fun w => (W w).mono (fun r w' h => ⟨h.1.2 hno, h.2⟩)) (Or.inr ⟨rfl, rfl, rfl⟩)
  · have hno : ¬ ∃ k, 0 < k ∧ k < 2 ^ n ∧ fM n k = 2 * q + 1 ∧ fE n k = e + c := by
      rintro ⟨k, k1, k2, _, k4⟩
      obtain ⟨b1, b2, _⟩ := E_bounds n2 n64 k1 k2
      omega
    exact values_good wd e key m v1 v2 f 0 8 ok false w hT hm64 hok V R (fun w _ => key_far wd e m w h1 h2 (by simp; omega) hr) (fun w => fits_yes wd w h1 h2) hmb (fun w => (W w).mono (fun r w' h => ⟨h.1.2 hno, h.2⟩)) (Or.inr ⟨rfl, rfl, rfl⟩)

theorem walk_PositValues (a0 : Int) (_ : (Lit.int .i64 a0).wf = true) (a1 : Int) (w1 : (Lit.int .u64 a1).wf = true) (a2 : Int) (w2 : (Lit.int .u64 a2).wf = true) (a3 : Int) (w3 : (Lit.int .i64 a3).wf = true) (w : World) (hT : Tab w) :
    Calls Tryd.prog 4 #[.int .i64 a0, .int .u64 a1, .int .u64 a2, .int .i64 a3] w fun e w' => e = .returned (.bool true) ∧ Below w.heap.size w w' := by
  obtain ⟨k, rfl, hk⟩ := u64_nat w1
  obtain ⟨l, rfl, hl⟩ := u64_nat w2
  refine values_any a0 a3 k l hk hl ?_ w hT
  simp [Lit.wf, IntKind.min, IntKind.max, IntKind.signed, IntKind.bits] at w3
  omega
end Go.Proofs.YtfmecakoccnblaaDoor

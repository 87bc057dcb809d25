/- PositRegimes walked: one regime more is sixteen times as much. Conditions: the table of math-bits lies as the text lays it. -/
import Derived.Test.YtfmecakoccnblaaDoorPositDoubles
set_option linter.unusedVariables false
namespace Go.Proofs.YtfmecakoccnblaaDoor
open Go.RowKit

theorem and16 (x : Int) : bits .and .i64 x 65535 = x % 65536 := by
  show IntKind.i64.wrap ((BitVec.ofInt 64 x &&& BitVec.ofInt 64 65535).toNat : Int) = _
  have h1 : (BitVec.ofInt 64 x).toNat = (x % 18446744073709551616).toNat := by
    rw [BitVec.toNat_ofInt]; rfl
  have h2 : (BitVec.ofInt 64 65535).toNat = 2 ^ 16 - 1 := by decide
  rw [BitVec.toNat_and, h1, h2, Nat.and_two_pow_sub_one_eq_mod, IntKind.wrap_i64]
  omega
theorem and8 (x : Nat) (hx : x < 18446744073709551616) : bits .and .u64 (x : Int) 7 = ((x % 8 : Nat) : Int) := by
  have := bits_and_u64_nat x 7 hx (by decide)
  rw [show (7 : Nat) = 2 ^ 3 - 1 by decide, Nat.and_two_pow_sub_one_eq_mod] at this
  exact this

theorem regimes_short_a (a0 a1 a2 : Int) (a3 : Nat) (q ba bb : Int) (ex fr : Nat) (w : World) (hT : Tab w)
    (hq : a1.tmod 64 = q) (h3 : a2 % 4 = (ex : Int)) (h4 : a3 % 8 = fr) (ha : a3 < 18446744073709551616)
    (hA : wrap64 (wrap64 (12 + a0 % 65536 % 54 - 1 - max (wrap64 (q + 2)) (wrap64 (1 - q))) - 2) = ba) (hB : wrap64 (wrap64 (12 + a0 % 65536 % 54 - 1 - max (wrap64 (q + 3)) (wrap64 (-q))) - 2) = bb)
    (hc : decide (ba < 3) = true) :
    Calls Tryd.prog 10 #[.int .i64 a0, .int .i64 a1, .int .i64 a2, .int .u64 a3] w fun r w' => r = .returned (.bool true) ∧ Below w.heap.size w w' := by
  have a16 := and16 a0
  have a4 := and3 a2
  have a8 := and8 a3 ha
  have hTab := Lib.hid hT
  clear hT
  go_enter Tryd.func10, Tryd.ntmps10
  go_wp2_with fail
  refine (shown_true _ hTab.out).mono ?_; rintro r w1 ⟨rfl, b1⟩
  go_wp2_with fail
  go_ret
  exact ⟨rfl, bgrow (bgrow b1 _) _⟩
theorem regimes_short_b (a0 a1 a2 : Int) (a3 : Nat) (q ba bb : Int) (ex fr : Nat) (w : World) (hT : Tab w)
    (hq : a1.tmod 64 = q) (h3 : a2 % 4 = (ex : Int)) (h4 : a3 % 8 = fr) (ha : a3 < 18446744073709551616)
    (hA : wrap64 (wrap64 (12 + a0 % 65536 % 54 - 1 - max (wrap64 (q + 2)) (wrap64 (1 - q))) - 2) = ba) (hB : wrap64 (wrap64 (12 + a0 % 65536 % 54 - 1 - max (wrap64 (q + 3)) (wrap64 (-q))) - 2) = bb)
    (hc : decide (ba < 3) = false) (hc2 : decide (bb < 3) = true) :
    Calls Tryd.prog 10 #[.int .i64 a0, .int .i64 a1, .int .i64 a2, .int .u64 a3] w fun r w' => r = .returned (.bool true) ∧ Below w.heap.size w w' := by
  have a16 := and16 a0
  have a4 := and3 a2
  have a8 := and8 a3 ha
  have hTab := Lib.hid hT
  clear hT
  go_enter Tryd.func10, Tryd.ntmps10
  go_wp2_with fail
  refine (shown_true _ hTab.out).mono ?_; rintro r w1 ⟨rfl, b1⟩
  go_wp2_with fail
  go_ret
  exact ⟨rfl, bgrow (bgrow b1 _) _⟩
theorem regimes_yes (a0 a1 a2 : Int) (a3 : Nat) (q q1 ba bb d d4 : Int) (ex fr sa sb fa fb k l m : Nat) (w : World) (hT : Tab w)
    (hq : a1.tmod 64 = q) (h3 : a2 % 4 = (ex : Int)) (h4 : a3 % 8 = fr) (ha : a3 < 18446744073709551616)
    (hA : wrap64 (wrap64 (12 + a0 % 65536 % 54 - 1 - max (wrap64 (q + 2)) (wrap64 (1 - q))) - 2) = ba) (hB : wrap64 (wrap64 (12 + a0 % 65536 % 54 - 1 - max (wrap64 (q + 3)) (wrap64 (-q))) - 2) = bb)
    (hc : decide (ba < 3) = false) (hc2 : decide (bb < 3) = false) (hq1 : wrap64 (q + 1) = q1)
    (hsa : wrap64 (ba - 3) = (sa : Int)) (hsb : wrap64 (bb - 3) = (sb : Int)) (sa6 : sa ≤ 64) (sb6 : sb ≤ 64)
    (hfa : IntKind.u64.wrap ((fr : Int) * 2 ^ sa) = (fa : Int)) (hfb : IntKind.u64.wrap ((fr : Int) * 2 ^ sb) = (fb : Int))
    (J1 : ∀ w, Calls Tryd.prog 20 #[.int .i64 (12 + a0 % 65536 % 54), .agg #[.int .i64 q, .int .i64 ex, .int .u64 fa, .int .i64 ba]] w fun r w' => r = .returned (.tuple #[.int .u64 k, .int .i64 0]) ∧ Below w.heap.size w w')
    (J2 : ∀ w, Calls Tryd.prog 20 #[.int .i64 (12 + a0 % 65536 % 54), .agg #[.int .i64 q1, .int .i64 ex, .int .u64 fb, .int .i64 bb]] w fun r w' => r = .returned (.tuple #[.int .u64 l, .int .i64 0]) ∧ Below w.heap.size w w')
    (V1 : ∀ w, Tab w → Calls Tryd.prog 14 #[.int .i64 (12 + a0 % 65536 % 54), .int .u64 k] w fun r w' => r = .returned (.tuple #[.int .u64 m, .int .i64 d, .int .i64 0]) ∧ Below w.heap.size w w')
    (V2 : ∀ w, Tab w → Calls Tryd.prog 14 #[.int .i64 (12 + a0 % 65536 % 54), .int .u64 l] w fun r w' => r = .returned (.tuple #[.int .u64 m, .int .i64 d4, .int .i64 0]) ∧ Below w.heap.size w w')
    (hd : wrap64 (d + 4) = d4) (hk : decide (k < l) = true) :
    Calls Tryd.prog 10 #[.int .i64 a0, .int .i64 a1, .int .i64 a2, .int .u64 a3] w fun r w' => r = .returned (.bool true) ∧ Below w.heap.size w w' := by
  have a16 := and16 a0
  have a4 := and3 a2
  have a8 := and8 a3 ha
  have x1 : IntKind.u64.wrap (sa : Int) = sa := wrap_u64_nat sa (by omega)
  have x2 : IntKind.u64.wrap (sb : Int) = sb := wrap_u64_nat sb (by omega)
  have x3 : min sa 64 = sa := by omega
  have x4 : min sb 64 = sb := by omega
  have hTab := Lib.hid hT
  have J1' := Lib.hid J1
  have J2' := Lib.hid J2
  have V1' := Lib.hid V1
  have V2' := Lib.hid V2
  clear hT J1 J2 V1 V2
  go_enter Tryd.func10, Tryd.ntmps10
  go_wp2_with fail
  refine (shown_true _ hTab.out).mono ?_; rintro r w1 ⟨rfl, b1⟩
  go_wp2_with fail
  refine (J1'.out _).mono ?_; rintro r w2 ⟨rfl, b2⟩
  have B2 := bthen (bgrow (bgrow b1 _) _) b2
  have hc2' : ∀ b o, b < w1.heap.size + 1 + 1 → w2.cell? ⟨b, o, none⟩ = _ := fun b o hb => (bcell b2).1 b o (by simpa using hb)
  have c0 := hc2' (w1.heap.size + 1) 0 (by omega)
  have c1 := hc2' (w1.heap.size + 1) 1 (by omega)
  have c2 := hc2' (w1.heap.size + 1) 2 (by omega)
  have c3 := hc2' (w1.heap.size + 1) 3 (by omega)
  clear hc2'
  simp [go_sem] at c0 c1 c2 c3
  go_wp2_with fail
  refine (J2'.out _).mono ?_; rintro r w3 ⟨rfl, b3⟩
  have B3 := bthen B2 b3
  have T3 := Lib.hid (hTab.out.below B3)
  go_wp2_with fail
  refine (V1'.out _ T3.out).mono ?_; rintro r w4 ⟨rfl, b4⟩
  have B4 := bthen B3 b4
  have T4 := Lib.hid (hTab.out.below B4)
  go_wp2_with fail
  refine (V2'.out _ T4.out).mono ?_; rintro r w5 ⟨rfl, b5⟩
  go_wp2_with fail
  go_ret
  exact ⟨rfl, bthen B4 b5⟩

theorem frac_same (f b : Nat) (h1 : 3 ≤ b) (h2 : b ≤ 62) : f * 2 ^ (b - 3) * 2 ^ (62 - b) = f * 576460752303423488 := by
  rw [Nat.mul_assoc, ← Nat.pow_add, show b - 3 + (62 - b) = 59 by omega]
theorem frac_fits (f b : Nat) (h1 : 3 ≤ b) (hf : f < 8) : f * 2 ^ (b - 3) < 2 ^ b := by
  have e : 2 ^ b = 8 * 2 ^ (b - 3) := by
    conv => lhs; rw [show b = 3 + (b - 3) by omega, Nat.pow_add]
  rw [e]
  exact Nat.mul_lt_mul_of_pos_right hf (Nat.two_pow_pos _)
theorem regimes_any (a0 a1 a2 : Int) (a3 : Nat) (ha : a3 < 18446744073709551616) (w : World) (hT : Tab w) :
    Calls Tryd.prog 10 #[.int .i64 a0, .int .i64 a1, .int .i64 a2, .int .u64 a3] w fun r w' => r = .returned (.bool true) ∧ Below w.heap.size w w' := by
  obtain ⟨q, hq⟩ : ∃ q, a1.tmod 64 = q := ⟨_, rfl⟩
  have q1 : -63 ≤ q ∧ q ≤ 63 := by
    rw [← hq, tmod_eq_if]
    split <;> omega
  obtain ⟨ex, hex⟩ : ∃ ex : Nat, a2 % 4 = (ex : Int) := ⟨(a2 % 4).toNat, by omega⟩
  have hex3 : ex ≤ 3 := by omega
  obtain ⟨W, hW⟩ : ∃ W, 12 + a0 % 65536 % 54 = W := ⟨_, rfl⟩
  have hW1 : 12 ≤ W ∧ W ≤ 65 := by omega
  obtain ⟨n, hn⟩ : ∃ n : Nat, W - 1 = (n : Int) := ⟨(W - 1).toNat, by omega⟩
  obtain ⟨ba, hba⟩ : ∃ ba : Int, ba = W - 1 - max (q + 2) (1 - q) - 2 := ⟨_, rfl⟩
  obtain ⟨bb, hbb⟩ : ∃ bb : Int, bb = W - 1 - max (q + 3) (-q) - 2 := ⟨_, rfl⟩
  have hA : wrap64 (wrap64 (12 + a0 % 65536 % 54 - 1 - max (wrap64 (q + 2)) (wrap64 (1 - q))) - 2) = ba := by
    rw [hW, IntWalk.wrap64_in (q + 2) (by omega), IntWalk.wrap64_in (1 - q) (by omega), IntWalk.wrap64_in (W - 1 - max (q + 2) (1 - q)) (by omega), IntWalk.wrap64_in _ (by omega), hba]
  have hB : wrap64 (wrap64 (12 + a0 % 65536 % 54 - 1 - max (wrap64 (q + 3)) (wrap64 (-q))) - 2) = bb := by
    rw [hW, IntWalk.wrap64_in (q + 3) (by omega), IntWalk.wrap64_in (-q) (by omega), IntWalk.wrap64_in (W - 1 - max (q + 3) (-q)) (by omega), IntWalk.wrap64_in _ (by omega), hbb]
  by_cases hc : ba < 3
  · exact regimes_short_a a0 a1 a2 a3 q ba bb ex _ w hT hq hex rfl ha hA hB (by simpa using hc)
  by_cases hc2 : bb < 3
  · exact regimes_short_b a0 a1 a2 a3 q ba bb ex _ w hT hq hex rfl ha hA hB (by simpa using hc) (by simpa using hc2)
  have hf8 : a3 % 8 < 8 := Nat.mod_lt _ (by decide)
  obtain ⟨A, rfl⟩ : ∃ A : Nat, ba = (A : Int) := ⟨ba.toNat, by omega⟩
  obtain ⟨B, rfl⟩ : ∃ B : Nat, bb = (B : Int) := ⟨bb.toNat, by omega⟩
  have A3 : 3 ≤ A := by omega
  have B3 : 3 ≤ B := by omega
  have A60 : A ≤ 60 := by omega
  have B60 : B ≤ 60 := by omega
  have n2 : 2 ≤ n := by omega
  have n64 : n ≤ 64 := by omega
  obtain ⟨k, k1, k2, k3, k4, k5, k6⟩ := fields_made (n := n) (l := A + 2) (b := A) (ex := ex) (fr := a3 % 8 * 2 ^ (A - 3)) (q := q) n2 n64 (by omega) rfl hex3 (frac_fits _ _ A3 hf8) (by omega)
  obtain ⟨l, l1, l2, l3, l4, l5, l6⟩ := fields_made (n := n) (l := B + 2) (b := B) (ex := ex) (fr := a3 % 8 * 2 ^ (B - 3)) (q := q + 1) n2 n64 (by omega) rfl hex3 (frac_fits _ _ B3 hf8) (by omega)
  have fk : Fit W n k := ⟨hn, by omega, by omega, k1, k2⟩
  have fl : Fit W n l := ⟨hn, by omega, by omega, l1, l2⟩
  have hWl : fW n l = fW n k + 4 * 4611686018427387904 := by
    rw [W_fields n2 n64 l1 l2, W_fields n2 n64 k1 k2, k3, k4, k5, k6, l3, l4, l5, l6, frac_same _ _ A3 (by omega), frac_same _ _ B3 (by omega)]
    omega
  obtain ⟨u1, u2⟩ := M_up hWl
  obtain ⟨e1, e2, _⟩ := E_bounds n2 n64 k1 k2
  have J1 := fun w => Join_yes W n k w fk
  rw [k3, k4, k5, k6, ← hW] at J1
  have J2 := fun w => Join_yes W n l w fl
  rw [l3, l4, l5, l6, ← hW] at J2
  have V1 := fun w hT => Value_yes W n k w hT fk
  rw [← hW] at V1
  have V2 := fun w hT => Value_yes W n l w hT fl
  rw [u1, u2, ← hW] at V2
  have pA := pow_le (show A ≤ 60 from A60)
  have pB := pow_le (show B ≤ 60 from B60)
  have gA := frac_fits (a3 % 8) A A3 hf8
  have gB := frac_fits (a3 % 8) B B3 hf8
  exact regimes_yes a0 a1 a2 a3 q (q + 1) A B (fE n k) (fE n k + 4) ex _ (A - 3) (B - 3) (a3 % 8 * 2 ^ (A - 3)) (a3 % 8 * 2 ^ (B - 3)) k l (fM n k) w hT hq hex rfl ha hA hB
    (by simpa using hc) (by simpa using hc2) (IntWalk.wrap64_in _ (by omega)) (by rw [IntWalk.wrap64_in _ (by omega)]; omega) (by rw [IntWalk.wrap64_in _ (by omega)]; omega) (by omega) (by omega)
    (wrap_shl _ _ (by omega)) (wrap_shl _ _ (by omega)) J1 J2 V1 V2 (IntWalk.wrap64_in _ (by omega)) (by simpa using (W_lt_iff n2 n64 k1 k2 l1 l2).1 (by omega))
theorem walk_PositRegimes (a0 : Int) (_ : (Lit.int .i64 a0).wf = true) (a1 : Int) (_ : (Lit.int .i64 a1).wf = true) (a2 : Int) (_ : (Lit.int .i64 a2).wf = true) (a3 : Int) (w3 : (Lit.int .u64 a3).wf = true) (w : World) (hT : Tab w) :
    Calls Tryd.prog 10 #[.int .i64 a0, .int .i64 a1, .int .i64 a2, .int .u64 a3] w fun e w' => e = .returned (.bool true) ∧ Below w.heap.size w w' := by
  obtain ⟨k, rfl, hk⟩ := u64_nat w3
  exact regimes_any a0 a1 a2 k hk w hT
end Go.Proofs.YtfmecakoccnblaaDoor

/- caliperlaw02.ExactScaled walked. Conditions: as each theorem names them. -/
import Derived.Test.YteiajccjlbghoaaXlx
set_option linter.unusedVariables false
namespace Go.Proofs.Yteiajccjlbghoaa
open Go.RowKit

theorem inB_of {s : Int} (h : -5000 ≤ s ∧ s ≤ 5000) : inB s = true := by unfold inB; simp [h.1, h.2]
theorem i64_and31 (n : Int) : bits .and .i64 n 31 = n % 32 := by
  have h31 : (BitVec.ofInt 64 31).toNat = 2 ^ 5 - 1 := by decide
  have key : (BitVec.ofInt 64 n &&& BitVec.ofInt 64 31).toNat = (n % ((2 ^ 64 : Nat) : Int)).toNat % 2 ^ 5 := by
    rw [BitVec.toNat_and, BitVec.toNat_ofInt, h31, Nat.and_two_pow_sub_one_eq_mod]
  show IntKind.i64.wrap ((BitVec.ofInt 64 n &&& BitVec.ofInt 64 31).toNat : Nat) = n % 32
  rw [key, IntKind.wrap_i64]
  omega
theorem tenx_down (k : Int) (j : Nat) (h : -40000 ≤ k - j) : tenx k = 10 ^ j * tenx (k - j) := by
  induction j with
  | zero => simp
  | succ j ih =>
    have e := tenx_succ (k := k - ((j + 1 : Nat) : Int)) (by omega)
    rw [ih (by omega), show k - (j : Int) = k - ((j + 1 : Nat) : Int) + 1 by omega, e, Nat.pow_succ, Nat.mul_assoc]
theorem vx_down (D : Nat) (k : Int) (j : Nat) (h : -40000 ≤ k - j) : vx (D * 10 ^ j) (k - j) (k - j) = vx D k k := by
  rw [vx_ten, vx_ten, tenx_down k j h, Nat.mul_assoc]
theorem ten_bits (j : Nat) : 10 ^ j < 2 ^ (4 * j + 1) := by
  have h : 10 ^ j ≤ 16 ^ j := Nat.pow_le_pow_left (by decide) j
  have e : (16 : Nat) ^ j = 2 ^ (4 * j) := by rw [Nat.pow_mul]
  have := Nat.two_pow_pos (4 * j)
  rw [Nat.pow_succ]
  omega
theorem fit_of {N b : Nat} (h : N < 2 ^ b) (hb : b ≤ 8192) : fitB N = true := by
  unfold fitB
  exact decide_eq_true (Nat.lt_of_lt_of_le h (Nat.pow_le_pow_right (by decide) hb))
theorem dec_ok (neg : Bool) (v : Value) (N b : Nat) (k : Int) (w : World) (h : IsN w v N) (hN : N < 2 ^ b) (hb : b ≤ 8192) (hk : inB k = true) :
    Calls Try.prog 26 #[.bool neg, v, .int .i64 k] w fun e w' => (∃ A n c, e = .returned (.tuple #[xv neg (.slice A n c) k k, .bool true]) ∧ XOk w' (.slice A n c) N k k) ∧ Below w.heap.size w w' := by
  refine (dec_N neg v N k w h).mono ?_
  have hf := fit_of hN hb
  rintro e w' ⟨⟨r, rfl, ⟨_, A, n, c, h1, rfl⟩ | ⟨h1, _⟩⟩, hb'⟩
  · have hr := inB_true hk
    exact ⟨⟨A, n, c, rfl, h1.isn, Nat.le_trans (bitsN_le hN) (by omega), by omega, by omega, by omega, by omega⟩, hb'⟩
  · rw [hf, hk] at h1; exact absurd h1 (by decide)
theorem pow10_N (j : Nat) (w : World) (h : j ≤ 31) : Calls Try.prog 32 #[.int .u64 10, .int .i64 j] w fun e w' => (∃ r, e = .returned r ∧ IsN w' r (10 ^ j)) ∧ Below w.heap.size w w' := pow_N 10 j j w (by decide) (by omega)
set_option maxRecDepth 100000 in
set_option maxHeartbeats 40000000 in
theorem walk_ExactScaled (A : Option Addr) (n c : Nat) (F : Nat → Nat) (k0 m0 : Int) (neg : Bool) (w : World) (hA : RdW w A n c F) (wk : (Lit.int .i64 k0).wf = true) (wm : (Lit.int .i64 m0).wf = true) :
    Calls Try.prog 7 #[.slice A n c, .int .i64 k0, .int .i64 m0, .bool neg] w fun e w' => e = .returned (.bool true) ∧ Below w.heap.size w w' := by
  have HA := Lib.hid hA
  obtain ⟨l, hl⟩ : ∃ l, min n 6 = l := ⟨_, rfl⟩
  have hln : l ≤ n := by omega
  have hl6 : l ≤ 6 := by omega
  have hnc := hA.len
  have hsm := hA.small
  have hlc : l ≤ c := by omega
  have hli : min (n : Int) 6 = (l : Int) := by omega
  have hlci : (l : Int) ≤ (c : Int) := by omega
  have hl0 : (0 : Int) ≤ (l : Int) := by omega
  obtain ⟨D, hD⟩ : ∃ D, S F l = D := ⟨_, rfl⟩
  have hDb : bitsN D ≤ 384 := by rw [← hD]; exact twelve (fun i hi => hA.word i (by omega)) (by omega)
  have CN := Lib.hid (fun w' (h : RdW w' A n c F) => norm_F A l c F w' (h.first hln (by omega)))
  rw [hD] at CN
  obtain ⟨k, hk⟩ : ∃ k, k0.tmod 301 = k := ⟨_, rfl⟩
  have rk : -300 ≤ k ∧ k ≤ 300 := by rw [← hk]; exact tmod_range k0 300
  have wk1 : IntKind.i64.wrap k = k := IntWalk.i64_in _ (by omega)
  obtain ⟨j, hj⟩ : ∃ j : Nat, m0 % 32 = (j : Int) := ⟨(m0 % 32).toNat, by omega⟩
  have hj31 : j ≤ 31 := by omega
  have hand : bits .and .i64 m0 31 = (j : Int) := by rw [i64_and31, hj]
  have wk2 : IntKind.i64.wrap (k - (j : Int)) = k - (j : Int) := IntWalk.i64_in _ (by omega)
  clear hA hD wk wm hj
  have RG := Lib.hid (And.intro rk (And.intro hj31 hDb))
  clear rk
  go_enter Try.func7, Try.ntmps7
  go_wp2_with fail
  refine at_world ?_
  intro W1 hW1
  subst hW1
  have G_1 : Hid (Below W1.heap.size W1 W1) := Lib.hid (Below.refl _ _)
  have R_1 : Hid (RdW W1 A n c F) := HA
  clear HA
  have C1 := Lib.hid (shown_true W1)
  with_reducible (refine C1.out.mono ?_)
  rintro e w1 ⟨rfl, b1⟩
  have G_6 := Lib.hid (bthen G_1.out b1)
  have R_6 := Lib.hid (R_1.out.below b1)
  clear G_1 R_1
  clear b1 C1
  go_wp2_with fail
  refine at_world ?_
  intro W2 hW2
  have G_7 : Hid (Below W1.heap.size W1 W2) := Lib.hid (by rw [hW2]; exact G_6.out)
  have R_7 : Hid (RdW W2 A n c F) := Lib.hid (by rw [hW2]; exact R_6.out)
  clear G_6 R_6
  clear hW2
  with_reducible (refine (CN.out W2 R_7.out).mono ?_)
  rintro _ w2 ⟨⟨A2, n2, c2, rfl, j2⟩, b2⟩
  clear R_7
  have G_8 := Lib.hid (bthen G_7.out b2)
  clear G_7
  have D_9 : Hid (IsN w2 (.slice A2 n2 c2) D) := Lib.hid (j2.isn)
  clear b2 j2 CN
  go_wp2_with fail
  refine at_world ?_
  intro W3 hW3
  have G_10 : Hid (Below W1.heap.size W1 W3) := Lib.hid (by rw [hW3]; exact G_8.out)
  have D_10 : Hid (IsN W3 (.slice A2 n2 c2) D) := Lib.hid (by rw [hW3]; exact D_9.out)
  clear G_8 D_9
  clear hW3
  have ik : inB k = true := inB_of (by have := RG.out; omega)
  have ik2 : inB (k - (j : Int)) = true := inB_of (by have := RG.out; omega)
  have D3 := Lib.hid (dec_ok neg (.slice A2 n2 c2) D (bitsN D) k W3 D_10.out (bitsN_lt D) (by have := RG.out; omega) ik)
  unfold xv at D3
  with_reducible (refine D3.out.mono ?_)
  rintro _ w3 ⟨⟨xA, xn, xc, rfl, j3⟩, b3⟩
  have G_11 := Lib.hid (bthen G_10.out b3)
  have D_11 := Lib.hid (D_10.out.below b3)
  clear G_10 D_10
  have O_12 : Hid (XOk w3 (.slice xA xn xc) D k k) := Lib.hid (j3)
  clear b3 j3 D3
  go_wp2_with fail
  refine at_world ?_
  intro W4 hW4
  have G_13 : Hid (Below W1.heap.size W1 W4) := Lib.hid (by rw [hW4]; exact (bgrow G_11.out _))
  have D_13 : Hid (IsN W4 (.slice A2 n2 c2) D) := Lib.hid (by rw [hW4]; exact (D_11.out.alloc _))
  have O_13 : Hid (XOk W4 (.slice xA xn xc) D k k) := Lib.hid (by rw [hW4]; exact (O_12.out.alloc _))
  clear G_11 D_11 O_12
  have X_14 : Hid (XB W4 w3.heap.size neg (.slice xA xn xc) k k) := Lib.hid (by rw [hW4]; exact XB.new _ _ _ _ _)
  clear hW4
  with_reducible (refine (pow10_N j W4 (by have := RG.out; omega)).mono ?_)
  rintro _ w4 ⟨⟨v4, rfl, j4⟩, b4⟩
  obtain ⟨A4, n4, c4, rfl, -⟩ := nlen j4
  have G_15 := Lib.hid (bthen G_13.out b4)
  have D_15 := Lib.hid (D_13.out.below b4)
  have O_15 := Lib.hid (O_13.out.below b4)
  have X_15 := Lib.hid (X_14.out.below b4)
  clear G_13 D_13 O_13 X_14
  have P_16 : Hid (IsN w4 (.slice A4 n4 c4) (10 ^ j)) := Lib.hid (j4)
  clear b4 j4
  obtain ⟨q1a, q1b, q1c, q1d, q1e, q1f, q1g, q1h, q1i, q1j⟩ := X_15.out.cells
  go_wp2_with fail
  refine at_world ?_
  intro W5 hW5
  clear q1a q1b q1c q1d q1e q1f q1g q1h q1i q1j
  have G_17 : Hid (Below W1.heap.size W1 W5) := Lib.hid (by rw [hW5]; exact G_15.out)
  have D_17 : Hid (IsN W5 (.slice A2 n2 c2) D) := Lib.hid (by rw [hW5]; exact D_15.out)
  have O_17 : Hid (XOk W5 (.slice xA xn xc) D k k) := Lib.hid (by rw [hW5]; exact O_15.out)
  have X_17 : Hid (XB W5 w3.heap.size neg (.slice xA xn xc) k k) := Lib.hid (by rw [hW5]; exact X_15.out)
  have P_17 : Hid (IsN W5 (.slice A4 n4 c4) (10 ^ j)) := Lib.hid (by rw [hW5]; exact P_16.out)
  clear G_15 D_15 O_15 X_15 P_16
  clear hW5
  with_reducible (refine (mul_N (.slice A2 n2 c2) (.slice A4 n4 c4) D (10 ^ j) (bitsN D) (4 * j + 1) W5 D_17.out P_17.out (bitsN_lt D) (ten_bits j) (by have := RG.out; omega) (by have := RG.out; omega)).mono ?_)
  rintro _ w5 ⟨⟨v5, rfl, j5⟩, b5⟩
  obtain ⟨A5, n5, c5, rfl, -⟩ := nlen j5
  have G_18 := Lib.hid (bthen G_17.out b5)
  have D_18 := Lib.hid (D_17.out.below b5)
  have O_18 := Lib.hid (O_17.out.below b5)
  have X_18 := Lib.hid (X_17.out.below b5)
  have P_18 := Lib.hid (P_17.out.below b5)
  clear G_17 D_17 O_17 X_17 P_17
  have E_19 : Hid (IsN w5 (.slice A5 n5 c5) (D * 10 ^ j)) := Lib.hid (j5)
  clear b5 j5
  obtain ⟨q2a, q2b, q2c, q2d, q2e, q2f, q2g, q2h, q2i, q2j⟩ := X_18.out.cells
  go_wp2_with fail
  refine at_world ?_
  intro W6 hW6
  clear q2a q2b q2c q2d q2e q2f q2g q2h q2i q2j
  have G_20 : Hid (Below W1.heap.size W1 W6) := Lib.hid (by rw [hW6]; exact G_18.out)
  have D_20 : Hid (IsN W6 (.slice A2 n2 c2) D) := Lib.hid (by rw [hW6]; exact D_18.out)
  have O_20 : Hid (XOk W6 (.slice xA xn xc) D k k) := Lib.hid (by rw [hW6]; exact O_18.out)
  have X_20 : Hid (XB W6 w3.heap.size neg (.slice xA xn xc) k k) := Lib.hid (by rw [hW6]; exact X_18.out)
  have P_20 : Hid (IsN W6 (.slice A4 n4 c4) (10 ^ j)) := Lib.hid (by rw [hW6]; exact P_18.out)
  have E_20 : Hid (IsN W6 (.slice A5 n5 c5) (D * 10 ^ j)) := Lib.hid (by rw [hW6]; exact E_19.out)
  clear G_18 D_18 O_18 X_18 P_18 E_19
  clear hW6
  have D6 := Lib.hid (dec_ok neg (.slice A5 n5 c5) (D * 10 ^ j) (bitsN D + (4 * j + 1)) (k - (j : Int)) W6 E_20.out (mul_bits (bitsN_lt D) (ten_bits j)) (by have := RG.out; omega) ik2)
  unfold xv at D6
  with_reducible (refine D6.out.mono ?_)
  rintro _ w6 ⟨⟨yA, yn, yc, rfl, j6⟩, b6⟩
  have G_21 := Lib.hid (bthen G_20.out b6)
  have D_21 := Lib.hid (D_20.out.below b6)
  have O_21 := Lib.hid (O_20.out.below b6)
  have X_21 := Lib.hid (X_20.out.below b6)
  have P_21 := Lib.hid (P_20.out.below b6)
  have E_21 := Lib.hid (E_20.out.below b6)
  clear G_20 D_20 O_20 X_20 P_20 E_20
  have U_22 : Hid (XOk w6 (.slice yA yn yc) (D * 10 ^ j) (k - (j : Int)) (k - (j : Int))) := Lib.hid (j6)
  clear b6 j6 D6
  clear D_21 P_21 E_21
  have ev : vx (D * 10 ^ j) (k - (j : Int)) (k - (j : Int)) = vx D k k := vx_down D k j (by have := RG.out; omega)
  have ez : D * 10 ^ j = 0 ↔ D = 0 := by
    constructor
    · intro h
      rcases Nat.mul_eq_zero.1 h with h | h
      · exact h
      · have := Nat.pow_pos (n := j) (show 0 < 10 by decide); omega
    · intro h; rw [h, Nat.zero_mul]
  have x1 : xcmp D k k (D * 10 ^ j) (k - (j : Int)) (k - (j : Int)) = 0 := by unfold xcmp; rw [ev]; exact (cmpN_cases _ _).2.2.2 rfl
  have x2 : cmpI (sx neg D k k) (sx neg (D * 10 ^ j) (k - (j : Int)) (k - (j : Int))) = 0 := by unfold sx; rw [ev]; unfold cmpI; simp
  obtain ⟨N, hN⟩ : ∃ N, D * 10 ^ j = N := ⟨_, rfl⟩
  have ir : -400 ≤ (k - (j : Int)) ∧ (k - (j : Int)) ≤ 400 := by have := RG.out; omega
  have Nb : bitsN N ≤ 9000 := by rw [← hN]; exact Nat.le_trans (bitsN_le (mul_bits (bitsN_lt D) (ten_bits j))) (by have := RG.out; omega)
  rw [hN] at ev x1 x2 ez U_22
  have KC := Lib.hid (fun w1 h1 h2 => cmp_X neg neg (.slice xA xn xc) (.slice yA yn yc) k k (k - (j : Int)) (k - (j : Int)) D N 0 w1 h1 h2 x1)
  have KS := Lib.hid (fun w1 h1 h2 => sgn_X neg neg (.slice xA xn xc) (.slice yA yn yc) k k (k - (j : Int)) (k - (j : Int)) D N 0 w1 h1 h2 x2)
  have KL := Lib.hid (fun w1 h1 => log_X neg (.slice xA xn xc) k k D w1 h1 (by have := RG.out; omega) (by have := RG.out; omega) (by have := RG.out; omega))
  have KM := Lib.hid (fun w1 h1 => log_X neg (.slice yA yn yc) (k - (j : Int)) (k - (j : Int)) N w1 h1 (by omega) (by omega) Nb)
  unfold xv at KC KS KL KM
  have HEV := Lib.hid (And.intro ev ez)
  clear x1 x2 ev ez hN ik ik2 Nb
  have IR := Lib.hid ir
  clear ir
  obtain ⟨q3a, q3b, q3c, q3d, q3e, q3f, q3g, q3h, q3i, q3j⟩ := X_21.out.cells
  go_wp2_with fail
  refine at_code ?_
  intro W7 hW7
  clear q3a q3b q3c q3d q3e q3f q3g q3h q3i q3j
  have G_23 : Hid (Below W1.heap.size W1 W7) := Lib.hid (by rw [hW7]; exact (bgrow G_21.out _))
  have O_23 : Hid (XOk W7 (.slice xA xn xc) D k k) := Lib.hid (by rw [hW7]; exact (O_21.out.alloc _))
  have X_23 : Hid (XB W7 w3.heap.size neg (.slice xA xn xc) k k) := Lib.hid (by rw [hW7]; exact (X_21.out.alloc _))
  have U_23 : Hid (XOk W7 (.slice yA yn yc) N (k - (j : Int)) (k - (j : Int))) := Lib.hid (by rw [hW7]; exact (U_22.out.alloc _))
  clear G_21 O_21 X_21 U_22
  have Y_24 : Hid (XB W7 w6.heap.size neg (.slice yA yn yc) (k - (j : Int)) (k - (j : Int))) := Lib.hid (by rw [hW7]; exact XB.new _ _ _ _ _)
  clear hW7
  have K1_7 : Hid (∀ w', Hid (Below W7.heap.size W7 w') → Hid (Below W7.heap.size W7 w') ∧ (w'.cell? { block := w3.heap.size, off := 0 } = some (.bool neg) ∧ w'.cell? { block := w3.heap.size, off := 1 } = some (.slice xA xn xc) ∧ w'.cell? { block := w3.heap.size, off := 2 } = some (.int .i64 k) ∧ w'.cell? { block := w3.heap.size, off := 3 } = some (.int .i64 k)) ∧ (w'.cell? { block := w6.heap.size, off := 0 } = some (.bool neg) ∧ w'.cell? { block := w6.heap.size, off := 1 } = some (.slice yA yn yc) ∧ w'.cell? { block := w6.heap.size, off := 2 } = some (.int .i64 (k - (j : Int))) ∧ w'.cell? { block := w6.heap.size, off := 3 } = some (.int .i64 (k - (j : Int))))) := Lib.hid (fun w' h => ⟨h, (X_23.out.below h.out).four, (Y_24.out.below h.out).four⟩)
  have KS_7 := Lib.hid (fun w1 w2 (h : Hid (Below W7.heap.size W7 w1)) (b : Below w1.heap.size w1 w2) => K1_7.out w2 (hbthen h b))
  have K0_7 := Lib.hid (K1_7.out _ (Lib.hid (bdrewN (Below.refl _ _) 1)))
  go_region_held3 (fun w' => Hid (Below W7.heap.size W7 w') ∧ (w'.cell? { block := w3.heap.size, off := 0 } = some (.bool neg) ∧ w'.cell? { block := w3.heap.size, off := 1 } = some (.slice xA xn xc) ∧ w'.cell? { block := w3.heap.size, off := 2 } = some (.int .i64 k) ∧ w'.cell? { block := w3.heap.size, off := 3 } = some (.int .i64 k)) ∧ (w'.cell? { block := w6.heap.size, off := 0 } = some (.bool neg) ∧ w'.cell? { block := w6.heap.size, off := 1 } = some (.slice yA yn yc) ∧ w'.cell? { block := w6.heap.size, off := 2 } = some (.int .i64 (k - (j : Int))) ∧ w'.cell? { block := w6.heap.size, off := 3 } = some (.int .i64 (k - (j : Int)))))
    (first | assumption | exact K0_7.out | exact KS_7.out _ _ (And.left (by assumption)) (by assumption))
    (first | ((go_at_call 15); (with_reducible (refine Calls.mono (KC.out _ (O_23.out.below (Hid.out (And.left (by assumption)))) (U_23.out.below (Hid.out (And.left (by assumption))))) ?_)); (rintro e wz ⟨rfl, ba⟩))
           | ((go_at_call 28); (with_reducible (refine Calls.mono (KS.out _ (O_23.out.below (Hid.out (And.left (by assumption)))) (U_23.out.below (Hid.out (And.left (by assumption))))) ?_)); (rintro e wz ⟨rfl, ba⟩))
           | ((go_at_call 19); (with_reducible (refine Calls.mono (KL.out _ (O_23.out.below (Hid.out (And.left (by assumption))))) ?_)); (rintro e wz ⟨⟨la, rfl, hla⟩, ba⟩))
           | ((go_at_call 19); (with_reducible (refine Calls.mono (KM.out _ (U_23.out.below (Hid.out (And.left (by assumption))))) ?_)); (rintro e wz ⟨⟨lb, rfl, hlb⟩, ba⟩)))
  rename_i hS7
  have b7 := hS7.1.out
  have G_25 := Lib.hid (bthen G_23.out b7)
  have O_25 := Lib.hid (O_23.out.below b7)
  have X_25 := Lib.hid (X_23.out.below b7)
  have U_25 := Lib.hid (U_23.out.below b7)
  have Y_25 := Lib.hid (Y_24.out.below b7)
  clear G_23 O_23 X_23 U_23 Y_24
  clear b7 K1_7 KS_7 K0_7
  obtain rfl : lb = la := hlb.uniq hla HEV.out.1 HEV.out.2
  clear hla hlb KC KS KL KM
  obtain ⟨q4a, q4b, q4c, q4d, q4e, q4f, q4g, q4h, q4i, q4j⟩ := X_25.out.cells
  obtain ⟨q5a, q5b, q5c, q5d, q5e, q5f, q5g, q5h, q5i, q5j⟩ := Y_25.out.cells
  go_wp2_with fail
  refine at_world ?_
  intro W8 hW8
  clear q4a q4b q4c q4d q4e q4f q4g q4h q4i q4j q5a q5b q5c q5d q5e q5f q5g q5h q5i q5j
  have G_26 : Hid (Below W1.heap.size W1 W8) := Lib.hid (by rw [hW8]; exact G_25.out)
  have O_26 : Hid (XOk W8 (.slice xA xn xc) D k k) := Lib.hid (by rw [hW8]; exact O_25.out)
  have X_26 : Hid (XB W8 w3.heap.size neg (.slice xA xn xc) k k) := Lib.hid (by rw [hW8]; exact X_25.out)
  have U_26 : Hid (XOk W8 (.slice yA yn yc) N (k - (j : Int)) (k - (j : Int))) := Lib.hid (by rw [hW8]; exact U_25.out)
  have Y_26 : Hid (XB W8 w6.heap.size neg (.slice yA yn yc) (k - (j : Int)) (k - (j : Int))) := Lib.hid (by rw [hW8]; exact Y_25.out)
  clear G_25 O_25 X_25 U_25 Y_25
  clear hW8
  rcases Nat.eq_zero_or_pos D with hD | hD
  · have hN : N = 0 := HEV.out.2.2 hD
    have K1 := Lib.hid (red_zero neg (.slice xA xn xc) k k W8 (O_26.out.isn.eq hD))
    have K2 := Lib.hid (fun w1 (h : XOk w1 (.slice yA yn yc) N (k - (j : Int)) (k - (j : Int))) => red_zero neg (.slice yA yn yc) (k - (j : Int)) (k - (j : Int)) w1 (h.isn.eq hN))
    unfold xv at K1 K2
    clear hN hD
    with_reducible (refine K1.out.mono ?_)
    rintro _ w8 ⟨rfl, b8⟩
    have G_27 := Lib.hid (bthen G_26.out b8)
    have O_27 := Lib.hid (O_26.out.below b8)
    have X_27 := Lib.hid (X_26.out.below b8)
    have U_27 := Lib.hid (U_26.out.below b8)
    have Y_27 := Lib.hid (Y_26.out.below b8)
    clear G_26 O_26 X_26 U_26 Y_26
    clear b8 K1
    obtain ⟨q6a, q6b, q6c, q6d, q6e, q6f, q6g, q6h, q6i, q6j⟩ := X_27.out.cells
    obtain ⟨q7a, q7b, q7c, q7d, q7e, q7f, q7g, q7h, q7i, q7j⟩ := Y_27.out.cells
    go_wp2_with fail
    refine at_world ?_
    intro W9 hW9
    clear q6a q6b q6c q6d q6e q6f q6g q6h q6i q6j q7a q7b q7c q7d q7e q7f q7g q7h q7i q7j
    have G_28 : Hid (Below W1.heap.size W1 W9) := Lib.hid (by rw [hW9]; exact (bgrow G_27.out _))
    have O_28 : Hid (XOk W9 (.slice xA xn xc) D k k) := Lib.hid (by rw [hW9]; exact (O_27.out.alloc _))
    have X_28 : Hid (XB W9 w3.heap.size neg (.slice xA xn xc) k k) := Lib.hid (by rw [hW9]; exact (X_27.out.alloc _))
    have U_28 : Hid (XOk W9 (.slice yA yn yc) N (k - (j : Int)) (k - (j : Int))) := Lib.hid (by rw [hW9]; exact (U_27.out.alloc _))
    have Y_28 : Hid (XB W9 w6.heap.size neg (.slice yA yn yc) (k - (j : Int)) (k - (j : Int))) := Lib.hid (by rw [hW9]; exact (Y_27.out.alloc _))
    clear G_27 O_27 X_27 U_27 Y_27
    have A_29 : Hid (XB W9 w8.heap.size neg (.slice none 0 0) 0 0) := Lib.hid (by rw [hW9]; exact XB.new _ _ _ _ _)
    clear hW9
    with_reducible (refine (K2.out _ U_28.out).mono ?_)
    rintro _ w9 ⟨rfl, b9⟩
    have G_30 := Lib.hid (bthen G_28.out b9)
    have O_30 := Lib.hid (O_28.out.below b9)
    have X_30 := Lib.hid (X_28.out.below b9)
    have U_30 := Lib.hid (U_28.out.below b9)
    have Y_30 := Lib.hid (Y_28.out.below b9)
    have A_30 := Lib.hid (A_29.out.below b9)
    clear G_28 O_28 X_28 U_28 Y_28 A_29
    clear b9 K2
    have KZ := Lib.hid (fun w1 => cmpB (.slice none 0 0) (.slice none 0 0) 0 0 0 w1 (isN_none w1) (isN_none w1) rfl)
    obtain ⟨q8a, q8b, q8c, q8d, q8e, q8f, q8g, q8h, q8i, q8j⟩ := X_30.out.cells
    obtain ⟨q9a, q9b, q9c, q9d, q9e, q9f, q9g, q9h, q9i, q9j⟩ := Y_30.out.cells
    obtain ⟨q10a, q10b, q10c, q10d, q10e, q10f, q10g, q10h, q10i, q10j⟩ := A_30.out.cells
    go_wp2_with fail
    refine at_world ?_
    intro W10 hW10
    clear q8a q8b q8c q8d q8e q8f q8g q8h q8i q8j q9a q9b q9c q9d q9e q9f q9g q9h q9i q9j q10a q10b q10c q10d q10e q10f q10g q10h q10i q10j
    have G_31 : Hid (Below W1.heap.size W1 W10) := Lib.hid (by rw [hW10]; exact (bgrow G_30.out _))
    have O_31 : Hid (XOk W10 (.slice xA xn xc) D k k) := Lib.hid (by rw [hW10]; exact (O_30.out.alloc _))
    have X_31 : Hid (XB W10 w3.heap.size neg (.slice xA xn xc) k k) := Lib.hid (by rw [hW10]; exact (X_30.out.alloc _))
    have U_31 : Hid (XOk W10 (.slice yA yn yc) N (k - (j : Int)) (k - (j : Int))) := Lib.hid (by rw [hW10]; exact (U_30.out.alloc _))
    have Y_31 : Hid (XB W10 w6.heap.size neg (.slice yA yn yc) (k - (j : Int)) (k - (j : Int))) := Lib.hid (by rw [hW10]; exact (Y_30.out.alloc _))
    have A_31 : Hid (XB W10 w8.heap.size neg (.slice none 0 0) 0 0) := Lib.hid (by rw [hW10]; exact (A_30.out.alloc _))
    clear G_30 O_30 X_30 U_30 Y_30 A_30
    have B_32 : Hid (XB W10 w9.heap.size neg (.slice none 0 0) 0 0) := Lib.hid (by rw [hW10]; exact XB.new _ _ _ _ _)
    clear hW10
    with_reducible (refine (KZ.out _).mono ?_)
    rintro _ w10 ⟨rfl, b10⟩
    have G_33 := Lib.hid (bthen G_31.out b10)
    have O_33 := Lib.hid (O_31.out.below b10)
    have X_33 := Lib.hid (X_31.out.below b10)
    have U_33 := Lib.hid (U_31.out.below b10)
    have Y_33 := Lib.hid (Y_31.out.below b10)
    have A_33 := Lib.hid (A_31.out.below b10)
    have B_33 := Lib.hid (B_32.out.below b10)
    clear G_31 O_31 X_31 U_31 Y_31 A_31 B_32
    obtain ⟨q11a, q11b, q11c, q11d, q11e, q11f, q11g, q11h, q11i, q11j⟩ := X_33.out.cells
    obtain ⟨q12a, q12b, q12c, q12d, q12e, q12f, q12g, q12h, q12i, q12j⟩ := Y_33.out.cells
    obtain ⟨q13a, q13b, q13c, q13d, q13e, q13f, q13g, q13h, q13i, q13j⟩ := A_33.out.cells
    obtain ⟨q14a, q14b, q14c, q14d, q14e, q14f, q14g, q14h, q14i, q14j⟩ := B_33.out.cells
    go_wp2_with fail
    go_ret
    exact ⟨rfl, G_33.out⟩
  · have hN : 0 < N := by
      rcases Nat.eq_zero_or_pos N with h0 | h0
      · have := HEV.out.2.1 h0; omega
      · exact h0
    have K1 := Lib.hid (red_pos neg (.slice xA xn xc) k k D W8 O_26.out hD)
    have K2 := Lib.hid (fun w1 (h : XOk w1 (.slice yA yn yc) N (k - (j : Int)) (k - (j : Int))) => red_pos neg (.slice yA yn yc) (k - (j : Int)) (k - (j : Int)) N w1 h hN)
    unfold xv at K1 K2
    clear hN hD
    with_reducible (refine K1.out.mono ?_)
    rintro _ w8 ⟨⟨aA, an, ac, at_, ag, aN, rfl, ja, jb⟩, b8⟩
    have G_27 := Lib.hid (bthen G_26.out b8)
    have O_27 := Lib.hid (O_26.out.below b8)
    have X_27 := Lib.hid (X_26.out.below b8)
    have U_27 := Lib.hid (U_26.out.below b8)
    have Y_27 := Lib.hid (Y_26.out.below b8)
    clear G_26 O_26 X_26 U_26 Y_26
    have M_28 : Hid (IsN w8 (.slice aA an ac) aN) := Lib.hid (ja)
    have JB := Lib.hid jb
    clear b8 K1 ja jb
    obtain ⟨q6a, q6b, q6c, q6d, q6e, q6f, q6g, q6h, q6i, q6j⟩ := X_27.out.cells
    obtain ⟨q7a, q7b, q7c, q7d, q7e, q7f, q7g, q7h, q7i, q7j⟩ := Y_27.out.cells
    go_wp2_with fail
    refine at_world ?_
    intro W9 hW9
    clear q6a q6b q6c q6d q6e q6f q6g q6h q6i q6j q7a q7b q7c q7d q7e q7f q7g q7h q7i q7j
    have G_29 : Hid (Below W1.heap.size W1 W9) := Lib.hid (by rw [hW9]; exact (bgrow G_27.out _))
    have O_29 : Hid (XOk W9 (.slice xA xn xc) D k k) := Lib.hid (by rw [hW9]; exact (O_27.out.alloc _))
    have X_29 : Hid (XB W9 w3.heap.size neg (.slice xA xn xc) k k) := Lib.hid (by rw [hW9]; exact (X_27.out.alloc _))
    have U_29 : Hid (XOk W9 (.slice yA yn yc) N (k - (j : Int)) (k - (j : Int))) := Lib.hid (by rw [hW9]; exact (U_27.out.alloc _))
    have Y_29 : Hid (XB W9 w6.heap.size neg (.slice yA yn yc) (k - (j : Int)) (k - (j : Int))) := Lib.hid (by rw [hW9]; exact (Y_27.out.alloc _))
    have M_29 : Hid (IsN W9 (.slice aA an ac) aN) := Lib.hid (by rw [hW9]; exact (M_28.out.alloc _))
    clear G_27 O_27 X_27 U_27 Y_27 M_28
    have A_30 : Hid (XB W9 w8.heap.size neg (.slice aA an ac) at_ ag) := Lib.hid (by rw [hW9]; exact XB.new _ _ _ _ _)
    clear hW9
    with_reducible (refine (K2.out _ U_29.out).mono ?_)
    rintro _ w9 ⟨⟨bA, bn, bc, bt, bg, bN, rfl, ja, jb⟩, b9⟩
    obtain ⟨rfl, rfl, rfl⟩ := jb.uniq JB.out (by have := IR.out; omega) (by have := IR.out; omega) (by have := RG.out; omega) (by have := RG.out; omega) HEV.out.1
    have G_31 := Lib.hid (bthen G_29.out b9)
    have O_31 := Lib.hid (O_29.out.below b9)
    have X_31 := Lib.hid (X_29.out.below b9)
    have U_31 := Lib.hid (U_29.out.below b9)
    have Y_31 := Lib.hid (Y_29.out.below b9)
    have M_31 := Lib.hid (M_29.out.below b9)
    have A_31 := Lib.hid (A_30.out.below b9)
    clear G_29 O_29 X_29 U_29 Y_29 M_29 A_30
    have V_32 : Hid (IsN w9 (.slice bA bn bc) bN) := Lib.hid (ja)
    clear b9 K2 ja jb
    have KZ := Lib.hid (fun w1 h1 h2 => cmpB (.slice aA an ac) (.slice bA bn bc) bN bN 0 w1 h1 h2 ((cmpN_cases _ _).2.2.2 rfl))
    obtain ⟨q8a, q8b, q8c, q8d, q8e, q8f, q8g, q8h, q8i, q8j⟩ := X_31.out.cells
    obtain ⟨q9a, q9b, q9c, q9d, q9e, q9f, q9g, q9h, q9i, q9j⟩ := Y_31.out.cells
    obtain ⟨q10a, q10b, q10c, q10d, q10e, q10f, q10g, q10h, q10i, q10j⟩ := A_31.out.cells
    go_wp2_with fail
    refine at_world ?_
    intro W10 hW10
    clear q8a q8b q8c q8d q8e q8f q8g q8h q8i q8j q9a q9b q9c q9d q9e q9f q9g q9h q9i q9j q10a q10b q10c q10d q10e q10f q10g q10h q10i q10j
    have G_33 : Hid (Below W1.heap.size W1 W10) := Lib.hid (by rw [hW10]; exact (bgrow G_31.out _))
    have O_33 : Hid (XOk W10 (.slice xA xn xc) D k k) := Lib.hid (by rw [hW10]; exact (O_31.out.alloc _))
    have X_33 : Hid (XB W10 w3.heap.size neg (.slice xA xn xc) k k) := Lib.hid (by rw [hW10]; exact (X_31.out.alloc _))
    have U_33 : Hid (XOk W10 (.slice yA yn yc) N (k - (j : Int)) (k - (j : Int))) := Lib.hid (by rw [hW10]; exact (U_31.out.alloc _))
    have Y_33 : Hid (XB W10 w6.heap.size neg (.slice yA yn yc) (k - (j : Int)) (k - (j : Int))) := Lib.hid (by rw [hW10]; exact (Y_31.out.alloc _))
    have M_33 : Hid (IsN W10 (.slice aA an ac) bN) := Lib.hid (by rw [hW10]; exact (M_31.out.alloc _))
    have A_33 : Hid (XB W10 w8.heap.size neg (.slice aA an ac) bt bg) := Lib.hid (by rw [hW10]; exact (A_31.out.alloc _))
    have V_33 : Hid (IsN W10 (.slice bA bn bc) bN) := Lib.hid (by rw [hW10]; exact (V_32.out.alloc _))
    clear G_31 O_31 X_31 U_31 Y_31 M_31 A_31 V_32
    have B_34 : Hid (XB W10 w9.heap.size neg (.slice bA bn bc) bt bg) := Lib.hid (by rw [hW10]; exact XB.new _ _ _ _ _)
    clear hW10
    with_reducible (refine (KZ.out _ M_33.out V_33.out).mono ?_)
    rintro _ w10 ⟨rfl, b10⟩
    have G_35 := Lib.hid (bthen G_33.out b10)
    have O_35 := Lib.hid (O_33.out.below b10)
    have X_35 := Lib.hid (X_33.out.below b10)
    have U_35 := Lib.hid (U_33.out.below b10)
    have Y_35 := Lib.hid (Y_33.out.below b10)
    have M_35 := Lib.hid (M_33.out.below b10)
    have A_35 := Lib.hid (A_33.out.below b10)
    have V_35 := Lib.hid (V_33.out.below b10)
    have B_35 := Lib.hid (B_34.out.below b10)
    clear G_33 O_33 X_33 U_33 Y_33 M_33 A_33 V_33 B_34
    obtain ⟨q11a, q11b, q11c, q11d, q11e, q11f, q11g, q11h, q11i, q11j⟩ := X_35.out.cells
    obtain ⟨q12a, q12b, q12c, q12d, q12e, q12f, q12g, q12h, q12i, q12j⟩ := Y_35.out.cells
    obtain ⟨q13a, q13b, q13c, q13d, q13e, q13f, q13g, q13h, q13i, q13j⟩ := A_35.out.cells
    obtain ⟨q14a, q14b, q14c, q14d, q14e, q14f, q14g, q14h, q14i, q14j⟩ := B_35.out.cells
    go_wp2_with fail
    go_ret
    exact ⟨rfl, G_35.out⟩
end Go.Proofs.Yteiajccjlbghoaa

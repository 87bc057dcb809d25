/- package caliperref01's Over. Conditions: as each theorem names them. -/
import Derived.Test.YteiajccjlbghoaaHbits
import Derived.Test.YteiajccjlbghoaaXlw
import Derived.Test.YteiajccjlbghoaaHup
import Derived.Test.YteiajccjlbghoaaHminus
set_option linter.unusedVariables false
namespace Go.Proofs.Yteiajccjlbghoaa
open Go.RowKit

theorem lit_H {w : World} {x : Nat} (h : x < 4294967296) (h0 : 0 < x) : IsH (w.alloc (.cells #[.int .u64 x] 35)) (.slice (some ⟨w.heap.size, 0, none⟩) 1 1) x :=
  ⟨_, 1, 1, fun _ => x, rfl, Rd.row (one_row w _ 35) (by decide) (fun _ _ => Nat.lt_trans h (by decide)), fun _ _ => h, Or.inr (show x ≠ 0 by omega), by rw [T_succ, T_zero]; simp⟩
theorem one_H (w : World) : IsH (w.alloc (.cells #[.int .u64 1] 35)) (.slice (some ⟨w.heap.size, 0, none⟩) 1 1) 1 := lit_H (x := 1) (by decide) (by decide)
theorem five_H (w : World) : IsH (w.alloc (.cells #[.int .u64 5] 35)) (.slice (some ⟨w.heap.size, 0, none⟩) 1 1) 5 := lit_H (x := 5) (by decide) (by decide)
theorem up_one (u : Value) (M a : Nat) (w : World) (hu : IsH w u M) (hM : M < 2 ^ a) (ha : a ≤ 1048576) :
    Calls Try.prog 64 #[u, .int .i64 1] w fun e w' => (∃ r, e = .returned r ∧ IsH w' r (M * 2 ^ 1)) ∧ Below w.heap.size w w' := up_H u M a 1 w hu hM ha (by decide)
theorem nil_H (w : World) : IsH (w.alloc (.cells #[] 35)) (.slice (some ⟨w.heap.size, 0, none⟩) 0 0) 0 :=
  ⟨_, 0, 0, fun _ => 0, rfl, ⟨Nat.le_refl _, by decide, fun h => by simp at h, fun i hi => absurd hi (Nat.not_lt_zero _), fun h => absurd h (Nat.lt_irrefl _)⟩, fun i hi => absurd hi (Nat.not_lt_zero _), Or.inl rfl, rfl⟩
theorem T_upd_add (O : Nat → Nat) (k x : Nat) : ∀ n, k < n → T (upd O k (O k + x)) n = T O n + x * Hd ^ k := by
  intro n
  induction n with
  | zero => intro h; omega
  | succ n ih =>
    intro h
    rw [T_succ, T_succ]
    rcases Nat.eq_or_lt_of_le (Nat.le_of_lt_succ h) with e | e
    · subst e
      rw [upd_T _ _ _ _ (Nat.le_refl _), upd_at, Nat.add_mul, Nat.add_assoc]
    · rw [ih e, upd_ne _ _ (by omega)]
      omega
/-- where a bit is 0, setting it stays below a half word -/
theorem bit_room {x r : Nat} (hx : x < 4294967296) (hr : r < 32) (h : x / 2 ^ r % 2 = 0) : x + 2 ^ r < 4294967296 := by
  have h1 := Nat.div_add_mod x (2 ^ r)
  have h2 := Nat.mod_lt x (Nat.two_pow_pos r)
  have e : 2 ^ r * (2 * 2 ^ (31 - r)) = 4294967296 := by
    rw [← Nat.pow_succ', ← Nat.pow_add, show r + (31 - r).succ = 32 by omega]
  have h3 : x / 2 ^ r < 2 * 2 ^ (31 - r) := by
    apply Nat.div_lt_of_lt_mul
    rw [e]; exact hx
  have h4 : x / 2 ^ r + 2 ≤ 2 * 2 ^ (31 - r) := by omega
  have h5 : 2 ^ r * (x / 2 ^ r + 2) ≤ 2 ^ r * (2 * 2 ^ (31 - r)) := Nat.mul_le_mul_left _ h4
  rw [e, Nat.mul_add] at h5
  omega
theorem over_bit {O : Nat → Nat} {n X j q r : Nat} (hO : ∀ i, i < n → O i < Hd) (h : T O n = X * 2 ^ (j + 1)) (hj : j = 32 * q + r) (hr : r < 32) (hq : q < n) : O q + 2 ^ r < 4294967296 := by
  have h1 := bit_T (i := j) hO hj hr
  rw [h, Nat.pow_succ', ← Nat.mul_assoc, Nat.mul_div_cancel _ (Nat.two_pow_pos j), Nat.mul_mod_left, ext_in O hq] at h1
  exact bit_room (hO q hq) hr h1.symm
theorem half_down (P j : Nat) : P / 2 ^ j = 2 * (P / 2 ^ (j + 1)) + P / 2 ^ j % 2 := by
  rw [Nat.pow_succ, ← Nat.div_div_eq_div_mul]; omega

theorem over_any (A B : Option Addr) (n c m d : Nat) (F : Nat → Nat) (P Q a : Nat) (w : World) (hA : Rd w A n c F) (hF : ∀ i, i < n → F i < Hd) (hnm : Nm n F) (hP : T F n = P) (hB : IsH w (.slice B m d) Q) (hQ : 0 < Q) (hPa : P < 2 ^ a) (hQa : Q < 2 ^ a) (ha : a ≤ 1000000) :
    Calls Try.prog 41 #[.slice A n c, .slice B m d] w fun e w' => (∃ u v, e = .returned (.tuple #[u, v]) ∧ IsH w' u (P / Q) ∧ IsH w' v (P % Q)) ∧ Below w.heap.size w w' := by
  have hn : n ≤ 1048576 := len_of_half hnm hP hPa (by omega)
  have hIP : IsH w (.slice A n c) P := ⟨A, n, c, F, rfl, hA, hF, hnm, hP⟩
  obtain ⟨K, hK⟩ : ∃ K, bitsN P = K := ⟨_, rfl⟩
  have hKn : K ≤ 32 * n := by
    rw [← hK, ← hP]
    apply bitsN_le
    rw [← Hp_two]
    exact T_lt hF
  have hKP : P / 2 ^ K = 0 := by rw [← hK]; exact Nat.div_eq_of_lt (bitsN_lt P)
  have hmk := run_make_row' (P := Try.prog) 22 35 (.int .u64 0) 8 Try.underlying22 infoU rfl .i64 .i64 n (by omega) (by omega)
  have BI := Lib.hid (fun w' (h : IsH w' (.slice A n c) P) => bits_H (.slice A n c) P K w' h hK)
  have IP := Lib.hid hIP
  have IQ := Lib.hid hB
  have HP := Lib.hid (And.intro hKP (And.intro hPa (And.intro hQa hQ)))
  have PL := Lib.hid (fun u v R w' hu hv hR => plus_H u v R 1 (a + 1) w' hu hv hR (Nat.one_lt_two_pow (by omega)) (by omega))
  have UP := Lib.hid (fun u R w' hu hR => up_one u R a w' hu hR (by omega))
  have CP := Lib.hid (fun u R k w' hu hv hr => compare_H u (.slice B m d) R Q k w' hu hv hr)
  have MI := Lib.hid (fun u R w' hu hv hR hle => minus_H u (.slice B m d) R Q (a + 1) w' hu hv hR hle (by omega))
  clear hA hF hnm hP hB hIP hKP hK hPa hQa hQ
  go_enter Try.func41, Try.ntmps41
  go_wp2_with fail
  have B0 := Lib.hid (bgrow (bgrow (Below.refl w.heap.size w) (.cells (madeCells #[.int .u64 0] n) 35)) (.cells #[] 35))
  have R0 := Lib.hid ((Row.made w n).alloc (.cells #[] 35))
  have N0 := Lib.hid (nil_H (w.alloc (.cells (madeCells #[.int .u64 0] n) 35)))
  have IP0 := Lib.hid (IP.out.below B0.out)
  with_reducible (refine (BI.out _ IP0.out).mono ?_)
  rintro e w1 ⟨rfl, rfl⟩
  go_wp2_with fail
  go_loopw [7, 8] (fun v i wr => ∃ (k X R : Nat) (O : Nat → Nat) (V : Value), V = v ∧ k ≤ K ∧ i = .int .i64 k ∧ Hid (IsH wr V R) ∧ Hid (Row wr w.heap.size n O) ∧ Hid (∀ i, i < n → O i < Hd) ∧ Hid (T O n = X * 2 ^ k) ∧ Hid (P / 2 ^ k = X * Q + R ∧ R < Q) ∧ Hid (Below w.heap.size w wr)) (fun _ i _ => (intOf i).toNat)
  case atStart =>
    refine ⟨K, 0, 0, fun _ => 0, _, rfl, Nat.le_refl _, rfl, by first | exact N0 | exact Lib.hid (by simpa using N0.out), R0, Lib.hid (fun _ _ => Hd_pos), Lib.hid ?_, Lib.hid ⟨by rw [HP.out.1]; simp, HP.out.2.2.2⟩, B0⟩
    rw [T_zeros (F := fun _ => 0) (m := 0) (Nat.zero_le _) (fun _ _ _ => rfl), T_zero, Nat.zero_mul]
  case round =>
    obtain ⟨k, X, R, O, V, rfl, hk, rfl, hR, hrow, hO, hT, hXR, hBel⟩ := hrel
    rcases k with _ | j
    · have t1 : decide ((0 : Int) < ((0 : Nat) : Int)) = false := by decide
      have hr := hrow.out.rd (by omega) (fun i hi => Nat.lt_trans (hO.out i hi) (by decide))
      have HRR := Lib.hid hr
      have HX : Hid (P / Q = X ∧ P % Q = R) := Lib.hid (by
        obtain ⟨e1, e2⟩ := hXR.out
        rw [Nat.pow_zero, Nat.div_one] at e1
        have hq := HP.out.2.2.2
        constructor
        · rw [e1, Nat.mul_comm, Nat.mul_add_div hq, Nat.div_eq_of_lt e2, Nat.add_zero]
        · rw [e1, Nat.mul_comm, Nat.mul_add_mod, Nat.mod_eq_of_lt e2])
      clear hr
      go_wp2_with fail
      with_reducible (refine (rtrim_any _ n n O _ HRR.out).mono ?_)
      rintro e w' ⟨⟨x, hx, rfl⟩, rfl⟩
      have HTX := Lib.hid hx
      clear hx
      go_wp2_with fail
      go_ret2
      refine ⟨⟨_, _, rfl, ?_, ?_⟩, hBel.out⟩
      · rw [HX.out.1]
        exact trimH HRR.out hO.out HTX.out (by rw [hT.out, Nat.pow_zero, Nat.mul_one])
      · rw [HX.out.2]; exact hR.out
    · have t1 : decide ((0 : Int) < ((j + 1 : Nat) : Int)) = true := decide_eq_true (by omega)
      obtain ⟨e1, e2⟩ := hXR.out
      have e3 := half_down P j
      rw [e1] at e3
      obtain ⟨b, hb⟩ : ∃ b, P / 2 ^ j % 2 = b := ⟨_, rfl⟩
      have hb2 : b < 2 := by omega
      rw [hb] at e3
      have BT := Lib.hid (fun w' (h : IsH w' (.slice A n c) P) => bit_H (.slice A n c) P j _ w' h (by omega) rfl)
      rw [hb] at BT
      have hRa : R < 2 ^ a := Nat.lt_trans e2 HP.out.2.2.1
      have hRa2 : R * 2 ^ 1 < 2 ^ (a + 1) := by rw [Nat.pow_succ]; omega
      have hRa3 : R * 2 ^ 1 + 1 < 2 ^ (a + 1) := by rw [Nat.pow_succ]; omega
      obtain ⟨q, hq⟩ : ∃ q, j / 32 = q := ⟨_, rfl⟩
      obtain ⟨r, hr⟩ : ∃ r, j % 32 = r := ⟨_, rfl⟩
      have hqn : q < n := by omega
      have hqi : (j : Int) / 32 = (q : Int) := by omega
      have hri : (j : Int) % 32 = (r : Int) := by omega
      have hroom := over_bit (q := q) (r := r) hO.out hT.out (by omega) (by omega) hqn
      obtain ⟨y, hy⟩ : ∃ y, 2 ^ r = y := ⟨_, rfl⟩
      rw [hy] at hroom
      have hpw : IntKind.u64.wrap ((2 : Int) ^ r) = (y : Int) := by rw [wrap_pow (by omega), hy]
      have htu : T (upd O q (O q + y)) n = (2 * X + 1) * 2 ^ j := by
        rw [T_upd_add O q y n hqn, hT.out, Nat.pow_succ', ← hy, Hp_two, ← Nat.pow_add, show r + 32 * q = j by omega, Nat.add_mul, Nat.one_mul, ← Nat.mul_assoc, Nat.mul_comm X 2]
      have ht0 : T O n = 2 * X * 2 ^ j := by rw [hT.out, Nat.pow_succ', ← Nat.mul_assoc, Nat.mul_comm X 2]
      have HT := Lib.hid (And.intro htu (And.intro ht0 hroom))
      have e4 : 2 * (X * Q + R) + b = 2 * X * Q + (R * 2 ^ 1 + b) := by rw [Nat.mul_add, ← Nat.mul_assoc]; omega
      rw [e4] at e3
      have HE := Lib.hid (And.intro e3 (And.intro e2 (And.intro hRa (And.intro hRa2 hRa3))))
      obtain ⟨x, hx⟩ : ∃ x, O q = x := ⟨_, rfl⟩
      have hxy : x + y < 4294967296 := by rw [← hx]; exact hroom
      have HXQ := Lib.hid hx
      have hr32 : r < 32 := by omega
      clear e1 e2 e3 e4 hb hRa hRa2 hRa3 hq hr hroom hy htu ht0 hx
      obtain ⟨cc, hcc⟩ : ∃ cc, cmpN (R * 2 ^ 1 + b) Q = cc := ⟨_, rfl⟩
      have hc3 := cmpN_cases3 (R * 2 ^ 1 + b) Q
      rw [hcc] at hc3
      have CP1 := Lib.hid (fun u w' hu hv => CP.out u (R * 2 ^ 1 + b) cc w' hu hv hcc)
      clear hcc
      rcases (show b = 0 ∨ b = 1 from by omega) with rfl | rfl
      · by_cases hge : Q ≤ R * 2 ^ 1
        · -- above
          have u2 : decide ((0 : Int) ≤ cc) = true := by rcases hc3 with ⟨h1, h2⟩ | ⟨h1, h2⟩ | ⟨h1, h2⟩ <;> rw [h1] <;> first | rfl | omega
          have HG := Lib.hid hge
          clear hc3 hge
          go_wp2_with fail
          with_reducible (refine (UP.out _ R _ hR.out HE.out.2.2.1).mono ?_)
          rintro e w1 ⟨i1, b1⟩
          obtain ⟨A1, n1, c1, rfl, j1⟩ := shapedH i1
          have J1 := Lib.hid j1
          have HB1 := Lib.hid (bthen hBel.out b1)
          have RW1 := Lib.hid (hrow.out.below b1)
          have IP1 := Lib.hid (IP.out.below HB1.out)
          clear i1 j1 b1 hrow hBel
          go_wp2_with fail
          with_reducible (refine (BT.out _ IP1.out).mono ?_)
          rintro e w2 ⟨rfl, rfl⟩
          go_wp2_with fail
          have IQ1 := Lib.hid (IQ.out.below HB1.out)
          with_reducible (refine (CP1.out _ _ J1.out IQ1.out).mono ?_)
          rintro e w4 ⟨rfl, rfl⟩
          go_wp2_with fail
          with_reducible (refine (MI.out _ _ _ J1.out IQ1.out HE.out.2.2.2.1 HG.out).mono ?_)
          rintro e w5 ⟨i5, b5⟩
          obtain ⟨r5, rfl, k5, l5⟩ := i5
          obtain ⟨A5, n5, c5, rfl, -⟩ := hlen k5
          have J5 := Lib.hid (And.intro k5 l5)
          have HB5 := Lib.hid (bthen HB1.out b5)
          have RW5 := Lib.hid (RW1.out.below b5)
          have hcell := RW5.out.at_ q hqn
          have hfr := RW5.out.free q
          have hgt := RW5.out.lt
          rw [HXQ.out] at hcell
          clear k5 l5 b5
          go_wp2_with fail
          go_roundw
          case rel =>
            refine ⟨j, 2 * X + 1, R * 2 ^ 1 - Q, upd O q (x + y), _, rfl, by omega, by go_num, Lib.hid (IsH.setR J5.out.1 J5.out.2 _ _ (by have := RW1.out.lt; exact this)), Lib.hid (RW5.out.set q (x + y)), Lib.hid (fun i hi => ?_), Lib.hid (by rw [← HXQ.out]; exact HT.out.1), Lib.hid ⟨?_, ?_⟩, Lib.hid (HB5.out.setCell (by simp) _)⟩
            · by_cases h1 : i = q
              · rw [h1, upd_at]; exact hxy
              · rw [upd_ne _ _ h1]; exact hO.out i hi
            · have e1 := HE.out.1
              have e2 := HG.out
              rw [e1, Nat.add_mul, Nat.one_mul]
              omega
            · have e1 := HE.out.2.1
              have e2 := HG.out
              omega
          case measure => simp [intOf]
        · replace hge : R * 2 ^ 1 < Q := by omega
          have u2 : decide ((0 : Int) ≤ cc) = false := by rcases hc3 with ⟨h1, h2⟩ | ⟨h1, h2⟩ | ⟨h1, h2⟩ <;> rw [h1] <;> first | rfl | omega
          have HG := Lib.hid hge
          clear hc3 hge
          go_wp2_with fail
          with_reducible (refine (UP.out _ R _ hR.out HE.out.2.2.1).mono ?_)
          rintro e w1 ⟨i1, b1⟩
          obtain ⟨A1, n1, c1, rfl, j1⟩ := shapedH i1
          have J1 := Lib.hid j1
          have HB1 := Lib.hid (bthen hBel.out b1)
          have RW1 := Lib.hid (hrow.out.below b1)
          have IP1 := Lib.hid (IP.out.below HB1.out)
          clear i1 j1 b1 hrow hBel
          go_wp2_with fail
          with_reducible (refine (BT.out _ IP1.out).mono ?_)
          rintro e w2 ⟨rfl, rfl⟩
          go_wp2_with fail
          have IQ1 := Lib.hid (IQ.out.below HB1.out)
          with_reducible (refine (CP1.out _ _ J1.out IQ1.out).mono ?_)
          rintro e w4 ⟨rfl, rfl⟩
          go_wp2_with fail
          go_roundw
          case rel =>
            exact ⟨j, 2 * X, R * 2 ^ 1, O, _, rfl, by omega, by go_num, J1, RW1, hO, Lib.hid HT.out.2.1, Lib.hid ⟨HE.out.1, HG.out⟩, HB1⟩
          case measure => simp [intOf]
      · by_cases hge : Q ≤ R * 2 ^ 1 + 1
        · -- above
          have u2 : decide ((0 : Int) ≤ cc) = true := by rcases hc3 with ⟨h1, h2⟩ | ⟨h1, h2⟩ | ⟨h1, h2⟩ <;> rw [h1] <;> first | rfl | omega
          have HG := Lib.hid hge
          clear hc3 hge
          go_wp2_with fail
          with_reducible (refine (UP.out _ R _ hR.out HE.out.2.2.1).mono ?_)
          rintro e w1 ⟨i1, b1⟩
          obtain ⟨A1, n1, c1, rfl, j1⟩ := shapedH i1
          have J1 := Lib.hid j1
          have HB1 := Lib.hid (bthen hBel.out b1)
          have RW1 := Lib.hid (hrow.out.below b1)
          have IP1 := Lib.hid (IP.out.below HB1.out)
          clear i1 j1 b1 hrow hBel
          go_wp2_with fail
          with_reducible (refine (BT.out _ IP1.out).mono ?_)
          rintro e w2 ⟨rfl, rfl⟩
          go_wp2_with fail
          have J1b := Lib.hid (J1.out.alloc (.cells #[.int .u64 1] 35))
          have J1c := Lib.hid (one_H w1)
          have HB1b := Lib.hid (bgrow HB1.out (.cells #[.int .u64 1] 35))
          have RW1b := Lib.hid (RW1.out.alloc (.cells #[.int .u64 1] 35))
          with_reducible (refine (PL.out _ _ _ _ J1b.out J1c.out HE.out.2.2.2.1).mono ?_)
          rintro e w3 ⟨i3, b3⟩
          obtain ⟨A3, n3, c3, rfl, j3⟩ := shapedH i3
          have J3 := Lib.hid j3
          have HB3 := Lib.hid (bthen HB1b.out b3)
          have RW3 := Lib.hid (RW1b.out.below b3)
          have IQ3 := Lib.hid (IQ.out.below HB3.out)
          clear i3 j3 b3 HB1b RW1b J1b J1c HB1 RW1 J1
          go_wp2_with fail
          with_reducible (refine (CP1.out _ _ J3.out IQ3.out).mono ?_)
          rintro e w4 ⟨rfl, rfl⟩
          go_wp2_with fail
          with_reducible (refine (MI.out _ _ _ J3.out IQ3.out HE.out.2.2.2.2 HG.out).mono ?_)
          rintro e w5 ⟨i5, b5⟩
          obtain ⟨r5, rfl, k5, l5⟩ := i5
          obtain ⟨A5, n5, c5, rfl, -⟩ := hlen k5
          have J5 := Lib.hid (And.intro k5 l5)
          have HB5 := Lib.hid (bthen HB3.out b5)
          have RW5 := Lib.hid (RW3.out.below b5)
          have hcell := RW5.out.at_ q hqn
          have hfr := RW5.out.free q
          have hgt := RW5.out.lt
          rw [HXQ.out] at hcell
          clear k5 l5 b5
          go_wp2_with fail
          go_roundw
          case rel =>
            refine ⟨j, 2 * X + 1, R * 2 ^ 1 + 1 - Q, upd O q (x + y), _, rfl, by omega, by go_num, Lib.hid (IsH.setR J5.out.1 J5.out.2 _ _ (by have := RW3.out.lt; exact this)), Lib.hid (RW5.out.set q (x + y)), Lib.hid (fun i hi => ?_), Lib.hid (by rw [← HXQ.out]; exact HT.out.1), Lib.hid ⟨?_, ?_⟩, Lib.hid (HB5.out.setCell (by simp) _)⟩
            · by_cases h1 : i = q
              · rw [h1, upd_at]; exact hxy
              · rw [upd_ne _ _ h1]; exact hO.out i hi
            · have e1 := HE.out.1
              have e2 := HG.out
              rw [e1, Nat.add_mul, Nat.one_mul]
              omega
            · have e1 := HE.out.2.1
              have e2 := HG.out
              omega
          case measure => simp [intOf]
        · replace hge : R * 2 ^ 1 + 1 < Q := by omega
          have u2 : decide ((0 : Int) ≤ cc) = false := by rcases hc3 with ⟨h1, h2⟩ | ⟨h1, h2⟩ | ⟨h1, h2⟩ <;> rw [h1] <;> first | rfl | omega
          have HG := Lib.hid hge
          clear hc3 hge
          go_wp2_with fail
          with_reducible (refine (UP.out _ R _ hR.out HE.out.2.2.1).mono ?_)
          rintro e w1 ⟨i1, b1⟩
          obtain ⟨A1, n1, c1, rfl, j1⟩ := shapedH i1
          have J1 := Lib.hid j1
          have HB1 := Lib.hid (bthen hBel.out b1)
          have RW1 := Lib.hid (hrow.out.below b1)
          have IP1 := Lib.hid (IP.out.below HB1.out)
          clear i1 j1 b1 hrow hBel
          go_wp2_with fail
          with_reducible (refine (BT.out _ IP1.out).mono ?_)
          rintro e w2 ⟨rfl, rfl⟩
          go_wp2_with fail
          have J1b := Lib.hid (J1.out.alloc (.cells #[.int .u64 1] 35))
          have J1c := Lib.hid (one_H w1)
          have HB1b := Lib.hid (bgrow HB1.out (.cells #[.int .u64 1] 35))
          have RW1b := Lib.hid (RW1.out.alloc (.cells #[.int .u64 1] 35))
          with_reducible (refine (PL.out _ _ _ _ J1b.out J1c.out HE.out.2.2.2.1).mono ?_)
          rintro e w3 ⟨i3, b3⟩
          obtain ⟨A3, n3, c3, rfl, j3⟩ := shapedH i3
          have J3 := Lib.hid j3
          have HB3 := Lib.hid (bthen HB1b.out b3)
          have RW3 := Lib.hid (RW1b.out.below b3)
          have IQ3 := Lib.hid (IQ.out.below HB3.out)
          clear i3 j3 b3 HB1b RW1b J1b J1c HB1 RW1 J1
          go_wp2_with fail
          with_reducible (refine (CP1.out _ _ J3.out IQ3.out).mono ?_)
          rintro e w4 ⟨rfl, rfl⟩
          go_wp2_with fail
          go_roundw
          case rel =>
            exact ⟨j, 2 * X, R * 2 ^ 1 + 1, O, _, rfl, by omega, by go_num, J3, RW3, hO, Lib.hid HT.out.2.1, Lib.hid ⟨HE.out.1, HG.out⟩, HB3⟩
          case measure => simp [intOf]
theorem over_H (u v : Value) (P Q a : Nat) (w : World) (hu : IsH w u P) (hv : IsH w v Q) (hQ : 0 < Q) (hP : P < 2 ^ a) (hQa : Q < 2 ^ a) (ha : a ≤ 1000000) :
    Calls Try.prog 41 #[u, v] w fun e w' => (∃ u v, e = .returned (.tuple #[u, v]) ∧ IsH w' u (P / Q) ∧ IsH w' v (P % Q)) ∧ Below w.heap.size w w' := by
  obtain ⟨A, n, c, F, rfl, hA, hF, hn, hs⟩ := hu
  obtain ⟨B, m, d, rfl, -⟩ := hlen hv
  exact over_any A B n c m d F P Q a w hA hF hn hs hv hQ hP hQa ha
end Go.Proofs.Yteiajccjlbghoaa

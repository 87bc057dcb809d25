/- package caliperref02's Fives, Parts. Conditions: as each theorem names them. -/
import Derived.Test.YteiajccjlbghoaaHover
import Derived.Test.YteiajccjlbghoaaHtimes
import Derived.Test.YteiajccjlbghoaaHwords
set_option linter.unusedVariables false
namespace Go.Proofs.Yteiajccjlbghoaa
open Go.RowKit

theorem five_step (k j : Nat) (h : k / 2 = j) : 5 ^ j * 5 ^ j * (if k % 2 = 1 then 5 else 1) = 5 ^ k := by
  have e : k = j + j + k % 2 := by omega
  conv => rhs; rw [e, Nat.pow_add, Nat.pow_add]
  congr 1
  rcases (show k % 2 = 0 ∨ k % 2 = 1 from by omega) with h | h <;> rw [h] <;> rfl
theorem fives_nat : ∀ (k : Nat) (w : World), k ≤ 20000 →
    Calls Try.prog 65 #[.int .i64 k] w fun e w' => (∃ r, e = .returned r ∧ IsH w' r (5 ^ k)) ∧ Below w.heap.size w w' := by
  intro k
  induction k using Nat.strongRecOn with
  | ind k ih =>
  intro w hk
  rcases Nat.eq_zero_or_pos k with h0 | h0
  · subst h0
    have t1 : decide (((0 : Nat) : Int) ≤ 0) = true := by decide
    clear ih
    go_enter Try.func65, Try.ntmps65
    go_wp2_with fail
    go_ret
    exact ⟨⟨_, rfl, one_H w⟩, bgrow (Below.refl _ _) _⟩
  · have t1 : decide ((k : Int) ≤ 0) = false := decide_eq_false (by omega)
    have t1' : decide (k ≤ 0) = false := decide_eq_false (by omega)
    have t1'' : decide (k = 0) = false := decide_eq_false (by omega)
    obtain ⟨j, hj⟩ : ∃ j, k / 2 = j := ⟨_, rfl⟩
    have hji : (k : Int) / 2 = (j : Int) := by omega
    have IH := Lib.hid (ih j (by omega))
    have HS := five_step k j hj
    have hj5 := five_bits j
    have M1 := Lib.hid (fun u v w' hu hv => times_H u v (5 ^ j) (5 ^ j) _ _ w' hu hv hj5 hj5 (by omega) (by omega))
    have hb2 := mul_bits hj5 hj5
    have M2 := Lib.hid (fun u v w' hu hv => times_H u v (5 ^ j * 5 ^ j) 5 _ 3 w' hu hv hb2 (by decide) (by omega) (by omega))
    clear ih hj5 hb2
    by_cases ho : k % 2 = 1
    · have u1 : ((k : Int) % 2 == 1) = true := by simp; omega
      rw [if_pos ho] at HS
      have HSS := Lib.hid HS
      have HJ := Lib.hid (show j ≤ 20000 by omega)
      clear ho HS hj
      go_enter Try.func65, Try.ntmps65
      go_wp2_with fail
      with_reducible (refine (IH.out _ HJ.out).mono ?_)
      rintro e w1 ⟨i1, b1⟩
      obtain ⟨A1, n1, c1, rfl, j1⟩ := shapedH i1
      have J1 := Lib.hid j1
      have HB1 := Lib.hid b1
      clear i1 j1 b1
      go_wp2_with fail
      with_reducible (refine (M1.out _ _ _ J1.out J1.out).mono ?_)
      rintro e w2 ⟨i2, b2⟩
      obtain ⟨A2, n2, c2, rfl, j2⟩ := shapedH i2
      have J2 := Lib.hid (j2.alloc (.cells #[.int .u64 5] 35))
      have J3 := Lib.hid (five_H w2)
      have HB2 := Lib.hid (bgrow (bthen HB1.out b2) (.cells #[.int .u64 5] 35))
      clear i2 j2 b2 HB1 J1
      go_wp2_with fail
      with_reducible (refine (M2.out _ _ _ J2.out J3.out).mono ?_)
      rintro e w3 ⟨i3, b3⟩
      obtain ⟨A3, n3, c3, rfl, j3⟩ := shapedH i3
      have J4 := Lib.hid j3
      have HB3 := Lib.hid (bthen HB2.out b3)
      clear i3 j3 b3 HB2 J2 J3
      go_wp2_with fail
      go_ret
      exact ⟨⟨_, rfl, J4.out.eq HSS.out⟩, HB3.out⟩
    · have u1 : ((k : Int) % 2 == 1) = false := by simp; omega
      rw [if_neg ho, Nat.mul_one] at HS
      have HSS := Lib.hid HS
      have HJ := Lib.hid (show j ≤ 20000 by omega)
      clear ho HS hj
      go_enter Try.func65, Try.ntmps65
      go_wp2_with fail
      with_reducible (refine (IH.out _ HJ.out).mono ?_)
      rintro e w1 ⟨i1, b1⟩
      obtain ⟨A1, n1, c1, rfl, j1⟩ := shapedH i1
      have J1 := Lib.hid j1
      have HB1 := Lib.hid b1
      clear i1 j1 b1
      go_wp2_with fail
      with_reducible (refine (M1.out _ _ _ J1.out J1.out).mono ?_)
      rintro e w2 ⟨i2, b2⟩
      obtain ⟨A2, n2, c2, rfl, j2⟩ := shapedH i2
      have J2 := Lib.hid j2
      have HB2 := Lib.hid (bthen HB1.out b2)
      clear i2 j2 b2 HB1 J1
      go_wp2_with fail
      go_ret
      exact ⟨⟨_, rfl, J2.out.eq HSS.out⟩, HB2.out⟩
theorem fives_H (i : Int) (k : Nat) (w : World) (hk : i.toNat = k) (h : i ≤ 20000) :
    Calls Try.prog 65 #[.int .i64 i] w fun e w' => (∃ r, e = .returned r ∧ IsH w' r (5 ^ k)) ∧ Below w.heap.size w w' := by
  by_cases h0 : 0 < i
  · obtain rfl : i = (k : Int) := by omega
    exact fives_nat k w (by omega)
  · obtain rfl : k = 0 := by omega
    have t1 : decide (i ≤ 0) = true := decide_eq_true (by omega)
    clear hk h h0
    go_enter Try.func65, Try.ntmps65
    go_wp2_with fail
    go_ret
    exact ⟨⟨_, rfl, one_H w⟩, bgrow (Below.refl _ _) _⟩

theorem run_max2 (P : Program) (w : World) (ts : Array TypeId) (t : TypeId) (x y m : Int) (h : max x y = m) : (Builtin.max_ ts t #[.int .i64 x, .int .i64 y]).run P w = .ok (.int .i64 m) w := by
  have e : ∀ a b : Int, (if a < b then b else a) = max a b := by intro a b; split <;> omega
  subst h
  simp [Builtin.max_, Builtin.max2, e]
theorem parts_X (neg : Bool) (v : Value) (s f : Int) (M : Nat) (w : World) (hv : IsN w v M) (hb : bitsN M ≤ 9000) (hs : -10000 ≤ s ∧ s ≤ 10000) (hf : -10000 ≤ f ∧ f ≤ 10000) :
    Calls Try.prog 40 #[xv neg v s f] w fun e w' => (∃ u v, e = .returned (.tuple #[u, v]) ∧ IsH w' u (M * 5 ^ f.toNat * 2 ^ s.toNat) ∧ IsH w' v (1 * 5 ^ (-f).toNat * 2 ^ (-s).toNat)) ∧ Below w.heap.size w w' := by
  obtain ⟨Av, nv, cv, rfl, -⟩ := nlen hv
  have HA := Lib.hid (bgrow (Below.refl w.heap.size w) (xbox neg (.slice Av nv cv) s f))
  have HH := Lib.hid (hv.below HA.out)
  have BX := Lib.hid (Bx.made w neg (.slice Av nv cv) s f)
  have hM := bitsN_lt M
  obtain ⟨a, ha⟩ : ∃ a, f.toNat = a := ⟨_, rfl⟩
  obtain ⟨b, hb'⟩ : ∃ b, s.toNat = b := ⟨_, rfl⟩
  obtain ⟨c, hc⟩ : ∃ c, (-f).toNat = c := ⟨_, rfl⟩
  obtain ⟨d, hd⟩ : ∃ d, (-s).toNat = d := ⟨_, rfl⟩
  have n1 : IntKind.i64.wrap (-s) = -s := IntWalk.i64_in _ (by omega)
  have n2 : IntKind.i64.wrap (-f) = -f := IntWalk.i64_in _ (by omega)
  have m1 : max s 0 = (b : Int) := by omega
  have m2 : max (-s) 0 = (d : Int) := by omega
  have M1 : ∀ ts t w, (Builtin.max_ ts t #[.int .i64 s, .int .i64 0]).run Try.prog w = .ok (.int .i64 b) w := fun ts t w => run_max2 _ w ts t _ _ _ m1
  have M2 : ∀ ts t w, (Builtin.max_ ts t #[.int .i64 (-s), .int .i64 0]).run Try.prog w = .ok (.int .i64 d) w := fun ts t w => run_max2 _ w ts t _ _ _ m2
  have HV := Lib.hid (fun w' (h : IsN w' (.slice Av nv cv) M) => halves_N (.slice Av nv cv) M _ w' h hM (by omega))
  have F1 := Lib.hid (fun w' => fives_H f a w' ha (by omega))
  have F2 := Lib.hid (fun w' => fives_H (-f) c w' hc (by omega))
  have T1 := Lib.hid (fun u v w' hu hv => times_H u v M (5 ^ a) _ _ w' hu hv hM (five_bits a) (by omega) (by omega))
  have U1 := Lib.hid (fun u w' hu => up_H u (M * 5 ^ a) _ b w' hu (mul_bits hM (five_bits a)) (by omega) (by omega))
  have U2 := Lib.hid (fun u w' hu => up_H u (5 ^ c) _ d w' hu (five_bits c) (by omega) (by omega))
  rw [ha, hb', hc, hd]
  clear hM hb hv ha hb' hc hd m1 m2 hs hf
  unfold xv xbox at *
  go_enter Try.func40, Try.ntmps40
  go_wp2_with fail
  have HB0 : Hid (Below w.heap.size w (w.alloc (Obj.cells #[Value.bool neg, Value.slice Av nv cv, Value.int IntKind.i64 s, Value.int IntKind.i64 f] 25))) := HA
  generalize w.alloc (Obj.cells #[Value.bool neg, Value.slice Av nv cv, Value.int IntKind.i64 s, Value.int IntKind.i64 f] 25) = WB at HH BX HB0 ⊢
  clear HA
  have K1 := Lib.hid (fun w' (h : Hid (Below WB.heap.size WB w')) => BX.out.below h.out)
  unfold Bx at K1
  have KS := Lib.hid (fun w1 w2 (h : Hid (Below WB.heap.size WB w1)) (b : Below w1.heap.size w1 w2) => And.intro (hbthen h b) (K1.out w2 (hbthen h b)))
  have K0 := Lib.hid (And.intro (Lib.hid (bdrewN (Below.refl WB.heap.size WB) 1)) (K1.out _ (Lib.hid (bdrewN (Below.refl WB.heap.size WB) 1))))
  go_region_held3 (fun w' => Hid (Below WB.heap.size WB w') ∧ (w'.cell? { block := w.heap.size, off := 0 } = some (.bool neg) ∧ w'.cell? { block := w.heap.size, off := 1 } = some (.slice Av nv cv) ∧ w'.cell? { block := w.heap.size, off := 2 } = some (.int .i64 s) ∧ w'.cell? { block := w.heap.size, off := 3 } = some (.int .i64 f)))
    (first | assumption | exact K0.out | exact KS.out _ _ (And.left (by assumption)) (by assumption))
    (first | ((go_at_call 18); (with_reducible (refine (HV.out _ (HH.out.below (Hid.out (And.left (by assumption))))).mono ?_)); (rintro e w7 ⟨i7, b7⟩); (obtain ⟨A7, n7, c7, rfl, j7⟩ := shapedH i7); (clear i7))
           | ((go_at_call 65); (with_reducible (refine (F1.out _).mono ?_)); (rintro e w8 ⟨i8, b8⟩); (obtain ⟨A8, n8, c8, rfl, j8⟩ := shapedH i8); (clear i8))
           | ((go_at_call 46); (with_reducible (refine (T1.out _ _ _ (by first | assumption | exact IsH.below (by assumption) (by assumption)) (by first | assumption | exact IsH.below (by assumption) (by assumption))).mono ?_)); (rintro e w9 ⟨i9, b9⟩); (obtain ⟨A9, n9, c9, rfl, j9⟩ := shapedH i9); (clear i9))
           | ((go_at_call 64); (with_reducible (refine (U1.out _ _ (by first | assumption | exact IsH.below (by assumption) (by assumption))).mono ?_)); (rintro e w10 ⟨i10, b10⟩); (obtain ⟨A10, n10, c10, rfl, j10⟩ := shapedH i10); (clear i10)))
  all_goals
    rename_i hS
    have HS := Lib.hid hS.1.out
    have J10 := Lib.hid j10
    clear hS b7 b8 b9 b10 j7 j8 j9 j10 KS K0
    have K2 := Lib.hid (fun w' (h : Hid (Below w10.heap.size w10 w')) => K1.out w' (Lib.hid (bthen HS.out h.out)))
    have KS := Lib.hid (fun w1 w2 (h : Hid (Below w10.heap.size w10 w1)) (b : Below w1.heap.size w1 w2) => And.intro (hbthen h b) (K2.out w2 (hbthen h b)))
    have K0 := Lib.hid (And.intro (Lib.hid (bdrewN (Below.refl w10.heap.size w10) 1)) (K2.out _ (Lib.hid (bdrewN (Below.refl w10.heap.size w10) 1))))
    go_wp2_with fail
    go_region_held3 (fun w' => Hid (Below w10.heap.size w10 w') ∧ (w'.cell? { block := w.heap.size, off := 0 } = some (.bool neg) ∧ w'.cell? { block := w.heap.size, off := 1 } = some (.slice Av nv cv) ∧ w'.cell? { block := w.heap.size, off := 2 } = some (.int .i64 s) ∧ w'.cell? { block := w.heap.size, off := 3 } = some (.int .i64 f)))
      (first | assumption | exact K0.out | exact KS.out _ _ (And.left (by assumption)) (by assumption))
      (first | ((go_at_call 65); (with_reducible (refine (F2.out _).mono ?_)); (rintro e w8 ⟨i8, b8⟩); (obtain ⟨A18, n18, c18, rfl, j8⟩ := shapedH i8); (clear i8))
             | ((go_at_call 64); (with_reducible (refine (U2.out _ _ (by first | assumption | exact IsH.below (by assumption) (by assumption))).mono ?_)); (rintro e w11 ⟨i10, b10⟩); (obtain ⟨A11, n11, c11, rfl, j11⟩ := shapedH i10); (clear i10)))
    all_goals
      rename_i hS
      have J11 := Lib.hid j11
      have HS2 := Lib.hid hS.1.out
      clear hS b8 b10 j8 j11 KS K0 K2
      go_wp2_with fail
      go_ret2
      exact ⟨⟨_, _, rfl, J10.out.below HS2.out, J11.out.eq (by rw [Nat.one_mul])⟩, bthen (bthen HB0.out HS.out) HS2.out⟩
end Go.Proofs.Yteiajccjlbghoaa

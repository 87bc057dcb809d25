/- package exact's Floor walked. Conditions: as each theorem names them. -/
import Derived.Test.YteiajccjlbghoaaXbit
import Derived.Test.YteiajccjlbghoaaXdec
set_option linter.unusedVariables false
namespace Go.Proofs.Yteiajccjlbghoaa
open Go.RowKit

theorem bitsN_lt (M : Nat) : M < 2 ^ bitsN M := by
  rcases Nat.eq_zero_or_pos M with h | h
  · subst h; exact Nat.two_pow_pos _
  · exact (bitsN_low h).2.1
theorem floor_X (neg : Bool) (v : Value) (s f k : Int) (M : Nat) (w : World) (h : XOk w v M s f) (hk : -5000 ≤ k ∧ k ≤ 5000) :
    Calls Try.prog 13 #[xv neg v s f, .int .i64 k] w fun e w' => (∃ A n c, e = .returned (.tuple #[.slice A n c, .int .i64 (restN (vx M s f) (tenx k))]) ∧ IsN w' (.slice A n c) (vx M s f / tenx k)) ∧ Below w.heap.size w w' := by
  obtain ⟨Av, nv, cv, rfl, -⟩ := nlen h.isn
  have HH := Lib.hid h
  have hk1 : min (max k (-5000)) 5000 = k := by omega
  have e1 : IntKind.i64.wrap (s - k) = s - k := IntWalk.i64_in _ (by have := h.s1; have := h.s2; omega)
  have e2 : IntKind.i64.wrap (f - k) = f - k := IntWalk.i64_in _ (by have := h.f1; have := h.f2; omega)
  have e3 : IntKind.i64.wrap (-(s - k)) = k - s := by rw [IntWalk.i64_in _ (by have := h.s1; have := h.s2; omega)]; omega
  have e4 : IntKind.i64.wrap (-(f - k)) = k - f := by rw [IntWalk.i64_in _ (by have := h.f1; have := h.f2; omega)]; omega
  have HK := Lib.hid hk
  have O1 := Lib.hid (fun w => of_one w)
  have HA := Lib.hid (bgrow (Below.refl w.heap.size w) (xbox neg (.slice Av nv cv) s f))
  have BX := Lib.hid (Bx.made w neg (.slice Av nv cv) s f)
  obtain ⟨C, hC, hP, hQ⟩ := floor_parts M s f k (by have := h.s1; omega) (by have := h.f1; omega) (by omega)
  obtain ⟨P, hPe⟩ : ∃ P, M * 5 ^ (f - k).toNat * 2 ^ (s - k).toNat = P := ⟨_, rfl⟩
  obtain ⟨Q, hQe⟩ : ∃ Q, 1 * 5 ^ (k - f).toNat * 2 ^ (k - s).toNat = Q := ⟨_, rfl⟩
  obtain ⟨p1, p2⟩ := restN_part P Q C hC
  obtain ⟨E, hE⟩ : ∃ E, E = 200000 := ⟨_, rfl⟩
  have hpb : P < 2 ^ E := by
    rw [← hPe]
    have a1 := (bitsN_lt M)
    have a2 := five_bits (f - k).toNat
    have a3 := mul_bits (mul_bits a1 a2) (Nat.pow_lt_pow_right (a := 2) (by decide) (Nat.lt_succ_self (s - k).toNat))
    refine Nat.lt_of_lt_of_le a3 (Nat.pow_le_pow_right (by decide) ?_)
    have := h.bits; have := h.s2; have := h.f2; omega
  have hq0 : 0 < Q := by
    rw [← hQe, Nat.one_mul]
    exact Nat.mul_pos (Nat.pow_pos (by decide)) (Nat.two_pow_pos _)
  have S1 := Lib.hid (fun u w' (hu : IsN w' u 1) => scaled_N u 1 1 (k - s) (k - f) (k - s).toNat (k - f).toNat w' hu (by decide) (by decide) (by omega) (by have := h.f1; have := h.f2; omega) (by omega) (by have := h.s1; have := h.s2; omega))
  rw [hQe] at S1
  have S2 := Lib.hid (fun w' (hu : IsN w' (.slice Av nv cv) M) => scaled_N (.slice Av nv cv) M (bitsN M) (s - k) (f - k) (s - k).toNat (f - k).toNat w' hu (bitsN_lt M) (by have := h.bits; omega) (by omega) (by have := h.f1; have := h.f2; omega) (by omega) (by have := h.s1; have := h.s2; omega))
  rw [hPe] at S2
  have HX := Lib.hid (show vx M s f / tenx k = P / Q ∧ restN (vx M s f) (tenx k) = restN P Q from by
    rw [hP, hQ, hPe, hQe]; exact ⟨p2, p1⟩)
  have D1 := Lib.hid (fun u v w' hu hv => div_N u v P Q E w' hu hv hpb (by omega) hq0)
  have HPB := Lib.hid (show bitsN (P % Q) ≤ 1048576 from by
    have hm := Nat.mod_le P Q
    rcases Nat.eq_zero_or_pos (P % Q) with h0 | h0
    · rw [h0]; decide
    · obtain ⟨b1, b2, b3⟩ := bitsN_low h0
      have : 2 ^ (bitsN (P % Q) - 1) < 2 ^ E := Nat.lt_of_le_of_lt (Nat.le_trans b1 hm) hpb
      have := (Nat.pow_lt_pow_iff_right (a := 2) (by decide)).1 this
      omega)
  obtain ⟨X, hX⟩ : ∃ X, vx M s f / tenx k = X := ⟨_, rfl⟩
  obtain ⟨R, hR⟩ : ∃ R, restN (vx M s f) (tenx k) = R := ⟨_, rfl⟩
  rw [hX, hR] at HX ⊢
  clear hk h hP hQ hPe hQe p1 p2 hpb hX hR
  unfold xv xbox at *
  go_enter Try.func13, Try.ntmps13
  go_wp2_with fail
  go_quiet (fail)
  go_wp2_with fail
  have HA1 := Lib.hid (bdrewN HA.out nq)
  have BX1 := Lib.hid (show Bx ((w.alloc (Obj.cells #[Value.bool neg, Value.slice Av nv cv, Value.int IntKind.i64 s, Value.int IntKind.i64 f] 25)).drewN nq) w.heap.size neg (.slice Av nv cv) s f from BX.out)
  generalize (w.alloc (Obj.cells #[Value.bool neg, Value.slice Av nv cv, Value.int IntKind.i64 s, Value.int IntKind.i64 f] 25)).drewN nq = w0 at HA1 BX1 ⊢
  with_reducible (refine (O1.out _).mono ?_)
  rintro e w1 ⟨i1, b1⟩
  obtain ⟨A1, n1, c1, rfl, j1⟩ := shaped i1
  have J1 := Lib.hid j1
  have HB1 := Lib.hid (bthen HA1.out b1)
  have BX2 := Lib.hid (BX1.out.below b1)
  clear i1 j1 b1 HA BX HA1 BX1
  go_wp2_with fail
  with_reducible (refine (S1.out _ _ J1.out).mono ?_)
  rintro e w2 ⟨i2, b2⟩
  obtain ⟨A2, n2, c2, rfl, j2⟩ := shaped i2
  have J2 := Lib.hid j2
  have HB2 := Lib.hid (bthen HB1.out b2)
  have BX3 := (BX2.out.below b2)
  unfold Bx at BX3
  obtain ⟨y0, y1, y2, y3⟩ := BX3
  clear i2 j2 b2 HB1 BX2 J1
  go_wp2_with fail
  with_reducible (refine (S2.out _ ((HH.out.isn).below HB2.out)).mono ?_)
  rintro e w3 ⟨i3, b3⟩
  obtain ⟨A3, n3, c3, rfl, j3⟩ := shaped i3
  have J3 := Lib.hid j3
  have J2b := Lib.hid (J2.out.below b3)
  have HB3 := Lib.hid (bthen HB2.out b3)
  clear i3 j3 b3 HB2 J2 y0 y1 y2 y3
  go_wp2_with fail
  with_reducible (refine (D1.out _ _ _ J3.out J2b.out).mono ?_)
  rintro e w4 ⟨⟨q, r, rfl, j4, j5⟩, b4⟩
  obtain ⟨A4, n4, c4, rfl, -⟩ := nlen j4
  obtain ⟨A5, n5, c5, rfl, -⟩ := nlen j5
  have J4 := Lib.hid j4
  have J5 := Lib.hid j5
  have J2c := Lib.hid (J2b.out.below b4)
  have HB4 := Lib.hid (bthen HB3.out b4)
  have B5 := Lib.hid (fun w h => bits_N (.slice A5 n5 c5) (P % Q) _ w h rfl)
  clear j4 j5 b4 HB3 J3 J2b
  obtain ⟨hX, hR⟩ := HX.out
  rcases Nat.eq_zero_or_pos (P % Q) with h0 | h0
  · have hb0 : bitsN (P % Q) = 0 := by rw [h0]; rfl
    rw [hb0] at B5
    have hR0 : R = 0 := by rw [hR]; unfold restN; rw [if_pos h0]
    subst hX hR0
    clear h0 hb0 hR
    go_wp2_with fail
    with_reducible (refine (B5.out _ J5.out).mono ?_)
    rintro e w5 ⟨rfl, rfl⟩
    go_wp2_with fail
    go_ret2
    exact ⟨⟨_, _, _, rfl, J4.out⟩, HB4.out⟩
  · obtain ⟨z, hz⟩ : ∃ z, bitsN (P % Q) = z := ⟨_, rfl⟩
    have hz0 : 0 < z := by rw [← hz]; unfold bitsN; rw [if_neg (by omega)]; omega
    have t1 : ((z : Int) == 0) = false := by simp; omega
    rw [hz] at B5
    obtain ⟨cc, hcc⟩ : ∃ cc, cmpN (P % Q * 2 ^ 1) Q = cc := ⟨_, rfl⟩
    have hR0 : 2 + cc = R := by rw [hR, ← hcc]; unfold restN; rw [if_neg (by omega), Nat.mul_comm (P % Q) (2 ^ 1)]
    have hcr := cmpN_range (P % Q * 2 ^ 1) Q
    rw [hcc] at hcr
    have e5 : IntKind.i64.wrap (2 + cc) = 2 + cc := IntWalk.i64_in _ (by omega)
    have SH := Lib.hid (fun w' h => shl_N (.slice A5 n5 c5) (P % Q) _ 1 1 w' h (bitsN_lt (P % Q)) HPB.out (by decide))
    have C5 := Lib.hid (fun u v w h1 h2 => cmp_N u v (P % Q * 2 ^ 1) Q cc w h1 h2 hcc)
    subst hX hR0
    clear h0 hz0 hz hR hcc hcr
    go_wp2_with fail
    with_reducible (refine (B5.out _ J5.out).mono ?_)
    rintro e w5 ⟨rfl, rfl⟩
    go_wp2_with fail
    with_reducible (refine (SH.out _ J5.out).mono ?_)
    rintro e w5 ⟨i6, b6⟩
    obtain ⟨A6, n6, c6, rfl, j6⟩ := shaped i6
    have J6 := Lib.hid j6
    have J4b := Lib.hid (J4.out.below b6)
    have J2d := Lib.hid (J2c.out.below b6)
    have HB6 := Lib.hid (bthen HB4.out b6)
    clear i6 j6 b6 HB4 J2c J4 J5
    go_wp2_with fail
    with_reducible (refine (C5.out _ _ _ J6.out J2d.out).mono ?_)
    rintro e w6 ⟨rfl, k6, rfl⟩
    have J4c := Lib.hid (J4b.out.drewN k6)
    have HB7 := Lib.hid (bdrewN HB6.out k6)
    go_wp2_with fail
    go_ret2
    exact ⟨⟨_, _, _, rfl, J4c.out⟩, HB7.out⟩
end Go.Proofs.Yteiajccjlbghoaa

/- package caliperref02's Cmp, Floor; package caliperref01's Same. Conditions: as each theorem names them. -/
import Derived.Test.YteiajccjlbghoaaHparts
set_option linter.unusedVariables false
namespace Go.Proofs.Yteiajccjlbghoaa
open Go.RowKit

/-- numerator and denominator -/
def numer (M : Nat) (s f : Int) : Nat := M * 5 ^ f.toNat * 2 ^ s.toNat
def denom (s f : Int) : Nat := 1 * 5 ^ (-f).toNat * 2 ^ (-s).toNat
theorem parts_vx (M : Nat) (s f k : Int) (hs : -20000 ≤ s) (hf : -20000 ≤ f) (hk : -20000 ≤ k) : ∃ C, 0 < C ∧ vx M s f = numer M (s - k) (f - k) * C ∧ tenx k = denom (s - k) (f - k) * C := by
  obtain ⟨C, h0, h1, h2⟩ := floor_parts M s f k hs hf hk
  refine ⟨C, h0, h1, ?_⟩
  unfold denom
  rw [h2, show -(f - k) = k - f by omega, show -(s - k) = k - s by omega]
theorem cmp_cross {a b z p q r u C D : Nat} (h0 : 0 < C) (k0 : 0 < D) (hz : 0 < z) (h1 : a = p * C) (h2 : z = q * C) (k1 : b = r * D) (k2 : z = u * D) : cmpN (p * u) (r * q) = cmpN a b := by
  rw [← cmpN_mul _ _ (C * D) (Nat.mul_pos h0 k0), ← cmpN_mul a b z hz]
  have e1 : p * u * (C * D) = a * z := by rw [h1, k2, Nat.mul_mul_mul_comm]
  have e2 : r * q * (C * D) = b * z := by rw [k1, h2, Nat.mul_comm C D, Nat.mul_mul_mul_comm]
  rw [e1, e2]
theorem cmp_vx (M N : Nat) (s f t g : Int) (hs : -20000 ≤ s) (hf : -20000 ≤ f) (ht : -20000 ≤ t) (hg : -20000 ≤ g) : cmpN (numer M s f * denom t g) (numer N t g * denom s f) = xcmp M s f N t g := by
  obtain ⟨C, h0, h1, h2⟩ := parts_vx M s f 0 hs hf (by decide)
  obtain ⟨D, k0, k1, k2⟩ := parts_vx N t g 0 ht hg (by decide)
  rw [Int.sub_zero, Int.sub_zero] at h1 h2 k1 k2
  exact cmp_cross h0 k0 (tenx_pos 0) h1 h2 k1 k2
/-- how many bits numerators and denominators have at the most -/
def nE : Nat := 50000
theorem numer_bits {M : Nat} {s f : Int} (hb : bitsN M ≤ 9000) (hs : s ≤ 10000) (hf : f ≤ 10000) : numer M s f < 2 ^ nE := by
  have a3 := mul_bits (mul_bits (bitsN_lt M) (five_bits f.toNat)) (Nat.pow_lt_pow_right (a := 2) (by decide) (Nat.lt_succ_self s.toNat))
  exact Nat.lt_of_lt_of_le a3 (Nat.pow_le_pow_right (by decide) (by unfold nE; omega))
theorem denom_bits {s f : Int} (hs : -10000 ≤ s) (hf : -10000 ≤ f) : denom s f < 2 ^ nE := by
  have a3 := mul_bits (mul_bits (show 1 < 2 ^ 1 by decide) (five_bits (-f).toNat)) (Nat.pow_lt_pow_right (a := 2) (by decide) (Nat.lt_succ_self (-s).toNat))
  exact Nat.lt_of_lt_of_le a3 (Nat.pow_le_pow_right (by decide) (by unfold nE; omega))
theorem denom_pos (s f : Int) : 0 < denom s f := by
  unfold denom
  rw [Nat.one_mul]
  exact Nat.mul_pos (Nat.pow_pos (by decide)) (Nat.two_pow_pos _)
theorem two_shaped {w : World} {u v : Value} {M N : Nat} (h : IsH w u M ∧ IsH w v N) : ∃ A n c B m d, u = .slice A n c ∧ v = .slice B m d := by
  obtain ⟨⟨A, n, c, F, rfl, _⟩, B, m, d, G, rfl, _⟩ := h
  exact ⟨A, n, c, B, m, d, rfl, rfl⟩

theorem rcmp_X (na nb : Bool) (u v : Value) (sa fa sb fb : Int) (M N : Nat) (r : Int) (w : World) (hu : IsN w u M) (hv : IsN w v N) (hM : bitsN M ≤ 9000) (hN : bitsN N ≤ 9000) (hsa : -10000 ≤ sa ∧ sa ≤ 10000) (hfa : -10000 ≤ fa ∧ fa ≤ 10000) (hsb : -10000 ≤ sb ∧ sb ≤ 10000) (hfb : -10000 ≤ fb ∧ fb ≤ 10000) (hr : xcmp M sa fa N sb fb = r) :
    Calls Try.prog 16 #[xv na u sa fa, xv nb v sb fb] w fun e w' => e = .returned (.int .i64 r) ∧ Below w.heap.size w w' := by
  obtain ⟨A, n, c, rfl, -⟩ := nlen hu
  obtain ⟨B, m, d, rfl, -⟩ := nlen hv
  have hval := cmp_vx M N sa fa sb fb (by omega) (by omega) (by omega) (by omega)
  rw [hr] at hval
  have HU := Lib.hid hu
  have HV := Lib.hid hv
  have HA := Lib.hid ((bgrow (bgrow (Below.refl w.heap.size w) (xbox na (.slice A n c) sa fa)) (xbox nb (.slice B m d) sb fb)))
  have P1 := Lib.hid (fun w' h => parts_X na (.slice A n c) sa fa M w' h hM hsa hfa)
  have P2 := Lib.hid (fun w' h => parts_X nb (.slice B m d) sb fb N w' h hN hsb hfb)
  have T1 := Lib.hid (fun u v w' hu hv => times_H u v (numer M sa fa) (denom sb fb) _ _ w' hu hv (numer_bits hM hsa.2 hfa.2) (denom_bits hsb.1 hfb.1) (by decide) (by decide))
  have T2 := Lib.hid (fun u v w' hu hv => times_H u v (numer N sb fb) (denom sa fa) _ _ w' hu hv (numer_bits hN hsb.2 hfb.2) (denom_bits hsa.1 hfa.1) (by decide) (by decide))
  have C1 := Lib.hid (fun u v w' hu hv => compare_H u v _ _ r w' hu hv hval)
  clear hu hv hM hN hsa hfa hsb hfb hr hval
  unfold xv xbox at *
  go_enter Try.func16, Try.ntmps16
  go_wp2_with fail
  generalize hW : (w.alloc (Obj.cells #[Value.bool na, Value.slice A n c, Value.int IntKind.i64 sa, Value.int IntKind.i64 fa] 25)).alloc (Obj.cells #[Value.bool nb, Value.slice B m d, Value.int IntKind.i64 sb, Value.int IntKind.i64 fb] 25) = WB at HA ⊢
  have BB : Bx WB (w.heap.size + 1) nb (.slice B m d) sb fb := by
    rw [← hW]
    have := Bx.made (w.alloc (xbox na (.slice A n c) sa fa)) nb (.slice B m d) sb fb
    simpa [xbox] using this
  have K := Lib.hid (fun w' (h : Below WB.heap.size WB w') => BB.below h)
  unfold Bx at K
  have HUb := Lib.hid (HU.out.below HA.out)
  have HVb := Lib.hid (HV.out.below HA.out)
  clear BB hW HU HV
  with_reducible (refine (P1.out _ HUb.out).mono ?_)
  rintro e w1 ⟨⟨x1, y1, rfl, i1, k1⟩, b1⟩
  obtain ⟨A1, n1, c1, B1, m1, d1, rfl, rfl⟩ := two_shaped ⟨i1, k1⟩
  obtain ⟨q0, q1, q2, q3⟩ := K.out w1 b1
  have I1 := Lib.hid i1
  have K1 := Lib.hid k1
  have HVc := Lib.hid (HVb.out.below b1)
  have HB1 := Lib.hid (bthen HA.out b1)
  clear i1 k1 b1 HUb HVb HA K
  go_wp2_with fail
  with_reducible (refine (P2.out _ HVc.out).mono ?_)
  rintro e w2 ⟨⟨x2, y2, rfl, i2, k2⟩, b2⟩
  obtain ⟨A2, n2, c2, B2, m2, d2, rfl, rfl⟩ := two_shaped ⟨i2, k2⟩
  have I2 := Lib.hid i2
  have K2 := Lib.hid k2
  have I1b := Lib.hid (I1.out.below b2)
  have K1b := Lib.hid (K1.out.below b2)
  have HB2 := Lib.hid (bthen HB1.out b2)
  clear i2 k2 b2 I1 K1 HVc HB1 q0 q1 q2 q3
  go_wp2_with fail
  with_reducible (refine (T1.out _ _ _ I1b.out K2.out).mono ?_)
  rintro e w3 ⟨i3, b3⟩
  obtain ⟨A3, n3, c3, rfl, j3⟩ := shapedH i3
  have J3 := Lib.hid j3
  have I2b := Lib.hid (I2.out.below b3)
  have K1c := Lib.hid (K1b.out.below b3)
  have HB3 := Lib.hid (bthen HB2.out b3)
  clear i3 j3 b3 I2 K1b HB2
  go_wp2_with fail
  with_reducible (refine (T2.out _ _ _ I2b.out K1c.out).mono ?_)
  rintro e w4 ⟨i4, b4⟩
  obtain ⟨A4, n4, c4, rfl, j4⟩ := shapedH i4
  have J4 := Lib.hid j4
  have J3b := Lib.hid (J3.out.below b4)
  have HB4 := Lib.hid (bthen HB3.out b4)
  clear i4 j4 b4 J3 HB3
  go_wp2_with fail
  with_reducible (refine (C1.out _ _ _ J3b.out J4.out).mono ?_)
  rintro e w5 ⟨rfl, rfl⟩
  go_wp2_with fail
  go_ret
  exact ⟨rfl, HB4.out⟩

theorem XB.put2 {w : World} {g : Nat} {neg : Bool} {v : Value} {s f : Int} (h : XB w g neg v s f) (s' : Int) : XB (w.setCell { block := g, off := 2 } (.int .i64 s')) g neg v s' f := by
  unfold XB at h ⊢
  simp [World.setCell, Array.getElem?_modify, h]
theorem XB.put3 {w : World} {g : Nat} {neg : Bool} {v : Value} {s f : Int} (h : XB w g neg v s f) (f' : Int) : XB (w.setCell { block := g, off := 3 } (.int .i64 f')) g neg v s f' := by
  unfold XB at h ⊢
  simp [World.setCell, Array.getElem?_modify, h]

theorem rfloor_X (neg : Bool) (v : Value) (s f k : Int) (M : Nat) (w : World) (hv : IsN w v M) (hb : bitsN M ≤ 9000) (hs : -5000 ≤ s ∧ s ≤ 5000) (hf : -5000 ≤ f ∧ f ≤ 5000) (hk : -5000 ≤ k ∧ k ≤ 5000) :
    Calls Try.prog 14 #[xv neg v s f, .int .i64 k] w fun e w' => (∃ A n c, e = .returned (.tuple #[.slice A n c, .int .i64 (restN (vx M s f) (tenx k))]) ∧ IsN w' (.slice A n c) (vx M s f / tenx k)) ∧ Below w.heap.size w w' := by
  obtain ⟨Av, nv, cv, rfl, -⟩ := nlen hv
  have HV := Lib.hid hv
  have e1 : IntKind.i64.wrap (s - k) = s - k := IntWalk.i64_in _ (by omega)
  have e2 : IntKind.i64.wrap (f - k) = f - k := IntWalk.i64_in _ (by omega)
  obtain ⟨C, hC, hP, hQ⟩ := parts_vx M s f k (by omega) (by omega) (by omega)
  obtain ⟨s', hs'⟩ : ∃ s', s - k = s' := ⟨_, rfl⟩
  obtain ⟨f', hf'⟩ : ∃ f', f - k = f' := ⟨_, rfl⟩
  rw [hs', hf'] at hP hQ
  rw [hs'] at e1
  rw [hf'] at e2
  have hs2 : -10000 ≤ s' ∧ s' ≤ 10000 := by omega
  have hf2 : -10000 ≤ f' ∧ f' ≤ 10000 := by omega
  have PA := Lib.hid (fun w' h => parts_X neg (.slice Av nv cv) s' f' M w' h hb hs2 hf2)
  have hp := numer_bits hb hs2.2 hf2.2
  have hq := denom_bits hs2.1 hf2.1
  have hq0 := denom_pos s' f'
  obtain ⟨P, hPe⟩ : ∃ P, numer M s' f' = P := ⟨_, rfl⟩
  obtain ⟨Q, hQe⟩ : ∃ Q, denom s' f' = Q := ⟨_, rfl⟩
  obtain ⟨p1, p2⟩ := restN_part P Q C hC
  have PA : Hid (∀ w', IsN w' (.slice Av nv cv) M → Calls Try.prog 40 #[xv neg (.slice Av nv cv) s' f'] w' fun e w'' => (∃ u v, e = .returned (.tuple #[u, v]) ∧ IsH w'' u P ∧ IsH w'' v Q) ∧ Below w'.heap.size w' w'') := by rw [← hPe, ← hQe]; exact PA
  rw [hPe] at hp hP
  rw [hQe] at hq hQ hq0
  obtain ⟨E, hE⟩ : ∃ E, nE = E := ⟨_, rfl⟩
  rw [hE] at hp hq
  have hE2 : E ≤ 1000000 := by rw [← hE]; decide
  have OV := Lib.hid (fun u v w' hu hv => over_H u v P Q E w' hu hv hq0 hp hq (by omega))
  have hr1 : P % Q < 2 ^ E := Nat.lt_trans (Nat.mod_lt _ hq0) hq
  have hn1 : P / Q < 2 ^ E := Nat.lt_of_le_of_lt (Nat.div_le_self _ _) hp
  have PL := Lib.hid (fun u w' hu => plus_H u u (P % Q) (P % Q) E w' hu hu hr1 hr1 (by omega))
  have WD := Lib.hid (fun u w' hu => words_H u (P / Q) E w' hu hn1 (by omega))
  obtain ⟨cc, hcc⟩ : ∃ cc, cmpN (P % Q + P % Q) Q = cc := ⟨_, rfl⟩
  have CP := Lib.hid (fun u v w' hu hv => compare_H u v _ _ cc w' hu hv hcc)
  have hcr := cmpN_range (P % Q + P % Q) Q
  rw [hcc] at hcr
  have e5 : IntKind.i64.wrap (2 + cc) = 2 + cc := IntWalk.i64_in _ (by omega)
  obtain ⟨X, hX⟩ : ∃ X, vx M s f / tenx k = X := ⟨_, rfl⟩
  obtain ⟨R, hR⟩ : ∃ R, restN (vx M s f) (tenx k) = R := ⟨_, rfl⟩
  have hXR : P / Q = X ∧ (P % Q = 0 → R = 0) ∧ (P % Q ≠ 0 → 2 + cc = R) := by
    rw [← hX, ← hR, hP, hQ, p2, p1]
    refine ⟨rfl, fun h => by unfold restN; rw [if_pos h], fun h => ?_⟩
    unfold restN
    rw [if_neg h, ← hcc]
    congr 2
    omega
  have HXR := Lib.hid hXR
  rw [hX, hR]
  clear hv hb hs hf hk hC hP hQ p1 p2 hs2 hf2 hp hq hq0 hr1 hn1 hcc hX hR hXR hPe hQe hE hE2
  unfold xv at *
  go_enter Try.func14, Try.ntmps14
  go_wp2_with fail
  have HA := Lib.hid (bgrow (Below.refl w.heap.size w) (xbox neg (.slice Av nv cv) s' f'))
  have HVb := Lib.hid (HV.out.below HA.out)
  unfold xbox at HA HVb
  generalize w.alloc (Obj.cells #[Value.bool neg, Value.slice Av nv cv, Value.int IntKind.i64 s', Value.int IntKind.i64 f'] 25) = WB at HA HVb ⊢
  with_reducible (refine (PA.out _ HVb.out).mono ?_)
  rintro e w1 ⟨⟨x1, y1, rfl, i1, k1⟩, b1⟩
  obtain ⟨A1, n1, c1, B1, m1, d1, rfl, rfl⟩ := two_shaped ⟨i1, k1⟩
  have I1 := Lib.hid i1
  have K1 := Lib.hid k1
  have HB1 := Lib.hid (bthen HA.out b1)
  clear i1 k1 b1 HVb HA HV
  go_wp2_with fail
  with_reducible (refine (OV.out _ _ _ I1.out K1.out).mono ?_)
  rintro e w2 ⟨⟨x2, y2, rfl, i2, k2⟩, b2⟩
  obtain ⟨A2, n2, c2, rfl, -⟩ := hlen i2
  obtain ⟨B2, m2, d2, rfl, h20⟩ := hlen k2
  have I2 := Lib.hid i2
  have K2 := Lib.hid k2
  have K1b := Lib.hid (K1.out.below b2)
  have HB2 := Lib.hid (bthen HB1.out b2)
  clear i2 k2 b2 HB1 I1 K1
  rcases Nat.eq_zero_or_pos m2 with hz | hz
  · subst hz
    obtain ⟨z1, z2, z3⟩ := HXR.out
    have z4 := h20.1 rfl
    obtain rfl : R = 0 := z2 z4
    have t1 : decide ((0 : Int) < ((0 : Nat) : Int)) = false := by decide
    have ZX := Lib.hid z1
    clear z1 z2 z3 z4 h20 HXR
    go_wp2_with fail
    with_reducible (refine (WD.out _ _ I2.out).mono ?_)
    rintro e w3 ⟨⟨r3, rfl, i3⟩, b3⟩
    obtain ⟨A3, n3, c3, rfl, -⟩ := nlen i3
    have I3 := Lib.hid i3
    have HB3 := Lib.hid (bthen HB2.out b3)
    clear i3 b3
    go_wp2_with fail
    go_ret2
    exact ⟨⟨_, _, _, rfl, I3.out.eq ZX.out⟩, HB3.out⟩
  · obtain ⟨z1, z2, z3⟩ := HXR.out
    have z4 : P % Q ≠ 0 := fun h => by have := h20.2 h; omega
    have z5 := z3 z4
    subst z5
    have t1 : decide ((0 : Int) < (m2 : Int)) = true := decide_eq_true (by omega)
    have t1' : decide (0 < m2) = true := decide_eq_true hz
    have ZX := Lib.hid z1
    clear z1 z2 z3 z4 h20 HXR hz
    go_wp2_with fail
    with_reducible (refine (PL.out _ _ K2.out).mono ?_)
    rintro e w3 ⟨i3, b3⟩
    obtain ⟨A3, n3, c3, rfl, j3⟩ := shapedH i3
    have I3 := Lib.hid j3
    have HB3 := Lib.hid (bthen HB2.out b3)
    have I2b := Lib.hid (I2.out.below b3)
    have K1c := Lib.hid (K1b.out.below b3)
    clear i3 j3 b3 HB2 I2 K1b
    go_wp2_with fail
    with_reducible (refine (CP.out _ _ _ I3.out K1c.out).mono ?_)
    rintro e w4 ⟨rfl, rfl⟩
    go_wp2_with fail
    with_reducible (refine (WD.out _ _ I2b.out).mono ?_)
    rintro e w5 ⟨⟨r5, rfl, i5⟩, b5⟩
    obtain ⟨A5, n5, c5, rfl, -⟩ := nlen i5
    have I5 := Lib.hid i5
    have HB5 := Lib.hid (bthen HB3.out b5)
    clear i5 b5
    go_wp2_with fail
    go_ret2
    exact ⟨⟨_, _, _, rfl, I5.out.eq ZX.out⟩, HB5.out⟩

theorem same_H (u v : Value) (M N a : Nat) (b : Bool) (w : World) (hu : IsN w u M) (hv : IsH w v N) (hM : M < 2 ^ a) (ha : a ≤ 1048576) (hb : decide (M = N) = b) :
    Calls Try.prog 17 #[u, v] w fun e w' => e = .returned (.bool b) ∧ Below w.heap.size w w' := by
  have HL := Lib.hid (fun w' h => halves_N u M a w' h hM ha)
  obtain ⟨A, n, c, F, rfl, hA, hn, hs⟩ := hu
  have HU := Lib.hid (show IsN w (.slice A n c) M from ⟨A, n, c, F, rfl, hA, hn, hs⟩)
  obtain ⟨B, m, d, rfl, -⟩ := hlen hv
  have HV := Lib.hid hv
  obtain ⟨cc, hcc⟩ : ∃ cc, cmpN M N = cc := ⟨_, rfl⟩
  have CP := Lib.hid (fun u v w' hu hv => compare_H u v M N cc w' hu hv hcc)
  have hb2 : (cc == 0) = b := by
    rw [← hb]
    rcases cmpN_cases3 M N with ⟨h1, h2⟩ | ⟨h1, h2⟩ | ⟨h1, h2⟩
    · rw [decide_eq_false (by omega), ← hcc, h1]; rfl
    · rw [decide_eq_false (by omega), ← hcc, h1]; rfl
    · rw [decide_eq_true h2, ← hcc, h1]; rfl
  have hsm := hA.small
  have hcap := hA.len
  rcases n with _ | j
  · have t1 : decide ((0 : Int) < ((0 : Nat) : Int)) = false := by decide
    clear hA hn hs hv hcc hb
    go_enter Try.func17, Try.ntmps17
    go_wp2_with fail
    with_reducible (refine (HL.out _ HU.out).mono ?_)
    rintro e w1 ⟨i1, b1⟩
    obtain ⟨A1, n1, c1, rfl, j1⟩ := shapedH i1
    have J1 := Lib.hid j1
    have HB1 := Lib.hid b1
    have HV1 := Lib.hid (HV.out.below b1)
    clear i1 j1 b1
    go_wp2_with fail
    with_reducible (refine (CP.out _ _ _ J1.out HV1.out).mono ?_)
    rintro e w2 ⟨rfl, rfl⟩
    go_wp2_with fail
    go_ret
    exact ⟨rfl, HB1.out⟩
  · obtain ⟨ad, rfl, hbl, hx⟩ := hA.at_ j (by omega)
    have hw := hA.word' j (by omega)
    have hF0 : F j ≠ 0 := by
      rcases hn with h | h
      · omega
      · exact h
    have t1 : decide ((0 : Int) < ((j + 1 : Nat) : Int)) = true := decide_eq_true (by omega)
    have t2 : ((F j : Int) == 0) = false := by simp; omega
    clear hA hn hs hv hcc hb hF0
    go_enter Try.func17, Try.ntmps17
    go_wp2_with fail
    with_reducible (refine (HL.out _ HU.out).mono ?_)
    rintro e w1 ⟨i1, b1⟩
    obtain ⟨A1, n1, c1, rfl, j1⟩ := shapedH i1
    have J1 := Lib.hid j1
    have HB1 := Lib.hid b1
    have HV1 := Lib.hid (HV.out.below b1)
    clear i1 j1 b1
    go_wp2_with fail
    with_reducible (refine (CP.out _ _ _ J1.out HV1.out).mono ?_)
    rintro e w2 ⟨rfl, rfl⟩
    go_wp2_with fail
    go_ret
    exact ⟨rfl, HB1.out⟩
end Go.Proofs.Yteiajccjlbghoaa

/- package exact's size and Cmp walked. Conditions: as each theorem names them. -/
import Derived.Test.YteiajccjlbghoaaXlaw
import Derived.Deep.RegionHeld3
set_option linter.unusedVariables false
namespace Go.Proofs.Yteiajccjlbghoaa
open Go.RowKit

def xbox (neg : Bool) (v : Value) (s f : Int) : Obj := .cells #[.bool neg, v, .int .i64 s, .int .i64 f] 25
/-- an api.Exact as it is handed on -/
def xv (neg : Bool) (v : Value) (s f : Int) : Value := .agg #[.bool neg, v, .int .i64 s, .int .i64 f]
theorem d5_range {f : Int} (h : -30000 ≤ f ∧ f ≤ 30000) : -70000 ≤ d5 f ∧ d5 f ≤ 70000 := by
  unfold d5
  rcases Int.le_total 0 f with h0 | h0
  · rw [Int.tdiv_eq_ediv_of_nonneg (by omega)]; omega
  · have e : f * 2321928095 = -(-f * 2321928095) := by omega
    rw [e, Int.neg_tdiv, Int.tdiv_eq_ediv_of_nonneg (by omega)]; omega

theorem size_N (neg : Bool) (v : Value) (s f : Int) (M b : Nat) (r : Int) (w : World) (hv : IsN w v M) (hb : bitsN M = b) (hbb : b ≤ 1000000) (hs : -1000000 ≤ s ∧ s ≤ 1000000) (hf : -30000 ≤ f ∧ f ≤ 30000) (hr : (b : Int) + s + d5 f = r) :
    Calls Try.prog 45 #[xv neg v s f] w fun e w' => e = .returned (.int .i64 r) ∧ ∃ k, w' = (w.alloc (xbox neg v s f)).drewN k := by
  have B := Lib.hid (fun w h => bits_N v M b w h hb)
  have hv' := Lib.hid (hv.alloc (xbox neg v s f))
  obtain ⟨hd1, hd2⟩ := d5_range hf
  obtain ⟨hs1, hs2⟩ := hs
  obtain ⟨hf1, hf2⟩ := hf
  obtain ⟨d, hd⟩ : ∃ d, d5 f = d := ⟨_, rfl⟩
  rw [hd] at hr hd1 hd2
  have e0 : (f * 2321928095).tdiv 1000000000 = d := hd
  have e1 : IntKind.i64.wrap ((b : Int) + s) = (b : Int) + s := IntWalk.i64_in _ (by omega)
  have e2 : IntKind.i64.wrap (f * 2321928095) = f * 2321928095 := IntWalk.i64_in _ (by omega)
  have e3 : IntKind.i64.wrap d = d := IntWalk.i64_in _ (by omega)
  have e4 : IntKind.i64.wrap r = r := IntWalk.i64_in _ (by omega)
  clear hv hb hd
  unfold xv xbox at *
  go_enter Try.func45, Try.ntmps45
  go_wp2_with fail
  go_quiet ((go_at_call 27; exact Calls.quiet_of_same ((B.out _ (hv'.out.drewN _)).mono (fun _ _ h => ⟨h.1, h.2.symm⟩))))
  go_wp2_with fail
  go_ret
  exact ⟨rfl, _, rfl⟩
theorem nlen {w : World} {v : Value} {N : Nat} (h : IsN w v N) : ∃ A n c, v = .slice A n c ∧ (n = 0 ↔ N = 0) := by
  obtain ⟨A, n, c, F, rfl, hr, hn, rfl⟩ := h
  exact ⟨A, n, c, rfl, (nm_zero hn).symm⟩
theorem cmp_none (na nb : Bool) (u v : Value) (sa fa sb fb : Int) (M N : Nat) (r : Int) (w : World) (hu : IsN w u M) (hv : IsN w v N) (h : M = 0 ∨ N = 0) (hr : cmpN M N = r) :
    Calls Try.prog 15 #[xv na u sa fa, xv nb v sb fb] w fun e w' => e = .returned (.int .i64 r) ∧ Below w.heap.size w w' := by
  obtain ⟨A, n, c, rfl, hn⟩ := nlen hu
  obtain ⟨B, m, d, rfl, hm⟩ := nlen hv
  have C := Lib.hid (fun w h1 h2 => cmp_N (.slice A n c) (.slice B m d) M N r w h1 h2 hr)
  have HU := Lib.hid hu
  have HV := Lib.hid hv
  have HA := Lib.hid ((bgrow (bgrow (Below.refl w.heap.size w) (xbox na (.slice A n c) sa fa)) (xbox nb (.slice B m d) sb fb)))
  rcases Nat.eq_zero_or_pos n with h0 | h0
  · subst h0
    clear hu hv h hr hn hm
    unfold xv xbox at *
    go_enter Try.func15, Try.ntmps15
    go_wp2_with fail
    with_reducible (refine (C.out _ (HU.out.below HA.out) (HV.out.below HA.out)).mono ?_)
    rintro e w' ⟨rfl, k, rfl⟩
    go_wp2_with fail
    go_ret
    exact ⟨rfl, bdrewN HA.out k⟩
  · obtain rfl : m = 0 := by
      rcases h with h | h
      · have := hn.2 h; omega
      · exact hm.2 h
    have t1 : ((n : Int) == 0) = false := by simp; omega
    clear hu hv h hr hn hm
    unfold xv xbox at *
    go_enter Try.func15, Try.ntmps15
    go_wp2_with fail
    with_reducible (refine (C.out _ (HU.out.below HA.out) (HV.out.below HA.out)).mono ?_)
    rintro e w' ⟨rfl, k, rfl⟩
    go_wp2_with fail
    go_ret
    exact ⟨rfl, bdrewN HA.out k⟩

/-- a block that is an api.Exact -/
def Bx (w : World) (g : Nat) (neg : Bool) (v : Value) (s f : Int) : Prop :=
  w.cell? { block := g, off := 0 } = some (.bool neg) ∧ w.cell? { block := g, off := 1 } = some v ∧ w.cell? { block := g, off := 2 } = some (.int .i64 s) ∧ w.cell? { block := g, off := 3 } = some (.int .i64 f)
theorem Bx.made (w : World) (neg : Bool) (v : Value) (s f : Int) : Bx (w.alloc (xbox neg v s f)) w.heap.size neg v s f := by
  unfold xbox
  refine ⟨?_, ?_, ?_, ?_⟩ <;> simp [go_sem]
theorem Bx.below {w w' : World} {g : Nat} {neg : Bool} {v : Value} {s f : Int} (h : Bx w g neg v s f) (hb : Below w.heap.size w w') : Bx w' g neg v s f := by
  obtain ⟨a, b, c, d⟩ := h
  have hg : g < w.heap.size := World.block_lt_of_cell? w _ a
  exact ⟨(hb.cell hg).trans a, (hb.cell hg).trans b, (hb.cell hg).trans c, (hb.cell hg).trans d⟩
theorem hbthen {w a b : World} (h : Hid (Below w.heap.size w a)) (k : Below a.heap.size a b) : Hid (Below w.heap.size w b) := Lib.hid (bthen h.out k)

structure XOk (w : World) (v : Value) (M : Nat) (s f : Int) : Prop where
  isn : IsN w v M
  bits : bitsN M ≤ 100000
  s1 : -10000 ≤ s
  s2 : s ≤ 10000
  f1 : -10000 ≤ f
  f2 : f ≤ 10000
theorem XOk.below {w w' : World} {v : Value} {M : Nat} {s f : Int} (h : XOk w v M s f) (hb : Below w.heap.size w w') : XOk w' v M s f := ⟨h.isn.below hb, h.bits, h.s1, h.s2, h.f1, h.f2⟩
theorem size_X (neg : Bool) (v : Value) (s f : Int) (M : Nat) (w : World) (h : XOk w v M s f) :
    Calls Try.prog 45 #[xv neg v s f] w fun e w' => e = .returned (.int .i64 ((bitsN M : Int) + s + d5 f)) ∧ Below w.heap.size w w' :=
  (size_N neg v s f M _ _ w h.isn rfl (by have := h.bits; omega) ⟨by have := h.s1; omega, by have := h.s2; omega⟩ ⟨by have := h.f1; omega, by have := h.f2; omega⟩ rfl).mono fun e w' ⟨he, k, hk⟩ => ⟨he, by rw [hk]; exact bdrewN (bgrow (Below.refl _ _) _) k⟩
theorem cmp_some (na nb : Bool) (u v : Value) (sa fa sb fb : Int) (M N : Nat) (r : Int) (w : World) (hu : XOk w u M sa fa) (hv : XOk w v N sb fb) (hM : 0 < M) (hN : 0 < N) (hr : xcmp M sa fa N sb fb = r) :
    Calls Try.prog 15 #[xv na u sa fa, xv nb v sb fb] w fun e w' => e = .returned (.int .i64 r) ∧ Below w.heap.size w w' := by
  obtain ⟨A, n, c, rfl, hn⟩ := nlen hu.isn
  obtain ⟨B, m, d, rfl, hm⟩ := nlen hv.isn
  have t1 : ((n : Int) == 0) = false := by simp; omega
  have t2 : ((m : Int) == 0) = false := by simp; omega
  have HU := Lib.hid hu
  have HV := Lib.hid hv
  have HA := Lib.hid ((bgrow (bgrow (Below.refl w.heap.size w) (xbox na (.slice A n c) sa fa)) (xbox nb (.slice B m d) sb fb)))
  have HR := Lib.hid hr
  have HMN := Lib.hid (And.intro hM hN)
  have Z1 := Lib.hid (fun w h => size_X na (.slice A n c) sa fa M w h)
  have Z2 := Lib.hid (fun w h => size_X nb (.slice B m d) sb fb N w h)
  obtain ⟨x, hx⟩ : ∃ x, (bitsN M : Int) + sa + d5 fa = x := ⟨_, rfl⟩
  obtain ⟨y, hy⟩ : ∃ y, (bitsN N : Int) + sb + d5 fb = y := ⟨_, rfl⟩
  rw [hx] at Z1
  rw [hy] at Z2
  have ax := d5_range (f := fa) ⟨by have := hu.f1; omega, by have := hu.f2; omega⟩
  have ay := d5_range (f := fb) ⟨by have := hv.f1; omega, by have := hv.f2; omega⟩
  have hx1 : -90000 ≤ x ∧ x ≤ 200000 := by have := hu.bits; have := hu.s1; have := hu.s2; omega
  have hy1 : -90000 ≤ y ∧ y ≤ 200000 := by have := hv.bits; have := hv.s1; have := hv.s2; omega
  have hxw : IntKind.i64.wrap (x - y) = x - y := IntWalk.i64_in _ (by omega)
  have HX := Lib.hid (And.intro hx hy)
  obtain ⟨a1, a2⟩ := hx1
  obtain ⟨b1, b2⟩ := hy1
  clear hu hv hr hn hm hM hN hx hy ax ay
  unfold xv xbox at *
  go_enter Try.func15, Try.ntmps15
  go_wp2_with fail
  generalize hW : (w.alloc (Obj.cells #[Value.bool na, Value.slice A n c, Value.int IntKind.i64 sa, Value.int IntKind.i64 fa] 25)).alloc (Obj.cells #[Value.bool nb, Value.slice B m d, Value.int IntKind.i64 sb, Value.int IntKind.i64 fb] 25) = WB at HA ⊢
  have BA : Bx WB w.heap.size na (.slice A n c) sa fa := by
    rw [← hW]; exact (Bx.made w na (.slice A n c) sa fa).below (bgrow (Below.refl _ _) _)
  have BB : Bx WB (w.heap.size + 1) nb (.slice B m d) sb fb := by
    rw [← hW]
    have := Bx.made (w.alloc (xbox na (.slice A n c) sa fa)) nb (.slice B m d) sb fb
    simpa [xbox] using this
  have K0 := Lib.hid (fun w' (h : Hid (Below WB.heap.size WB w')) => And.intro h (And.intro (BA.below h.out) (BB.below h.out)))
  unfold Bx at K0
  have KS := Lib.hid (fun w1 w2 (h : Hid (Below WB.heap.size WB w1)) (b : Below w1.heap.size w1 w2) => K0.out w2 (hbthen h b))
  clear BA BB hW
  go_region_held3 (fun w' => Hid (Below WB.heap.size WB w') ∧ (w'.cell? { block := w.heap.size, off := 0 } = some (.bool na) ∧ w'.cell? { block := w.heap.size, off := 1 } = some (.slice A n c) ∧ w'.cell? { block := w.heap.size, off := 2 } = some (.int .i64 sa) ∧ w'.cell? { block := w.heap.size, off := 3 } = some (.int .i64 fa)) ∧ (w'.cell? { block := w.heap.size + 1, off := 0 } = some (.bool nb) ∧ w'.cell? { block := w.heap.size + 1, off := 1 } = some (.slice B m d) ∧ w'.cell? { block := w.heap.size + 1, off := 2 } = some (.int .i64 sb) ∧ w'.cell? { block := w.heap.size + 1, off := 3 } = some (.int .i64 fb)))
    (first | exact K0.out _ (Lib.hid (bdrewN (Below.refl _ _) 1)) | exact KS.out _ _ (And.left (by assumption)) (by assumption))
    (first | ((go_at_call 45); (with_reducible (refine (Z1.out _ ((HU.out.below HA.out).below (Hid.out (And.left (by assumption))))).mono ?_)); (rintro e w1 ⟨rfl, b1⟩))
           | ((go_at_call 45); (with_reducible (refine (Z2.out _ ((HV.out.below HA.out).below (Hid.out (And.left (by assumption))))).mono ?_)); (rintro e w1 ⟨rfl, b1⟩)))
  rename_i hS
  have HW := Lib.hid (bthen HA.out hS.1.out)
  clear Z1 Z2 t1 t2
  by_cases g1 : 6 < x - y
  · have g1' : decide (6 < x - y) = true := decide_eq_true g1
    have hr1 : r = 1 := by
      rw [← HR.out]
      exact far_more HMN.out.1 HMN.out.2 ⟨HU.out.s1, HU.out.s2⟩ ⟨HU.out.f1, HU.out.f2⟩ ⟨HV.out.s1, HV.out.s2⟩ ⟨HV.out.f1, HV.out.f2⟩ (by rw [HX.out.1, HX.out.2]; exact g1)
    subst hr1
    clear g1 hS
    go_wp2_with fail
    go_ret
    exact ⟨rfl, HW.out⟩
  · have g1' : decide (6 < x - y) = false := decide_eq_false g1
    by_cases g2 : x - y < -6
    · have g2' : decide (x - y < -6) = true := decide_eq_true g2
      have hr1 : r = -1 := by
        rw [← HR.out]
        exact far_less HMN.out.1 HMN.out.2 ⟨HU.out.s1, HU.out.s2⟩ ⟨HU.out.f1, HU.out.f2⟩ ⟨HV.out.s1, HV.out.s2⟩ ⟨HV.out.f1, HV.out.f2⟩ (by rw [HX.out.1, HX.out.2]; exact g2)
      subst hr1
      clear g1 g2 hS
      go_wp2_with fail
      go_ret
      exact ⟨rfl, HW.out⟩
    · have g2' : decide (x - y < -6) = false := decide_eq_false g2
      clear g1 g2
      have e1 : IntKind.i64.wrap (sa - sb) = sa - sb := IntWalk.i64_in _ (by have := HU.out.s1; have := HU.out.s2; have := HV.out.s1; have := HV.out.s2; omega)
      have e2 : IntKind.i64.wrap (fa - fb) = fa - fb := IntWalk.i64_in _ (by have := HU.out.f1; have := HU.out.f2; have := HV.out.f1; have := HV.out.f2; omega)
      have e3 : IntKind.i64.wrap (-(sa - sb)) = sb - sa := by rw [IntWalk.i64_in _ (by have := HU.out.s1; have := HU.out.s2; have := HV.out.s1; have := HV.out.s2; omega)]; omega
      have e4 : IntKind.i64.wrap (-(fa - fb)) = fb - fa := by rw [IntWalk.i64_in _ (by have := HU.out.f1; have := HU.out.f2; have := HV.out.f1; have := HV.out.f2; omega)]; omega
      have P1 := Lib.hid (fun w' (h : Hid (Below WB.heap.size WB w')) => scaled_N (.slice A n c) M (bitsN M) (sa - sb) (fa - fb) (sa - sb).toNat (fa - fb).toNat w' ((HU.out.below HA.out).below h.out).isn (bitsN_low HMN.out.1).2.1 (by have := HU.out.bits; omega) (by omega) (by have := HU.out.f1; have := HU.out.f2; have := HV.out.f1; have := HV.out.f2; omega) (by omega) (by have := HU.out.s1; have := HU.out.s2; have := HV.out.s1; have := HV.out.s2; omega))
      have P2 := Lib.hid (fun w' (h : Hid (Below WB.heap.size WB w')) => scaled_N (.slice B m d) N (bitsN N) (sb - sa) (fb - fa) (sb - sa).toNat (fb - fa).toNat w' ((HV.out.below HA.out).below h.out).isn (bitsN_low HMN.out.2).2.1 (by have := HV.out.bits; omega) (by omega) (by have := HU.out.f1; have := HU.out.f2; have := HV.out.f1; have := HV.out.f2; omega) (by omega) (by have := HU.out.s1; have := HU.out.s2; have := HV.out.s1; have := HV.out.s2; omega))
      have hcr : cmpN (M * 5 ^ (fa - fb).toNat * 2 ^ (sa - sb).toNat) (N * 5 ^ (fb - fa).toNat * 2 ^ (sb - sa).toNat) = r := by
        rw [← HR.out]
        exact (xcmp_cross M N sa fa sb fb (by have := HU.out.s1; omega) (by have := HU.out.f1; omega) (by have := HV.out.s1; omega) (by have := HV.out.f1; omega)).symm
      have C3 := Lib.hid (fun u v w' h1 h2 => cmp_N u v _ _ r w' h1 h2 hcr)
      clear hcr
      obtain ⟨hS0, ⟨ca0, ca1, ca2, ca3⟩, cb0, cb1, cb2, cb3⟩ := hS
      go_wp2_with fail
      go_quiet (fail)
      go_wp2_with fail
      clear ca0 ca1 ca2 ca3 cb0 cb1 cb2 cb3
      have hS2 := Lib.hid (bdrewN hS0.out nq)
      generalize w1.drewN nq = w2 at hS2 ⊢
      go_region_held3 (fun w' => Hid (Below WB.heap.size WB w') ∧ (w'.cell? { block := w.heap.size, off := 0 } = some (.bool na) ∧ w'.cell? { block := w.heap.size, off := 1 } = some (.slice A n c) ∧ w'.cell? { block := w.heap.size, off := 2 } = some (.int .i64 sa) ∧ w'.cell? { block := w.heap.size, off := 3 } = some (.int .i64 fa)) ∧ (w'.cell? { block := w.heap.size + 1, off := 0 } = some (.bool nb) ∧ w'.cell? { block := w.heap.size + 1, off := 1 } = some (.slice B m d) ∧ w'.cell? { block := w.heap.size + 1, off := 2 } = some (.int .i64 sb) ∧ w'.cell? { block := w.heap.size + 1, off := 3 } = some (.int .i64 fb)))
        (first | exact K0.out _ (Lib.hid (bdrewN hS2.out 1)) | exact KS.out _ _ (And.left (by assumption)) (by assumption) | exact KS.out _ _ (And.left (by assumption)) (bdrewN (Below.refl _ _) _))
        (first | ((go_at_call 37); (with_reducible (refine (P1.out _ (And.left (by assumption))).mono ?_)); (rintro e w1 ⟨⟨r1, rfl, i1⟩, b1⟩))
               | ((go_at_call 37); (with_reducible (refine (P2.out _ (And.left (by assumption))).mono ?_)); (rintro e w1 ⟨⟨r2, rfl, i2⟩, b2⟩))
               | ((go_at_call 25); (with_reducible (refine (C3.out _ _ _ (IsN.below (by assumption) (by assumption)) (by assumption)).mono ?_)); (rintro e w1 ⟨rfl, k3, rfl⟩)))
      go_wp2_with fail
      go_ret
      rename_i hT
      exact ⟨rfl, bthen HA.out hT.1.out⟩
end Go.Proofs.Yteiajccjlbghoaa

/- package caliperref02's Log10. Conditions: as each theorem names them. -/
import Derived.Test.YteiajccjlbghoaaHcmp
set_option linter.unusedVariables false
namespace Go.Proofs.Yteiajccjlbghoaa
open Go.RowKit

theorem rlog_zero (neg : Bool) (v : Value) (s f : Int) (w : World) (h : IsN w v 0) :
    Calls Try.prog 20 #[xv neg v s f] w fun e w' => e = .returned (.int .i64 0) ∧ Below w.heap.size w w' := by
  obtain ⟨Av, nv, cv, rfl, h0⟩ := nlen h
  have hn : nv = 0 := h0.2 rfl
  subst hn
  have HA := Lib.hid (bgrow (Below.refl w.heap.size w) (xbox neg (.slice Av 0 cv) s f))
  clear h h0
  unfold xv xbox at *
  go_enter Try.func20, Try.ntmps20
  go_wp2_with fail
  go_ret
  exact ⟨rfl, HA.out⟩

theorem rlog_pos (neg : Bool) (v : Value) (s f : Int) (M : Nat) (w : World) (hv : IsN w v M) (hM : 0 < M) (hs : -6000 ≤ s ∧ s ≤ 6000) (hf : -6000 ≤ f ∧ f ≤ 6000) (hb : bitsN M ≤ 9000) :
    Calls Try.prog 20 #[xv neg v s f] w fun e w' => (∃ k, e = .returned (.int .i64 k) ∧ Lg M s f k) ∧ Below w.heap.size w w' := by
  obtain ⟨Av, nv, cv, rfl, h0⟩ := nlen hv
  have hn0 : ((nv : Int) == 0) = false := by simp; omega
  obtain ⟨l1, l2, l3⟩ := lg_first hM hs hf hb
  have HUP : Hid (∀ z : Int, -40000 ≤ z → tenx z ≤ vx M s f → z ≤ 9600) := Lib.hid (by
    intro z hz0 hz
    rcases Int.lt_or_le 9600 z with h | h
    · have := tenx_mono (j := lgTop ((bitsN M : Int) + s + d5 f) + 1) (k := z) (by omega) (by omega)
      omega
    · exact h)
  have HLOW : Hid (∀ y : Int, -9800 ≤ y → vx M s f < tenx y → -9700 ≤ y) := Lib.hid (fun y h1 h2 => lg_low hM hs hf h1 h2)
  have CC := Lib.hid (fun (A : Option Addr) (y : Int) w' (hy : -9900 ≤ y ∧ y ≤ 9900) (h1 : IsN w' (.slice Av nv cv) M) (h2 : IsN w' (.slice A 1 1) 1) => rcmp_X neg false (.slice Av nv cv) (.slice A 1 1) s f y y M 1 (xcmp M s f 1 y y) w' h1 h2 hb (by decide) (by omega) (by omega) (by omega) (by omega) rfl)
  have HM := Lib.hid hM
  have HV := Lib.hid hv
  clear hv h0 hM hs hf hb l1 l2 l3
  have TT : ∀ y : Int, xcmp M s f 1 y y = cmpN (vx M s f) (tenx y) := fun y => rfl
  have TTH := Lib.hid TT
  clear TT
  have HA := Lib.hid (bgrow (bgrow (bgrow (Below.refl w.heap.size w) (xbox neg (.slice Av nv cv) s f)) (.cells #[.int .u64 1] 35)) (xbox false (.slice (some ⟨w.heap.size + 1, 0, none⟩) 1 1) 0 0))
  have X0 := Lib.hid (((XB.new w neg (.slice Av nv cv) s f).alloc (.cells #[.int .u64 1] 35)).alloc (xbox false (.slice (some ⟨w.heap.size + 1, 0, none⟩) 1 1) 0 0))
  unfold xv xbox at *
  go_enter Try.func20, Try.ntmps20
  go_wp2_with fail
  have XO : Hid (XB ((((w.alloc (Obj.cells #[Value.bool neg, Value.slice Av nv cv, Value.int IntKind.i64 s, Value.int IntKind.i64 f] 25)).alloc (Obj.cells #[Value.int IntKind.u64 1] 35)).alloc (Obj.cells #[Value.bool false, Value.slice (some { block := w.heap.size + 1, off := 0 }) 1 1, Value.int IntKind.i64 0, Value.int IntKind.i64 0] 25))) (w.heap.size + 1 + 1) false (.slice (some { block := w.heap.size + 1, off := 0 }) 1 1) 0 0) := Lib.hid (by
    have := XB.new ((w.alloc (Obj.cells #[Value.bool neg, Value.slice Av nv cv, Value.int IntKind.i64 s, Value.int IntKind.i64 f] 25)).alloc (Obj.cells #[Value.int IntKind.u64 1] 35)) false (.slice (some { block := w.heap.size + 1, off := 0 }) 1 1) 0 0
    simpa using this)
  have IL : Hid (IsN ((((w.alloc (Obj.cells #[Value.bool neg, Value.slice Av nv cv, Value.int IntKind.i64 s, Value.int IntKind.i64 f] 25)).alloc (Obj.cells #[Value.int IntKind.u64 1] 35)).alloc (Obj.cells #[Value.bool false, Value.slice (some { block := w.heap.size + 1, off := 0 }) 1 1, Value.int IntKind.i64 0, Value.int IntKind.i64 0] 25))) (.slice (some { block := w.heap.size + 1, off := 0 }) 1 1) 1) := Lib.hid (lit_N (by simp [go_sem]) (by decide) (by decide))
  generalize (((w.alloc (Obj.cells #[Value.bool neg, Value.slice Av nv cv, Value.int IntKind.i64 s, Value.int IntKind.i64 f] 25)).alloc (Obj.cells #[Value.int IntKind.u64 1] 35)).alloc (Obj.cells #[Value.bool false, Value.slice (some { block := w.heap.size + 1, off := 0 }) 1 1, Value.int IntKind.i64 0, Value.int IntKind.i64 0] 25)) = WB at XO IL X0 HA ⊢
  have HG : Hid (w.heap.size < w.heap.size + 1 + 1) := Lib.hid (by omega)
  generalize w.heap.size + 1 + 1 = G at XO HG ⊢
  generalize w.heap.size + 1 = Gl at XO IL ⊢
  go_loopw [3] (fun k wr => ∃ y : Int, k = .int .i64 y ∧ y ≤ 0 ∧ -9800 ≤ y ∧ Hid (y = 0 ∨ vx M s f < tenx (y + 1)) ∧ Hid (XB wr G false (.slice (some { block := Gl, off := 0 }) 1 1) y y) ∧ Hid (XB wr w.heap.size neg (.slice Av nv cv) s f) ∧ Hid (IsN wr (.slice (some { block := Gl, off := 0 }) 1 1) 1) ∧ Hid (Below w.heap.size w wr)) (fun k _ => (intOf k + 10000).toNat)
  case atStart => exact ⟨0, rfl, by omega, by omega, Lib.hid (Or.inl rfl), XO, X0, IL, HA⟩
  case round =>
    obtain ⟨y, rfl, hy0, hy1, hup, hxo, hxx, hil, hBel⟩ := hrel
    obtain ⟨r, hr⟩ : ∃ r, xcmp M s f 1 y y = r := ⟨_, rfl⟩
    have CY := Lib.hid (fun w' h1 h2 => CC.out (some { block := Gl, off := 0 }) y w' (by omega) h1 h2)
    rw [hr] at CY
    have hrr := TTH.out y
    rw [hr] at hrr
    have hc3 := cmpN_cases3 (vx M s f) (tenx y)
    rw [← hrr] at hc3
    have hvN := Lib.hid (HV.out.below hBel.out)
    obtain ⟨q0, q1, q2, q3, -⟩ := hxo.out.cells
    obtain ⟨p0, p1, p2, p3, -⟩ := hxx.out.cells
    have m1 : IntKind.i64.wrap (y - 1) = y - 1 := IntWalk.i64_in _ (by omega)
    clear hr hrr
    by_cases hlt : vx M s f < tenx y
    · have u1 : decide (r < 0) = true := by rcases hc3 with ⟨h1, h2⟩ | ⟨h1, h2⟩ | ⟨h1, h2⟩ <;> rw [h1] <;> first | rfl | omega
      have HLT := Lib.hid (And.intro hlt (HLOW.out y hy1 hlt))
      clear hlt hc3
      go_wp2_with fail
      with_reducible (refine (CY.out _ hvN.out hil.out).mono ?_)
      rintro e w1 ⟨rfl, b1⟩
      have XO1 := Lib.hid (hxo.out.below b1)
      have XX1 := Lib.hid (hxx.out.below b1)
      have IL1 := Lib.hid (hil.out.below b1)
      have HB1 := Lib.hid (bthen hBel.out b1)
      clear b1 hxo hxx hil hBel hvN CY q0 q1 q2 q3 p0 p1 p2 p3
      obtain ⟨q0, q1, q2, q3, q4, q5, q6, q7, q8, q9⟩ := XO1.out.cells
      go_wp2_with fail
      go_roundw
      case rel =>
        have hlo := HLT.out.2
        have hg := HG.out
        have e1 : XB (w1.setCell { block := G, off := 2 } (.int .i64 (y - 1))) G false (.slice (some { block := Gl, off := 0 }) 1 1) (y - 1) y := XO1.out.put2 _
        refine ⟨y - 1, rfl, by omega, by omega, Lib.hid (Or.inr (by rw [show y - 1 + 1 = y by omega]; exact HLT.out.1)), Lib.hid (e1.put3 _), Lib.hid ((XX1.out.far (p := { block := G, off := 2 }) (Nat.ne_of_lt hg) _).far (p := { block := G, off := 3 }) (Nat.ne_of_lt hg) _), Lib.hid ((IL1.out.set1 XO1.out 2 _).set1 e1 3 _), Lib.hid ((HB1.out.setCell (p := { block := G, off := 2 }) (Nat.le_of_lt hg) _).setCell (p := { block := G, off := 3 }) (Nat.le_of_lt hg) _)⟩
      case measure => have := HLT.out.2; simp [intOf]; omega
    · have u1 : decide (r < 0) = false := by rcases hc3 with ⟨h1, h2⟩ | ⟨h1, h2⟩ | ⟨h1, h2⟩ <;> rw [h1] <;> first | rfl | omega
      have hle : tenx y ≤ vx M s f := by omega
      have HLE := Lib.hid hle
      clear hlt hc3 hle
      have m2 : IntKind.i64.wrap (y + 1) = y + 1 := IntWalk.i64_in _ (by omega)
      go_wp2_with fail
      with_reducible (refine (CY.out _ hvN.out hil.out).mono ?_)
      rintro e w1 ⟨rfl, b1⟩
      have XX1 := Lib.hid (hxx.out.below b1)
      have HB1 := Lib.hid (bthen hBel.out b1)
      clear b1 hxo hxx hil hBel hvN CY q0 q1 q2 q3 p0 p1 p2 p3
      go_wp2_with fail
      have XN : Hid (XB ((w1.alloc (Obj.cells #[Value.int IntKind.u64 1] 35)).alloc (Obj.cells #[Value.bool false, Value.slice (some { block := w1.heap.size, off := 0 }) 1 1, Value.int IntKind.i64 (y + 1), Value.int IntKind.i64 (y + 1)] 25)) (w1.heap.size + 1) false (.slice (some { block := w1.heap.size, off := 0 }) 1 1) (y + 1) (y + 1)) := Lib.hid (by
        have := XB.new (w1.alloc (Obj.cells #[Value.int IntKind.u64 1] 35)) false (.slice (some { block := w1.heap.size, off := 0 }) 1 1) (y + 1) (y + 1)
        simpa using this)
      have IL2 : Hid (IsN ((w1.alloc (Obj.cells #[Value.int IntKind.u64 1] 35)).alloc (Obj.cells #[Value.bool false, Value.slice (some { block := w1.heap.size, off := 0 }) 1 1, Value.int IntKind.i64 (y + 1), Value.int IntKind.i64 (y + 1)] 25)) (.slice (some { block := w1.heap.size, off := 0 }) 1 1) 1) := Lib.hid (lit_N (by simp [go_sem]) (by decide) (by decide))
      have XX2 : Hid (XB ((w1.alloc (Obj.cells #[Value.int IntKind.u64 1] 35)).alloc (Obj.cells #[Value.bool false, Value.slice (some { block := w1.heap.size, off := 0 }) 1 1, Value.int IntKind.i64 (y + 1), Value.int IntKind.i64 (y + 1)] 25)) w.heap.size neg (.slice Av nv cv) s f) := Lib.hid ((XX1.out.alloc _).alloc _)
      have HB2 : Hid (Below w.heap.size w ((w1.alloc (Obj.cells #[Value.int IntKind.u64 1] 35)).alloc (Obj.cells #[Value.bool false, Value.slice (some { block := w1.heap.size, off := 0 }) 1 1, Value.int IntKind.i64 (y + 1), Value.int IntKind.i64 (y + 1)] 25))) := Lib.hid (bgrow (bgrow HB1.out _) _)
      have HG2 : Hid (w.heap.size < w1.heap.size + 1) := Lib.hid (by have := HB1.out.size; omega)
      clear XX1 HB1
      generalize ((w1.alloc (Obj.cells #[Value.int IntKind.u64 1] 35)).alloc (Obj.cells #[Value.bool false, Value.slice (some { block := w1.heap.size, off := 0 }) 1 1, Value.int IntKind.i64 (y + 1), Value.int IntKind.i64 (y + 1)] 25)) = WC at XN IL2 XX2 HB2 ⊢
      generalize w1.heap.size + 1 = G2 at XN HG2 ⊢
      generalize w1.heap.size = Gm at XN IL2 ⊢
      go_loopw [3] (fun k wr => ∃ z : Int, k = .int .i64 z ∧ y ≤ z ∧ Hid (tenx z ≤ vx M s f) ∧ Hid (XB wr G2 false (.slice (some { block := Gm, off := 0 }) 1 1) (z + 1) (z + 1)) ∧ Hid (XB wr w.heap.size neg (.slice Av nv cv) s f) ∧ Hid (IsN wr (.slice (some { block := Gm, off := 0 }) 1 1) 1) ∧ Hid (Below w.heap.size w wr)) (fun k _ => (10000 - intOf k).toNat)
      case atStart => exact ⟨y, rfl, Int.le_refl _, HLE, XN, XX2, IL2, HB2⟩
      case round =>
        obtain ⟨z, rfl, hyz, hlo, hxo, hxx, hil, hBel⟩ := hrel
        have hz9 : z ≤ 9600 := HUP.out z (by omega) hlo.out
        obtain ⟨r2, hr⟩ : ∃ r2, xcmp M s f 1 (z + 1) (z + 1) = r2 := ⟨_, rfl⟩
        have CY := Lib.hid (fun w' h1 h2 => CC.out (some { block := Gm, off := 0 }) (z + 1) w' (by omega) h1 h2)
        rw [hr] at CY
        have hrr := TTH.out (z + 1)
        rw [hr] at hrr
        have hc3 := cmpN_cases3 (vx M s f) (tenx (z + 1))
        rw [← hrr] at hc3
        have hvN := Lib.hid (HV.out.below hBel.out)
        obtain ⟨q0, q1, q2, q3, -⟩ := hxo.out.cells
        obtain ⟨p0, p1, p2, p3, -⟩ := hxx.out.cells
        have m3 : IntKind.i64.wrap (z + 1) = z + 1 := IntWalk.i64_in _ (by omega)
        have m4 : IntKind.i64.wrap (z + 1 + 1) = z + 1 + 1 := IntWalk.i64_in _ (by omega)
        clear hr hrr
        by_cases hlt : vx M s f < tenx (z + 1)
        · have u2 : decide ((0 : Int) ≤ r2) = false := by rcases hc3 with ⟨h1, h2⟩ | ⟨h1, h2⟩ | ⟨h1, h2⟩ <;> rw [h1] <;> first | rfl | omega
          have HLT := Lib.hid hlt
          clear hlt hc3
          go_wp2_with fail
          with_reducible (refine (CY.out _ hvN.out hil.out).mono ?_)
          rintro e w3 ⟨rfl, b3⟩
          have HB3 := Lib.hid (bthen hBel.out b3)
          clear b3
          go_wp2_with fail
          go_ret
          exact ⟨⟨z, rfl, by omega, by omega, Or.inr ⟨HM.out, hlo.out, HLT.out⟩⟩, HB3.out⟩
        · have u2 : decide ((0 : Int) ≤ r2) = true := by rcases hc3 with ⟨h1, h2⟩ | ⟨h1, h2⟩ | ⟨h1, h2⟩ <;> rw [h1] <;> first | rfl | omega
          have HLT : Hid (tenx (z + 1) ≤ vx M s f) := Lib.hid (by omega)
          have HZ9 := Lib.hid (HUP.out (z + 1) (by omega) HLT.out)
          clear hlt hc3
          go_wp2_with fail
          with_reducible (refine (CY.out _ hvN.out hil.out).mono ?_)
          rintro e w3 ⟨rfl, b3⟩
          have XO1 := Lib.hid (hxo.out.below b3)
          have XX1 := Lib.hid (hxx.out.below b3)
          have IL1 := Lib.hid (hil.out.below b3)
          have HB1 := Lib.hid (bthen hBel.out b3)
          clear b3 hxo hxx hil hBel hvN CY q0 q1 q2 q3 p0 p1 p2 p3
          obtain ⟨q0, q1, q2, q3, q4, q5, q6, q7, q8, q9⟩ := XO1.out.cells
          go_wp2_with fail
          go_roundw
          case rel =>
            have hg := HG2.out
            have e1 : XB (w3.setCell { block := G2, off := 2 } (.int .i64 (z + 1 + 1))) G2 false (.slice (some { block := Gm, off := 0 }) 1 1) (z + 1 + 1) (z + 1) := XO1.out.put2 _
            refine ⟨z + 1, rfl, by omega, HLT, Lib.hid (e1.put3 _), Lib.hid ((XX1.out.far (p := { block := G2, off := 2 }) (Nat.ne_of_lt hg) _).far (p := { block := G2, off := 3 }) (Nat.ne_of_lt hg) _), Lib.hid ((IL1.out.set1 XO1.out 2 _).set1 e1 3 _), Lib.hid ((HB1.out.setCell (p := { block := G2, off := 2 }) (Nat.le_of_lt hg) _).setCell (p := { block := G2, off := 3 }) (Nat.le_of_lt hg) _)⟩
          case measure => have := HZ9.out; simp [intOf]; omega
theorem rlog_X (neg : Bool) (v : Value) (s f : Int) (M : Nat) (w : World) (hv : IsN w v M) (hs : -6000 ≤ s ∧ s ≤ 6000) (hf : -6000 ≤ f ∧ f ≤ 6000) (hb : bitsN M ≤ 9000) :
    Calls Try.prog 20 #[xv neg v s f] w fun e w' => (∃ k, e = .returned (.int .i64 k) ∧ Lg M s f k) ∧ Below w.heap.size w w' := by
  rcases Nat.eq_zero_or_pos M with h0 | h0
  · subst h0
    refine (rlog_zero neg v s f w hv).mono ?_
    rintro e w' ⟨rfl, hb⟩
    exact ⟨⟨0, rfl, by decide, by decide, Or.inl ⟨rfl, rfl⟩⟩, hb⟩
  · exact rlog_pos neg v s f M w hv h0 hs hf hb
end Go.Proofs.Yteiajccjlbghoaa

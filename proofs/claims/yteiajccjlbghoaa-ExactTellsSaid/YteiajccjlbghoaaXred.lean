/- package exact's Reduced walked. Conditions: as each theorem names them. -/
import Derived.Test.YteiajccjlbghoaaXrs
set_option linter.unusedVariables false
namespace Go.Proofs.Yteiajccjlbghoaa
open Go.RowKit

theorem odd_part {M : Nat} (h : 0 < M) : ∃ t o, M = 2 ^ t * (2 * o + 1) := by
  induction M using Nat.strongRecOn with
  | ind M ih =>
    rcases Nat.mod_two_eq_zero_or_one M with h0 | h0
    · obtain ⟨t, o, e⟩ := ih (M / 2) (by omega) (by omega)
      exact ⟨t + 1, o, by rw [Nat.pow_succ, Nat.mul_assoc, Nat.mul_left_comm, ← e]; omega⟩
    · exact ⟨0, M / 2, by rw [Nat.pow_zero]; omega⟩
theorem odd_bit (t o j : Nat) (h : j ≤ t) : decide (2 ^ t * (2 * o + 1) / 2 ^ j % 2 = 1) = decide (j = t) := by
  obtain ⟨d, rfl⟩ : ∃ d, t = j + d := ⟨t - j, by omega⟩
  rw [Nat.pow_add, Nat.mul_assoc, Nat.mul_div_cancel_left _ (Nat.two_pow_pos j)]
  rcases d with _ | d
  · simp
  · have : 2 ^ (d + 1) * (2 * o + 1) % 2 = 0 := by rw [Nat.pow_succ, Nat.mul_comm (2 ^ d), Nat.mul_assoc, Nat.mul_mod_right]
    rw [this]; simp
set_option maxHeartbeats 8000000 in
theorem red_pos (neg : Bool) (v : Value) (s f : Int) (M : Nat) (w : World) (h : XOk w v M s f) (hM : 0 < M) :
    Calls Try.prog 33 #[xv neg v s f] w fun e w' => (∃ A n c t g N, e = .returned (xv neg (.slice A n c) t g) ∧ IsN w' (.slice A n c) N ∧ Bare M s f N t g) ∧ Below w.heap.size w w' := by
  obtain ⟨Av, nv, cv, F, rfl, hrd, hnm, hsum⟩ := h.isn
  obtain ⟨nb, hnb⟩ : ∃ nb, bitsN M = nb := ⟨_, rfl⟩
  have B := Lib.hid (fun w h => bits_N (.slice Av nv cv) M nb w h hnb)
  have t1 : ((nb : Int) == 0) = false := by
    have := bitsN_low hM; simp; omega
  have HH := Lib.hid h
  have HR := Lib.hid hrd
  have HN := Lib.hid (fun w h => norm_F Av nv cv F w h)
  rw [hsum] at HN
  clear h hrd hnm hsum
  unfold xv
  go_enter Try.func33, Try.ntmps33
  go_wp2_with fail
  have HB0 : Hid (Below w.heap.size w ((w.alloc (Obj.cells #[Value.bool neg, Value.slice Av nv cv, Value.int IntKind.i64 s, Value.int IntKind.i64 f] 25)).alloc (Obj.cells #[Value.bool false, Value.slice none 0 0, Value.int IntKind.i64 0, Value.int IntKind.i64 0] 25))) := Lib.hid (bgrow (bgrow (Below.refl _ _) _) _)
  with_reducible (refine (B.out _ (HH.out.isn.below HB0.out)).mono ?_)
  rintro e w1 ⟨rfl, rfl⟩
  go_wp2_with fail
  with_reducible (refine (HN.out _ (HR.out.below HB0.out)).mono ?_)
  rintro e w1 ⟨⟨A1, n1, c1, rfl, j1⟩, b1⟩
  have HF1 := Lib.hid j1
  have HB1 := Lib.hid (bthen HB0.out b1)
  have X0 := Lib.hid b1
  have X1 : Hid (w1.heap[w.heap.size]? = some (.cells #[.bool neg, .slice Av nv cv, .int .i64 s, .int .i64 f] 25 (0, 0)) ∧ w.heap.size + 1 < w1.heap.size) := Lib.hid (by
    have hs := b1.size
    simp at hs
    exact ⟨by rw [b1.block _ (by simp; omega), Deep.blk_alloc_lt _ _ _ (by simp), Deep.blk_alloc_new], by omega⟩)
  clear j1 b1
  go_wp2_with fail
  have XW : Hid (RB w1 (w.heap.size + 1)) := Lib.hid (by
    have hh := RB.new (w.alloc (Obj.cells #[Value.bool neg, Value.slice Av nv cv, Value.int IntKind.i64 s, Value.int IntKind.i64 f] 25))
    simp only [World.size_alloc] at hh
    exact hh.below X0.out)
  have hgx : w.heap.size ≠ w1.heap.size := by
    have := heap_lt (h := X1.out.1)
    exact Nat.ne_of_lt this
  obtain ⟨tz, od, hMo⟩ := odd_part hM
  have HRS : Hid (RS (w1.alloc (Obj.cells #[Value.slice A1 n1 c1] 23)) w.heap.size w1.heap.size neg (.slice Av nv cv) (.slice A1 n1 c1) s f) := Lib.hid ⟨by rw [Deep.blk_alloc_lt _ _ _ (by have := X1.out.2; omega)]; exact X1.out.1, Deep.blk_alloc_new _ _⟩
  have HBL := Lib.hid (bgrow HB1.out (Obj.cells #[Value.slice A1 n1 c1] 23))
  have HWR := Lib.hid (XW.out.below (bgrow (Below.refl _ _) (Obj.cells #[Value.slice A1 n1 c1] 23)))
  have HNL := Lib.hid (HF1.out.isn.alloc (Obj.cells #[Value.slice A1 n1 c1] 23))
  have hGN : Hid (w.heap.size + 1 < w1.heap.size) := Lib.hid X1.out.2
  generalize w1.heap.size = gn at HRS hgx hGN ⊢
  generalize w1.alloc (Obj.cells #[Value.slice A1 n1 c1] 23) = WL at HRS HBL HNL HWR ⊢
  have htz : tz ≤ 100000 := by
    have h1 := (bitsN_low hM)
    have h2 : 2 ^ tz ≤ M := by rw [hMo]; exact Nat.le_mul_of_pos_right _ (by omega)
    have := HH.out.bits
    have h3 := (Nat.pow_lt_pow_iff_right (a := 2) (by decide)).1 (Nat.lt_of_le_of_lt h2 h1.2.1)
    omega
  have HM := Lib.hid hM
  have HMO := Lib.hid hMo
  clear X1 X0 XW HB1 HF1 hM hMo HN HR HB0
  go_loopw [4] (fun low wr => ∃ j : Nat, j ≤ tz ∧ low = .int .i64 j ∧ wr = WL) (fun low _ => tz - (intOf low).toNat)
  case atStart => exact ⟨0, Nat.zero_le _, rfl, rfl⟩
  case round =>
    obtain ⟨j, hj, rfl, rfl⟩ := hrel
    have BT := Lib.hid (fun w h => bit_N (.slice A1 n1 c1) M j (decide (j = tz)) w h (by omega) (by rw [HMO.out]; exact odd_bit tz od j hj))
    obtain ⟨q0, q1, q2, q3, q4, q5, q6, q7, q8⟩ := HRS.out.cells
    rcases Nat.eq_or_lt_of_le hj with hjt | hjt
    · subst hjt
      rw [decide_eq_true rfl] at BT
      have SH := Lib.hid (fun w' (hb : Below wr.heap.size wr w') => (shr_N (.slice A1 n1 c1) M _ j j w' (HNL.out.below hb) (bitsN_lt M) (by have := HH.out.bits; omega) (by omega)).mono fun e w'' h => And.intro (shaped h.1) (And.intro (Lib.hid (bthen hb h.2)) (HRS.out.below (bthen hb h.2)).cells))
      have hs2 : IntKind.i64.wrap (s + (j : Int)) = s + (j : Int) := IntWalk.i64_in _ (by have := HH.out.s1; have := HH.out.s2; omega)
      clear hj htz
      go_wp2_with fail
      with_reducible (refine (BT.out _ HNL.out).mono ?_)
      rintro e w2 ⟨rfl, rfl⟩
      go_wp2_with fail
      go_region_with ((go_at_call 58); (refine (SH.out _ (bdrewN (Below.refl _ _) 1)).mono ?_); (rintro en w2 ⟨⟨A2, n2, c2, rfl, i2⟩, b2, p0, p1, p2, p3, p4, p5, p6, p7, p8⟩))
      all_goals
        have HQ := Lib.hid (bthen (show Below wr.heap.size wr w2 from b2.out) (Below.refl _ _))
        have I2 := Lib.hid i2
        clear b2 SH BT q0 q1 q2 q3 q4 q5 q6 q7 q8
        have hsz : gn < w2.heap.size := Nat.lt_of_lt_of_le (heap_lt HRS.out.2) HQ.out.size
        go_wp2_with fail
        clear p0 p1 p2 p3 p4 p5 p6 p7 p8
        have HRT := Lib.hid ((HRS.out.below HQ.out).two (u := .slice A2 n2 c2) (s' := s + (j : Int)) hgx)
        have HIT := Lib.hid ((HRS.out.below HQ.out).isn hgx I2.out (.slice A2 n2 c2) (.int .i64 (s + (j : Int))) 2)
        have HWT : Hid (RB ((w2.setCell { block := gn, off := 0 } (.slice A2 n2 c2)).setCell { block := w.heap.size, off := 2 } (.int .i64 (s + (j : Int)))) (w.heap.size + 1)) := Lib.hid (by
          show _ = _
          rw [Deep.blk_setCell_other _ _ _ _ (by simp), Deep.blk_setCell_other _ _ _ _ (by have := hGN.out; simp; omega)]
          exact HWR.out.below HQ.out)
        have HBT := Lib.hid (((bthen HBL.out HQ.out).setCell (p := { block := gn, off := 0 }) (by have := hGN.out; simp; omega) (.slice A2 n2 c2)).setCell (p := { block := w.heap.size, off := 2 }) (Nat.le_refl _) (.int .i64 (s + (j : Int))))
        have hga : Hid (((w2.setCell { block := gn, off := 0 } (.slice A2 n2 c2)).setCell { block := w.heap.size, off := 2 } (.int .i64 (s + (j : Int)))).heap.size = w2.heap.size) := Lib.hid (by simp)
        generalize (w2.setCell { block := gn, off := 0 } (.slice A2 n2 c2)).setCell { block := w.heap.size, off := 2 } (.int .i64 (s + (j : Int))) = wq at HRT HIT HWT HBT hga ⊢
        have HR0 : Hid (Red w (wq.alloc (.cells #[.int .i64 27, .int .i64 1] 3)) w.heap.size gn w2.heap.size (w.heap.size + 1) neg Av nv cv (2 * od + 1) (s + (j : Int)) f A2 n2 c2 (2 * od + 1) f) := Lib.hid
          ⟨HRT.out.below (bgrow (Below.refl _ _) _), (HIT.out.eq (by rw [HMO.out, Nat.mul_div_cancel_left _ (Nat.two_pow_pos j)])).alloc _, by omega, by omega, ⟨0, by omega, by omega⟩, by rw [← hga.out]; exact Deep.blk_alloc_new _ _, HWT.out.below (bgrow (Below.refl _ _) _), bgrow HBT.out _⟩
        have hgaN : Hid (w2.heap.size ≠ w.heap.size ∧ w2.heap.size ≠ gn ∧ w.heap.size + 1 ≠ w.heap.size ∧ w.heap.size + 1 ≠ gn) := Lib.hid (by have := hGN.out; exact ⟨by omega, by omega, by omega, by omega⟩)
        have HSZ := Lib.hid hsz
        clear HRT HIT HWT HBT hsz I2 HQ HRS HWR
        generalize w2.heap.size = ga at HR0 hgaN hga HSZ ⊢
        generalize wq.alloc (.cells #[.int .i64 27, .int .i64 1] 3) = wa at HR0 ⊢
        have HOD : Hid (2 * od + 1 < 2 ^ bitsN M) := Lib.hid (by
          refine Nat.lt_of_le_of_lt ?_ (bitsN_lt M)
          rw [HMO.out]
          exact Nat.le_mul_of_pos_left (2 * od + 1) (Nat.two_pow_pos j))
        have hnbb : nb ≤ 100000 := by rw [← hnb]; exact HH.out.bits
        rw [hnb] at HOD
        go_loopw [34] (fun ix wr' => ∃ i : Nat, i ≤ 2 ∧ ix = .int .i64 i ∧ ∃ (A : Option Addr) (n c N : Nat) (g : Int), Hid (Red w wr' w.heap.size gn ga (w.heap.size + 1) neg Av nv cv (2 * od + 1) (s + (j : Int)) f A n c N g) ∧ Hid (i = 2 → N % 5 ≠ 0)) (fun ix _ => 2 - (intOf ix).toNat)
        case atStart => exact ⟨0, by decide, rfl, _, _, _, _, _, HR0, Lib.hid (fun h => by omega)⟩
        case round =>
          obtain ⟨i, hi, rfl, A3, n3, c3, N3, g3, hR, h5⟩ := hrel
          have ha0 := hR.out.arr
          have hi2 := hi
          rcases (show i = 0 ∨ i = 1 ∨ i = 2 by omega) with rfl | rfl | rfl
          · have e0 : wr.cell? { block := ga, off := 0 } = some (.int .i64 27) := by simp [World.cell?, ha0]
            clear ha0 h5 hi
            go_wp2_with fail
            go_loopw [39] (fun _ wr' => ∃ (A : Option Addr) (n c N : Nat) (g : Int), Hid (Red w wr' w.heap.size gn ga (w.heap.size + 1) neg Av nv cv (2 * od + 1) (s + (j : Int)) f A n c N g)) (fun _ wr' => (f + 300000 - intOf ((wr'.cell? { block := w.heap.size, off := 3 }).getD undef)).toNat)
            case atStart => exact ⟨_, _, _, _, _, hR⟩
            case round =>
              obtain ⟨A4, n4, c4, N4, g4, hR4⟩ := hrel
              obtain ⟨d, hd⟩ : ∃ d, decide (N4 % 5 ^ 27 = 0) = d := ⟨_, rfl⟩
              obtain ⟨r1, r2, r3⟩ := hR4.out.range HOD.out
              have OC : Hid (∀ w', RS w' w.heap.size gn neg (.slice Av nv cv) (.slice A4 n4 c4) (s + (j : Int)) g4 → IsN w' (.slice A4 n4 c4) N4 → Calls Try.prog 59 #[.int .i64 27, .pointer (some { block := gn, off := 0 }), .pointer (some { block := w.heap.size, off := 0 })] w' fun e w'' => e = .returned (.bool d) ∧ (∃ A2 n2 c2, RS w'' w.heap.size gn neg (.slice Av nv cv) (.slice A2 n2 c2) (s + (j : Int)) (if d = true then g4 + (27 : Nat) else g4) ∧ IsN w'' (.slice A2 n2 c2) (if d = true then N4 / 5 ^ 27 else N4)) ∧ Below w.heap.size w' w'' ∧ (∀ g, g < w'.heap.size → g ≠ w.heap.size → g ≠ gn → w''.heap[g]? = w'.heap[g]?)) := Lib.hid (fun w' h1 h2 => out_N w.heap.size gn neg Av A4 nv cv n4 c4 (s + (j : Int)) g4 N4 27 nb w.heap.size d w' h1 hgx (Nat.le_refl _) (by have := hGN.out; omega) h2 r3 (by omega) (by decide) (by have := HH.out.f1; have := HH.out.f2; omega) hd)
              have hd' := Lib.hid hd
              have hr12 := Lib.hid (And.intro r1 r2)
              clear hd r1 r2 r3
              cases d with
              | true =>
                go_wp2_with fail
                with_reducible (refine (OC.out _ hR4.out.rs hR4.out.isn).mono ?_)
                rintro e w5 ⟨rfl, hrs, hb5, ho5⟩
                obtain ⟨A5, n5, c5, hR5⟩ := hR4.out.step hgaN.out hd'.out hrs hb5 ho5
                have HR5 := Lib.hid hR5
                have m3 := hR5.rs.cells.2.2.2.1
                have m4 := hR4.out.rs.cells.2.2.2.1
                clear hrs hb5 ho5 hR5
                go_wp2_with fail
                go_roundw
                case rel => exact ⟨_, _, _, ⟨_, _, _, _, _, HR5⟩, rfl⟩
                case measure =>
                  have := hr12.out
                  simp only [m3, m4, Option.getD_some, intOf]
                  simp
                  omega
              | false =>
                go_wp2_with fail
                with_reducible (refine (OC.out _ hR4.out.rs hR4.out.isn).mono ?_)
                rintro e w5 ⟨rfl, hrs, hb5, ho5⟩
                obtain ⟨A5, n5, c5, hR5⟩ := hR4.out.step hgaN.out hd'.out hrs hb5 ho5
                have HR5 : Hid (Red w w5 w.heap.size gn ga (w.heap.size + 1) neg Av nv cv (2 * od + 1) (s + (j : Int)) f A5 n5 c5 N4 g4) := Lib.hid (by simpa using hR5)
                clear hrs hb5 ho5 hR5
                go_wp2_with fail
                go_roundw
                case rel => exact ⟨1, by omega, rfl, _, _, _, _, _, HR5, Lib.hid (by intro h; omega)⟩
                case measure => simp [intOf]
          · have e0 : wr.cell? { block := ga, off := 1 } = some (.int .i64 1) := by simp [World.cell?, ha0]
            clear ha0 h5 hi
            go_wp2_with fail
            go_loopw [39] (fun _ wr' => ∃ (A : Option Addr) (n c N : Nat) (g : Int), Hid (Red w wr' w.heap.size gn ga (w.heap.size + 1) neg Av nv cv (2 * od + 1) (s + (j : Int)) f A n c N g)) (fun _ wr' => (f + 300000 - intOf ((wr'.cell? { block := w.heap.size, off := 3 }).getD undef)).toNat)
            case atStart => exact ⟨_, _, _, _, _, hR⟩
            case round =>
              obtain ⟨A4, n4, c4, N4, g4, hR4⟩ := hrel
              obtain ⟨d, hd⟩ : ∃ d, decide (N4 % 5 ^ 1 = 0) = d := ⟨_, rfl⟩
              obtain ⟨r1, r2, r3⟩ := hR4.out.range HOD.out
              have OC : Hid (∀ w', RS w' w.heap.size gn neg (.slice Av nv cv) (.slice A4 n4 c4) (s + (j : Int)) g4 → IsN w' (.slice A4 n4 c4) N4 → Calls Try.prog 59 #[.int .i64 1, .pointer (some { block := gn, off := 0 }), .pointer (some { block := w.heap.size, off := 0 })] w' fun e w'' => e = .returned (.bool d) ∧ (∃ A2 n2 c2, RS w'' w.heap.size gn neg (.slice Av nv cv) (.slice A2 n2 c2) (s + (j : Int)) (if d = true then g4 + (1 : Nat) else g4) ∧ IsN w'' (.slice A2 n2 c2) (if d = true then N4 / 5 ^ 1 else N4)) ∧ Below w.heap.size w' w'' ∧ (∀ g, g < w'.heap.size → g ≠ w.heap.size → g ≠ gn → w''.heap[g]? = w'.heap[g]?)) := Lib.hid (fun w' h1 h2 => out_N w.heap.size gn neg Av A4 nv cv n4 c4 (s + (j : Int)) g4 N4 1 nb w.heap.size d w' h1 hgx (Nat.le_refl _) (by have := hGN.out; omega) h2 r3 (by omega) (by decide) (by have := HH.out.f1; have := HH.out.f2; omega) hd)
              have hd' := Lib.hid hd
              have hr12 := Lib.hid (And.intro r1 r2)
              clear hd r1 r2 r3
              cases d with
              | true =>
                go_wp2_with fail
                with_reducible (refine (OC.out _ hR4.out.rs hR4.out.isn).mono ?_)
                rintro e w5 ⟨rfl, hrs, hb5, ho5⟩
                obtain ⟨A5, n5, c5, hR5⟩ := hR4.out.step hgaN.out hd'.out hrs hb5 ho5
                have HR5 := Lib.hid hR5
                have m3 := hR5.rs.cells.2.2.2.1
                have m4 := hR4.out.rs.cells.2.2.2.1
                clear hrs hb5 ho5 hR5
                go_wp2_with fail
                go_roundw
                case rel => exact ⟨_, _, _, ⟨_, _, _, _, _, HR5⟩, rfl⟩
                case measure =>
                  have := hr12.out
                  simp only [m3, m4, Option.getD_some, intOf]
                  simp
                  omega
              | false =>
                go_wp2_with fail
                with_reducible (refine (OC.out _ hR4.out.rs hR4.out.isn).mono ?_)
                rintro e w5 ⟨rfl, hrs, hb5, ho5⟩
                obtain ⟨A5, n5, c5, hR5⟩ := hR4.out.step hgaN.out hd'.out hrs hb5 ho5
                have HR5 : Hid (Red w w5 w.heap.size gn ga (w.heap.size + 1) neg Av nv cv (2 * od + 1) (s + (j : Int)) f A5 n5 c5 N4 g4) := Lib.hid (by simpa using hR5)
                clear hrs hb5 ho5 hR5
                go_wp2_with fail
                go_roundw
                case rel => exact ⟨2, by omega, rfl, _, _, _, _, _, HR5, Lib.hid (by intro _; have h := of_decide_eq_false hd'.out; simpa using h)⟩
                case measure => simp [intOf]
          · obtain ⟨q0, q1, q2, q3, q4, q5, q6, q7, q8⟩ := hR.out.rs.cells
            obtain ⟨x0, x1, x2, x3, ⟨d0, d1, d2, d3⟩, y0, y1, y2, y3⟩ := hR.out.res.wr.four
            have H5 := Lib.hid (h5.out rfl)
            clear ha0 h5 hi
            go_wp2_with fail
            refine bodyPost_ret (v := .agg #[.bool neg, .slice A3 n3 c3, .int .i64 (s + (j : Int)), .int .i64 g3]) (by simp [results, Try.results33, go_sem, *]) rfl ⟨⟨A3, n3, c3, _, _, N3, rfl, ?_, ?_⟩, ?_⟩
            · have hg1 := hR.out.rs.1
              have hg2 := hR.out.res
              have i1 := hR.out.isn.but (w' := wr.setCell { block := w.heap.size, off := 1 } (Value.slice A3 n3 c3)) hg1 (by intro x hx z; simp at hx; rcases hx with rfl | rfl | rfl | rfl <;> simp) (by simp) (fun b hb => Deep.blk_setCell_other _ _ _ _ hb)
              refine i1.but (g := w.heap.size + 1) (cs := #[.bool false, .slice none 0 0, .int .i64 0, .int .i64 0]) (t := 25) (q := (0, 0)) ?_ (by intro x hx z; simp at hx; rcases hx with rfl | rfl | rfl | rfl <;> simp) (by simp) (fun b hb => ?_)
              · rw [Deep.blk_setCell_other _ _ _ _ (by simp)]; exact hg2
              · rw [Deep.blk_setCell_other _ _ _ _ hb, Deep.blk_setCell_other _ _ _ _ hb, Deep.blk_setCell_other _ _ _ _ hb, Deep.blk_setCell_other _ _ _ _ hb]
            · obtain ⟨q, f1, f2⟩ := hR.out.fac
              exact ⟨hR.out.odd, H5.out, j, q, by rw [HMO.out, f1, Nat.mul_comm (2 ^ j), Nat.mul_assoc, Nat.mul_assoc, Nat.mul_comm (5 ^ q)], rfl, f2⟩
            · exact ((((hR.out.below.setCell (p := { block := w.heap.size, off := 1 }) (Nat.le_refl _) _).setCell (p := { block := w.heap.size + 1, off := 0 }) (Nat.le_succ _) _).setCell (p := { block := w.heap.size + 1, off := 1 }) (Nat.le_succ _) _).setCell (p := { block := w.heap.size + 1, off := 2 }) (Nat.le_succ _) _).setCell (p := { block := w.heap.size + 1, off := 3 }) (Nat.le_succ _) _
    · rw [decide_eq_false (by omega)] at BT
      have m1 : IntKind.i64.wrap ((j : Int) + 1) = ((j + 1 : Nat) : Int) := by rw [IntWalk.i64_in _ (by omega)]; rfl
      clear q0 q1 q2 q3 q5 q6 q7 q8
      go_wp2_with fail
      with_reducible (refine (BT.out _ HNL.out).mono ?_)
      rintro e w2 ⟨rfl, rfl⟩
      go_wp2_with fail
      go_roundw
      case rel => exact ⟨j + 1, by omega, rfl, trivial⟩
      case measure => simp [intOf]; omega
end Go.Proofs.Yteiajccjlbghoaa

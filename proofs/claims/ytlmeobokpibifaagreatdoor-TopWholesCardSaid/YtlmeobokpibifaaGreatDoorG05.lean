/- package math-bits' Div64 walked. Conditions: the divisor is above the high word. package math-bits' Div64; package nat's short. Conditions: as each theorem names them. One word of a quotient: the plain law. No program stands here. Conditions: as each theorem names them. -/
import Derived.Test.YtlmeobokpibifaaGreatDoorG04
import Derived.Test.YtlmeobokpibifaaGreatDoorG01
import Derived.Test.YtlmeobokpibifaaGreatDoorShelf
import Derived.Test.YtlmeobokpibifaaGreatDoorG03
section
set_option linter.unusedSimpArgs false
set_option linter.unusedVariables false
set_option linter.unusedVariables false
namespace Go.Proofs.YtlmeobokpibifaaGreatDoor
open Go.RowKit

theorem div64_low (lo y q r : Nat) (w : World) (hlo : lo < 18446744073709551616) (hy : y < 18446744073709551616) (h0 : 0 < y) (hq : lo / y = q) (hr : lo % y = r) :
    Calls Tryz.prog 111 #[.int .u64 0, .int .u64 lo, .int .u64 y] w fun e w' => e = .returned (.tuple #[.int .u64 q, .int .u64 r]) ∧ ∃ k, w' = w.drewN k := by
  have t1 : ((y : Int) == 0) = false := by simp; omega
  have t2 : decide ((y : Int) ≤ 0) = false := decide_eq_false (by omega)
  have hy0 : (y : Int) ≠ 0 := by omega
  have e1 : (lo : Int) / (y : Int) = (q : Int) := by rw [← hq]; rfl
  have e2 : (lo : Int) % (y : Int) = (r : Int) := by rw [← hr]; rfl
  have e3 : (lo : Int).tdiv (y : Int) = (q : Int) := by rw [← hq]; rfl
  have e4 : (lo : Int).tmod (y : Int) = (r : Int) := by rw [← hr]; rfl
  have hq2 : q < 18446744073709551616 := by rw [← hq]; exact Nat.lt_of_le_of_lt (Nat.div_le_self _ _) hlo
  have hr2 : r < 18446744073709551616 := by rw [← hr]; exact Nat.lt_of_le_of_lt (Nat.mod_le _ _) hlo
  have e5 : IntKind.u64.wrap (q : Int) = (q : Int) := wrap_u64_nat _ hq2
  have e6 : IntKind.u64.wrap (r : Int) = (r : Int) := wrap_u64_nat _ hr2
  clear hq hr
  go_enter Tryz.func111, Tryz.ntmps111
  go_wp2_with fail
  go_quiet (fail)
  go_wp2_with fail
  go_ret2
  exact ⟨rfl, _, rfl⟩

theorem lz_any (x : Nat) (h : x < 18446744073709551616) (r : Nat) (hr : r + Lib.bitLen x = 64) (w : World) :
    Calls Tryz.prog 91 #[.int .u64 x] w fun e w' => e = .returned (.int .i64 r) ∧ w = w' := by
  refine (Tryz.bits_LeadingZeros64 (x : Int) w (by omega) (by omega)).mono ?_
  rintro e w' ⟨rfl, rfl⟩
  refine ⟨?_, rfl⟩
  congr 2
  rw [Int.toNat_natCast]
  omega

theorem ret_uu {a b c d : Int} (h : a = c) (k : b = d) : Ending.returned (.tuple #[.int .u64 a, .int .u64 b]) = .returned (.tuple #[.int .u64 c, .int .u64 d]) := by rw [h, k]
theorem word_div (u a p r : Nat) (hu : u < 18446744073709551616) (ha : 0 < a) (ha2 : a < 4294967296) (hp : u / a = p) (hr : u % a = r) :
    IntKind.u64.wrap ((u : Int) / (a : Int)) = (p : Int) ∧ IntKind.u64.wrap ((p : Int) * (a : Int)) = ((p * a : Nat) : Int) ∧ IntKind.u64.wrap ((u : Int) - ((p * a : Nat) : Int)) = (r : Int) := by
  have hd := Nat.div_add_mod u a
  rw [hp, hr, Nat.mul_comm] at hd
  have h1 : p ≤ u := by rw [← hp]; exact Nat.div_le_self _ _
  refine ⟨?_, ?_, ?_⟩
  · have : (u : Int) / (a : Int) = (p : Int) := by rw [← hp]; rfl
    rw [this]; exact wrap_u64_nat _ (by omega)
  · rw [← Int.natCast_mul]; exact wrap_u64_nat _ (by omega)
  · have : (u : Int) - ((p * a : Nat) : Int) = (r : Int) := by omega
    rw [this]; exact wrap_u64_nat _ (by omega)
theorem word_test (p b r d : Nat) (hp : p < 4294967296) (hb : b < 4294967296) (hr : r < 4294967296) (hd : d < 4294967296) :
    IntKind.u64.wrap ((p : Int) * (b : Int)) = ((p * b : Nat) : Int) ∧ IntKind.u64.wrap (4294967296 * (r : Int)) = ((4294967296 * r : Nat) : Int) ∧ IntKind.u64.wrap (((4294967296 * r : Nat) : Int) + (d : Int)) = ((4294967296 * r + d : Nat) : Int) := by
  have h1 : p * b ≤ 4294967295 * 4294967295 := Nat.mul_le_mul (by omega) (by omega)
  refine ⟨?_, ?_, ?_⟩
  · rw [← Int.natCast_mul]; exact wrap_u64_nat _ (by omega)
  · rw [show (4294967296 * (r : Int)) = ((4294967296 * r : Nat) : Int) by omega]; exact wrap_u64_nat _ (by omega)
  · rw [← Int.natCast_add]; exact wrap_u64_nat _ (by omega)

set_option maxHeartbeats 2000000 in
theorem div64_walk (hi lo y s e y1 a b u l l1 l0 q1 v q0 q r : Nat) (w : World) (hhi : hi < y) (hhi0 : 0 < hi) (hlo : lo < 18446744073709551616) (hy : y < 18446744073709551616)
    (Z : ∀ w, Calls Tryz.prog 91 #[.int .u64 y] w fun e w' => e = .returned (.int .i64 s) ∧ w = w') (hs : s < 64) (he : (64 : Int) - (s : Int) = (e : Int)) (he64 : e ≤ 64) (hy1 : IntKind.u64.wrap ((y : Int) * 2 ^ s) = (y1 : Int)) (hy12 : y1 < 18446744073709551616)
    (ha : (y1 : Int) / 4294967296 = (a : Int)) (hb : bits .and .u64 y1 4294967295 = (b : Int)) (hu : bits .or .u64 (IntKind.u64.wrap ((hi : Int) * 2 ^ s)) ((lo : Int) / 2 ^ e) = (u : Int)) (hl : IntKind.u64.wrap ((lo : Int) * 2 ^ s) = (l : Int)) (hl2 : l < 18446744073709551616) (hl1 : (l : Int) / 4294967296 = (l1 : Int)) (hl0 : bits .and .u64 l 4294967295 = (l0 : Int))
    (H1 : Half u l1 a b q1) (H0 : Half v l0 a b q0) (hu1 : u < y1) (hv1 : v < y1)
    (hv : IntKind.u64.wrap (IntKind.u64.wrap (IntKind.u64.wrap ((u : Int) * 4294967296) + (l1 : Int)) - IntKind.u64.wrap ((q1 : Int) * (y1 : Int))) = (v : Int))
    (hq : q1 * 4294967296 + q0 = q) (hq64 : q < 18446744073709551616) (hr : IntKind.u64.wrap (IntKind.u64.wrap (IntKind.u64.wrap ((v : Int) * 4294967296) + (l0 : Int)) - IntKind.u64.wrap ((q0 : Int) * (y1 : Int))) / 2 ^ s = (r : Int)) :
    Calls Tryz.prog 111 #[.int .u64 hi, .int .u64 lo, .int .u64 y] w fun e w' => e = .returned (.tuple #[.int .u64 q, .int .u64 r]) ∧ ∃ k, w' = w.drewN k := by
  have t1 : ((y : Int) == 0) = false := by simp; omega
  have t2 : decide (y ≤ hi) = false := decide_eq_false (by omega)
  have t3 : ((hi : Int) == 0) = false := by simp; omega
  have Z' := Lib.hid Z
  have HH1 := Lib.hid H1
  have HH0 := Lib.hid H0
  have a1 := H1.a1
  have a2 := H1.a2
  have b2 := H1.b2
  have d1 := H1.d2
  have d0 := H0.d2
  have hs64 : IntKind.u64.wrap (s : Int) = (s : Int) := wrap_u64_nat _ (by omega)
  have HQI := Lib.hid (show (q1 : Int) * 4294967296 + (q0 : Int) = (q : Int) by omega)
  have HQW := Lib.hid (show IntKind.u64.wrap ((q1 : Int) * 4294967296 + (q0 : Int)) = (q : Int) by rw [show (q1 : Int) * 4294967296 + (q0 : Int) = (q : Int) by omega]; exact wrap_u64_nat _ hq64)
  have HQ2 := Lib.hid (show IntKind.u64.wrap (IntKind.u64.wrap ((q1 : Int) * 4294967296) + (q0 : Int)) = (q : Int) by rw [show (q1 : Int) * 4294967296 = ((q1 * 4294967296 : Nat) : Int) by omega, wrap_u64_nat _ (by omega), show ((q1 * 4294967296 : Nat) : Int) + (q0 : Int) = (q : Int) by omega]; exact wrap_u64_nat _ hq64)
  clear Z H1 H0 hq
  go_enter Tryz.func111, Tryz.ntmps111
  go_wp2_with fail
  with_reducible (refine (Z'.out _).mono ?_)
  rintro e w' ⟨rfl, rfl⟩
  -- THE LOOPS (tools/div64.py)
  obtain ⟨p1, hp1⟩ : ∃ p, u / a = p := ⟨_, rfl⟩
  obtain ⟨r1, hr1⟩ : ∃ r, u % a = r := ⟨_, rfl⟩
  obtain ⟨x11, x12, x13⟩ := word_div u a p1 r1 (by omega) (by omega) (by omega) hp1 hr1
  obtain ⟨m1, hm1⟩ : ∃ m, p1 * a = m := ⟨_, rfl⟩
  rw [hm1] at x12 x13
  have G1 := Lib.hid (HH1.out.start)
  rw [hp1, hr1] at G1
  clear hp1 hr1 hm1
  obtain ⟨p0, hp0⟩ : ∃ p, v / a = p := ⟨_, rfl⟩
  obtain ⟨r0, hr0⟩ : ∃ r, v % a = r := ⟨_, rfl⟩
  obtain ⟨x01, x02, x03⟩ := word_div v a p0 r0 (by omega) (by omega) (by omega) hp0 hr0
  obtain ⟨m0, hm0⟩ : ∃ m, p0 * a = m := ⟨_, rfl⟩
  rw [hm0] at x02 x03
  have G0 := Lib.hid (HH0.out.start)
  rw [hp0, hr0] at G0
  clear hp0 hr0 hm0
  go_wp2_with fail
  go_loop [15, 16] (fun x z => ∃ p rr : Nat, x = .int .u64 p ∧ z = .int .u64 rr ∧ Hid (Guess u l1 a b q1 p rr)) (fun x _ => (intOf x).toNat)
  case atStart => exact ⟨p1, r1, rfl, rfl, G1⟩
  case round =>
    obtain ⟨p, rr, rfl, rfl, g⟩ := hrel
    have pt := g.out.top
    have rt := g.out.rest
    by_cases c1 : 4294967296 ≤ p
    · have more := g.out.more HH1.out (Or.inl c1)
      have c1i : decide ((4294967296 : Int) ≤ (p : Int)) = true := decide_eq_true (by omega)
      have c1n : decide (4294967296 ≤ p) = true := decide_eq_true c1
      obtain ⟨p1, hp1⟩ : ∃ p1, p - 1 = p1 := ⟨_, rfl⟩
      have hp1i : (p : Int) - 1 = (p1 : Int) := by omega
      obtain ⟨r1, hr1⟩ : ∃ r1, rr + a = r1 := ⟨_, rfl⟩
      have hr1i : (rr : Int) + (a : Int) = (r1 : Int) := by omega
      by_cases c2 : 4294967296 ≤ r1
      · have e := g.out.leave HH1.out more (by omega)
        rw [hp1] at e
        obtain rfl := e
        have c2i : decide ((4294967296 : Int) ≤ (r1 : Int)) = true := decide_eq_true (by omega)
        have c2n : decide (4294967296 ≤ r1) = true := decide_eq_true c2
        clear more hp1 hr1
        go_wp2_with fail
        go_loop [18, 16] (fun x z => ∃ p rr : Nat, x = .int .u64 p ∧ z = .int .u64 rr ∧ Hid (Guess v l0 a b q0 p rr)) (fun x _ => (intOf x).toNat)
        case atStart => exact ⟨p0, r0, rfl, rfl, G0⟩
        case round =>
          obtain ⟨p, rr, rfl, rfl, g⟩ := hrel
          have pt := g.out.top
          have rt := g.out.rest
          by_cases c1 : 4294967296 ≤ p
          · have more := g.out.more HH0.out (Or.inl c1)
            have c1i : decide ((4294967296 : Int) ≤ (p : Int)) = true := decide_eq_true (by omega)
            have c1n : decide (4294967296 ≤ p) = true := decide_eq_true c1
            obtain ⟨p1, hp1⟩ : ∃ p1, p - 1 = p1 := ⟨_, rfl⟩
            have hp1i : (p : Int) - 1 = (p1 : Int) := by omega
            obtain ⟨r1, hr1⟩ : ∃ r1, rr + a = r1 := ⟨_, rfl⟩
            have hr1i : (rr : Int) + (a : Int) = (r1 : Int) := by omega
            by_cases c2 : 4294967296 ≤ r1
            · have e := g.out.leave HH0.out more (by omega)
              rw [hp1] at e
              obtain rfl := e
              have c2i : decide ((4294967296 : Int) ≤ (r1 : Int)) = true := decide_eq_true (by omega)
              have c2n : decide (4294967296 ≤ r1) = true := decide_eq_true c2
              clear more hp1 hr1
              go_wp2_with fail
              go_ret2
              exact ⟨ret_uu (by first | exact HQI.out | exact HQW.out | exact HQ2.out) rfl, 0, rfl⟩
            · have gn := Lib.hid (g.out.go HH0.out more (by omega))
              rw [hp1, hr1] at gn
              have c2i : decide ((4294967296 : Int) ≤ (r1 : Int)) = false := decide_eq_false (by omega)
              have c2n : decide (4294967296 ≤ r1) = false := decide_eq_false c2
              clear more hr1
              have HP1 := Lib.hid hp1
              clear hp1
              go_wp2_with fail
              go_round
              case rel => exact ⟨p1, r1, rfl, rfl, gn⟩
              case measure => have := HP1.out; simp [intOf]; omega
          · have c1i : decide ((4294967296 : Int) ≤ (p : Int)) = false := decide_eq_false (by omega)
            have c1n : decide (4294967296 ≤ p) = false := decide_eq_false c1
            obtain ⟨y1', y2', y3'⟩ := word_test p b rr l0 (by omega) b2 rt d0
            obtain ⟨pb, hpb⟩ : ∃ pb, p * b = pb := ⟨_, rfl⟩
            obtain ⟨br, hbr⟩ : ∃ br, 4294967296 * rr = br := ⟨_, rfl⟩
            obtain ⟨sm, hsm⟩ : ∃ sm, br + l0 = sm := ⟨_, rfl⟩
            rw [hpb] at y1'
            rw [hbr] at y2' y3'
            rw [hsm] at y3'
            by_cases c3 : sm < pb
            · have more := g.out.more HH0.out (Or.inr (by omega))
              have c3n : decide (sm < pb) = true := decide_eq_true c3
              have c3i : decide ((sm : Int) < (pb : Int)) = true := decide_eq_true (by omega)
              obtain ⟨p1, hp1⟩ : ∃ p1, p - 1 = p1 := ⟨_, rfl⟩
              have hp1i : (p : Int) - 1 = (p1 : Int) := by omega
              obtain ⟨r1, hr1⟩ : ∃ r1, rr + a = r1 := ⟨_, rfl⟩
              have hr1i : (rr : Int) + (a : Int) = (r1 : Int) := by omega
              by_cases c2 : 4294967296 ≤ r1
              · have e := g.out.leave HH0.out more (by omega)
                rw [hp1] at e
                obtain rfl := e
                have c2i : decide ((4294967296 : Int) ≤ (r1 : Int)) = true := decide_eq_true (by omega)
                have c2n : decide (4294967296 ≤ r1) = true := decide_eq_true c2
                clear more hp1 hr1 hpb hbr hsm
                go_wp2_with fail
                go_ret2
                exact ⟨ret_uu (by first | exact HQI.out | exact HQW.out | exact HQ2.out) rfl, 0, rfl⟩
              · have gn := Lib.hid (g.out.go HH0.out more (by omega))
                rw [hp1, hr1] at gn
                have c2i : decide ((4294967296 : Int) ≤ (r1 : Int)) = false := decide_eq_false (by omega)
                have c2n : decide (4294967296 ≤ r1) = false := decide_eq_false c2
                clear more hr1 hpb hbr hsm
                have HP1 := Lib.hid hp1
                clear hp1
                go_wp2_with fail
                go_round
                case rel => exact ⟨p1, r1, rfl, rfl, gn⟩
                case measure => have := HP1.out; simp [intOf]; omega
            · have c3n : decide (sm < pb) = false := decide_eq_false c3
              have c3i : decide ((sm : Int) < (pb : Int)) = false := decide_eq_false (by omega)
              have e := g.out.stop HH0.out (by omega) (by omega)
              obtain rfl := e
              clear hpb hbr hsm
              go_wp2_with fail
              go_ret2
              exact ⟨ret_uu (by first | exact HQI.out | exact HQW.out | exact HQ2.out) rfl, 0, rfl⟩
      · have gn := Lib.hid (g.out.go HH1.out more (by omega))
        rw [hp1, hr1] at gn
        have c2i : decide ((4294967296 : Int) ≤ (r1 : Int)) = false := decide_eq_false (by omega)
        have c2n : decide (4294967296 ≤ r1) = false := decide_eq_false c2
        clear more hr1
        have HP1 := Lib.hid hp1
        clear hp1
        go_wp2_with fail
        go_round
        case rel => exact ⟨p1, r1, rfl, rfl, gn⟩
        case measure => have := HP1.out; simp [intOf]; omega
    · have c1i : decide ((4294967296 : Int) ≤ (p : Int)) = false := decide_eq_false (by omega)
      have c1n : decide (4294967296 ≤ p) = false := decide_eq_false c1
      obtain ⟨y1', y2', y3'⟩ := word_test p b rr l1 (by omega) b2 rt d1
      obtain ⟨pb, hpb⟩ : ∃ pb, p * b = pb := ⟨_, rfl⟩
      obtain ⟨br, hbr⟩ : ∃ br, 4294967296 * rr = br := ⟨_, rfl⟩
      obtain ⟨sm, hsm⟩ : ∃ sm, br + l1 = sm := ⟨_, rfl⟩
      rw [hpb] at y1'
      rw [hbr] at y2' y3'
      rw [hsm] at y3'
      by_cases c3 : sm < pb
      · have more := g.out.more HH1.out (Or.inr (by omega))
        have c3n : decide (sm < pb) = true := decide_eq_true c3
        have c3i : decide ((sm : Int) < (pb : Int)) = true := decide_eq_true (by omega)
        obtain ⟨p1, hp1⟩ : ∃ p1, p - 1 = p1 := ⟨_, rfl⟩
        have hp1i : (p : Int) - 1 = (p1 : Int) := by omega
        obtain ⟨r1, hr1⟩ : ∃ r1, rr + a = r1 := ⟨_, rfl⟩
        have hr1i : (rr : Int) + (a : Int) = (r1 : Int) := by omega
        by_cases c2 : 4294967296 ≤ r1
        · have e := g.out.leave HH1.out more (by omega)
          rw [hp1] at e
          obtain rfl := e
          have c2i : decide ((4294967296 : Int) ≤ (r1 : Int)) = true := decide_eq_true (by omega)
          have c2n : decide (4294967296 ≤ r1) = true := decide_eq_true c2
          clear more hp1 hr1 hpb hbr hsm
          go_wp2_with fail
          go_loop [18, 16] (fun x z => ∃ p rr : Nat, x = .int .u64 p ∧ z = .int .u64 rr ∧ Hid (Guess v l0 a b q0 p rr)) (fun x _ => (intOf x).toNat)
          case atStart => exact ⟨p0, r0, rfl, rfl, G0⟩
          case round =>
            obtain ⟨p, rr, rfl, rfl, g⟩ := hrel
            have pt := g.out.top
            have rt := g.out.rest
            by_cases c1 : 4294967296 ≤ p
            · have more := g.out.more HH0.out (Or.inl c1)
              have c1i : decide ((4294967296 : Int) ≤ (p : Int)) = true := decide_eq_true (by omega)
              have c1n : decide (4294967296 ≤ p) = true := decide_eq_true c1
              obtain ⟨p1, hp1⟩ : ∃ p1, p - 1 = p1 := ⟨_, rfl⟩
              have hp1i : (p : Int) - 1 = (p1 : Int) := by omega
              obtain ⟨r1, hr1⟩ : ∃ r1, rr + a = r1 := ⟨_, rfl⟩
              have hr1i : (rr : Int) + (a : Int) = (r1 : Int) := by omega
              by_cases c2 : 4294967296 ≤ r1
              · have e := g.out.leave HH0.out more (by omega)
                rw [hp1] at e
                obtain rfl := e
                have c2i : decide ((4294967296 : Int) ≤ (r1 : Int)) = true := decide_eq_true (by omega)
                have c2n : decide (4294967296 ≤ r1) = true := decide_eq_true c2
                clear more hp1 hr1
                go_wp2_with fail
                go_ret2
                exact ⟨ret_uu (by first | exact HQI.out | exact HQW.out | exact HQ2.out) rfl, 0, rfl⟩
              · have gn := Lib.hid (g.out.go HH0.out more (by omega))
                rw [hp1, hr1] at gn
                have c2i : decide ((4294967296 : Int) ≤ (r1 : Int)) = false := decide_eq_false (by omega)
                have c2n : decide (4294967296 ≤ r1) = false := decide_eq_false c2
                clear more hr1
                have HP1 := Lib.hid hp1
                clear hp1
                go_wp2_with fail
                go_round
                case rel => exact ⟨p1, r1, rfl, rfl, gn⟩
                case measure => have := HP1.out; simp [intOf]; omega
            · have c1i : decide ((4294967296 : Int) ≤ (p : Int)) = false := decide_eq_false (by omega)
              have c1n : decide (4294967296 ≤ p) = false := decide_eq_false c1
              obtain ⟨y1', y2', y3'⟩ := word_test p b rr l0 (by omega) b2 rt d0
              obtain ⟨pb, hpb⟩ : ∃ pb, p * b = pb := ⟨_, rfl⟩
              obtain ⟨br, hbr⟩ : ∃ br, 4294967296 * rr = br := ⟨_, rfl⟩
              obtain ⟨sm, hsm⟩ : ∃ sm, br + l0 = sm := ⟨_, rfl⟩
              rw [hpb] at y1'
              rw [hbr] at y2' y3'
              rw [hsm] at y3'
              by_cases c3 : sm < pb
              · have more := g.out.more HH0.out (Or.inr (by omega))
                have c3n : decide (sm < pb) = true := decide_eq_true c3
                have c3i : decide ((sm : Int) < (pb : Int)) = true := decide_eq_true (by omega)
                obtain ⟨p1, hp1⟩ : ∃ p1, p - 1 = p1 := ⟨_, rfl⟩
                have hp1i : (p : Int) - 1 = (p1 : Int) := by omega
                obtain ⟨r1, hr1⟩ : ∃ r1, rr + a = r1 := ⟨_, rfl⟩
                have hr1i : (rr : Int) + (a : Int) = (r1 : Int) := by omega
                by_cases c2 : 4294967296 ≤ r1
                · have e := g.out.leave HH0.out more (by omega)
                  rw [hp1] at e
                  obtain rfl := e
                  have c2i : decide ((4294967296 : Int) ≤ (r1 : Int)) = true := decide_eq_true (by omega)
                  have c2n : decide (4294967296 ≤ r1) = true := decide_eq_true c2
                  clear more hp1 hr1 hpb hbr hsm
                  go_wp2_with fail
                  go_ret2
                  exact ⟨ret_uu (by first | exact HQI.out | exact HQW.out | exact HQ2.out) rfl, 0, rfl⟩
                · have gn := Lib.hid (g.out.go HH0.out more (by omega))
                  rw [hp1, hr1] at gn
                  have c2i : decide ((4294967296 : Int) ≤ (r1 : Int)) = false := decide_eq_false (by omega)
                  have c2n : decide (4294967296 ≤ r1) = false := decide_eq_false c2
                  clear more hr1 hpb hbr hsm
                  have HP1 := Lib.hid hp1
                  clear hp1
                  go_wp2_with fail
                  go_round
                  case rel => exact ⟨p1, r1, rfl, rfl, gn⟩
                  case measure => have := HP1.out; simp [intOf]; omega
              · have c3n : decide (sm < pb) = false := decide_eq_false c3
                have c3i : decide ((sm : Int) < (pb : Int)) = false := decide_eq_false (by omega)
                have e := g.out.stop HH0.out (by omega) (by omega)
                obtain rfl := e
                clear hpb hbr hsm
                go_wp2_with fail
                go_ret2
                exact ⟨ret_uu (by first | exact HQI.out | exact HQW.out | exact HQ2.out) rfl, 0, rfl⟩
        · have gn := Lib.hid (g.out.go HH1.out more (by omega))
          rw [hp1, hr1] at gn
          have c2i : decide ((4294967296 : Int) ≤ (r1 : Int)) = false := decide_eq_false (by omega)
          have c2n : decide (4294967296 ≤ r1) = false := decide_eq_false c2
          clear more hr1 hpb hbr hsm
          have HP1 := Lib.hid hp1
          clear hp1
          go_wp2_with fail
          go_round
          case rel => exact ⟨p1, r1, rfl, rfl, gn⟩
          case measure => have := HP1.out; simp [intOf]; omega
      · have c3n : decide (sm < pb) = false := decide_eq_false c3
        have c3i : decide ((sm : Int) < (pb : Int)) = false := decide_eq_false (by omega)
        have e := g.out.stop HH1.out (by omega) (by omega)
        obtain rfl := e
        clear hpb hbr hsm
        go_wp2_with fail
        go_loop [18, 16] (fun x z => ∃ p rr : Nat, x = .int .u64 p ∧ z = .int .u64 rr ∧ Hid (Guess v l0 a b q0 p rr)) (fun x _ => (intOf x).toNat)
        case atStart => exact ⟨p0, r0, rfl, rfl, G0⟩
        case round =>
          obtain ⟨p, rr, rfl, rfl, g⟩ := hrel
          have pt := g.out.top
          have rt := g.out.rest
          by_cases c1 : 4294967296 ≤ p
          · have more := g.out.more HH0.out (Or.inl c1)
            have c1i : decide ((4294967296 : Int) ≤ (p : Int)) = true := decide_eq_true (by omega)
            have c1n : decide (4294967296 ≤ p) = true := decide_eq_true c1
            obtain ⟨p1, hp1⟩ : ∃ p1, p - 1 = p1 := ⟨_, rfl⟩
            have hp1i : (p : Int) - 1 = (p1 : Int) := by omega
            obtain ⟨r1, hr1⟩ : ∃ r1, rr + a = r1 := ⟨_, rfl⟩
            have hr1i : (rr : Int) + (a : Int) = (r1 : Int) := by omega
            by_cases c2 : 4294967296 ≤ r1
            · have e := g.out.leave HH0.out more (by omega)
              rw [hp1] at e
              obtain rfl := e
              have c2i : decide ((4294967296 : Int) ≤ (r1 : Int)) = true := decide_eq_true (by omega)
              have c2n : decide (4294967296 ≤ r1) = true := decide_eq_true c2
              clear more hp1 hr1
              go_wp2_with fail
              go_ret2
              exact ⟨ret_uu (by first | exact HQI.out | exact HQW.out | exact HQ2.out) rfl, 0, rfl⟩
            · have gn := Lib.hid (g.out.go HH0.out more (by omega))
              rw [hp1, hr1] at gn
              have c2i : decide ((4294967296 : Int) ≤ (r1 : Int)) = false := decide_eq_false (by omega)
              have c2n : decide (4294967296 ≤ r1) = false := decide_eq_false c2
              clear more hr1
              have HP1 := Lib.hid hp1
              clear hp1
              go_wp2_with fail
              go_round
              case rel => exact ⟨p1, r1, rfl, rfl, gn⟩
              case measure => have := HP1.out; simp [intOf]; omega
          · have c1i : decide ((4294967296 : Int) ≤ (p : Int)) = false := decide_eq_false (by omega)
            have c1n : decide (4294967296 ≤ p) = false := decide_eq_false c1
            obtain ⟨y1', y2', y3'⟩ := word_test p b rr l0 (by omega) b2 rt d0
            obtain ⟨pb, hpb⟩ : ∃ pb, p * b = pb := ⟨_, rfl⟩
            obtain ⟨br, hbr⟩ : ∃ br, 4294967296 * rr = br := ⟨_, rfl⟩
            obtain ⟨sm, hsm⟩ : ∃ sm, br + l0 = sm := ⟨_, rfl⟩
            rw [hpb] at y1'
            rw [hbr] at y2' y3'
            rw [hsm] at y3'
            by_cases c3 : sm < pb
            · have more := g.out.more HH0.out (Or.inr (by omega))
              have c3n : decide (sm < pb) = true := decide_eq_true c3
              have c3i : decide ((sm : Int) < (pb : Int)) = true := decide_eq_true (by omega)
              obtain ⟨p1, hp1⟩ : ∃ p1, p - 1 = p1 := ⟨_, rfl⟩
              have hp1i : (p : Int) - 1 = (p1 : Int) := by omega
              obtain ⟨r1, hr1⟩ : ∃ r1, rr + a = r1 := ⟨_, rfl⟩
              have hr1i : (rr : Int) + (a : Int) = (r1 : Int) := by omega
              by_cases c2 : 4294967296 ≤ r1
              · have e := g.out.leave HH0.out more (by omega)
                rw [hp1] at e
                obtain rfl := e
                have c2i : decide ((4294967296 : Int) ≤ (r1 : Int)) = true := decide_eq_true (by omega)
                have c2n : decide (4294967296 ≤ r1) = true := decide_eq_true c2
                clear more hp1 hr1 hpb hbr hsm
                go_wp2_with fail
                go_ret2
                exact ⟨ret_uu (by first | exact HQI.out | exact HQW.out | exact HQ2.out) rfl, 0, rfl⟩
              · have gn := Lib.hid (g.out.go HH0.out more (by omega))
                rw [hp1, hr1] at gn
                have c2i : decide ((4294967296 : Int) ≤ (r1 : Int)) = false := decide_eq_false (by omega)
                have c2n : decide (4294967296 ≤ r1) = false := decide_eq_false c2
                clear more hr1 hpb hbr hsm
                have HP1 := Lib.hid hp1
                clear hp1
                go_wp2_with fail
                go_round
                case rel => exact ⟨p1, r1, rfl, rfl, gn⟩
                case measure => have := HP1.out; simp [intOf]; omega
            · have c3n : decide (sm < pb) = false := decide_eq_false c3
              have c3i : decide ((sm : Int) < (pb : Int)) = false := decide_eq_false (by omega)
              have e := g.out.stop HH0.out (by omega) (by omega)
              obtain rfl := e
              clear hpb hbr hsm
              go_wp2_with fail
              go_ret2
              exact ⟨ret_uu (by first | exact HQI.out | exact HQW.out | exact HQ2.out) rfl, 0, rfl⟩
end Go.Proofs.YtlmeobokpibifaaGreatDoor
end

section
set_option linter.unusedSimpArgs false
set_option linter.unusedVariables false
set_option linter.unusedVariables false
namespace Go.Proofs.YtlmeobokpibifaaGreatDoor
open Go.RowKit

theorem wrap_left (u l P v : Nat) (h : u * 4294967296 + l = P + v) (hv : v < 18446744073709551616) : IntKind.u64.wrap (IntKind.u64.wrap (IntKind.u64.wrap ((u : Int) * 4294967296) + (l : Int)) - IntKind.u64.wrap (P : Int)) = (v : Int) := by
  rw [IntKind.wrap_u64, IntKind.wrap_u64, IntKind.wrap_u64, IntKind.wrap_u64]
  omega
theorem mask32 (x : Nat) (h : x < 18446744073709551616) : bits .and .u64 (x : Int) 4294967295 = ((x % 4294967296 : Nat) : Int) := by
  have := bits_and_u64_nat x 4294967295 h (by decide)
  rw [show ((4294967295 : Nat) : Int) = 4294967295 by rfl] at this
  rw [this, show (4294967295 : Nat) = 2 ^ 32 - 1 by decide, Nat.and_two_pow_sub_one_eq_mod]
theorem shl_bitLen (y : Nat) (h0 : 0 < y) (h : y < 18446744073709551616) : ∃ s, s + Lib.bitLen y = 64 ∧ s < 64 ∧ 9223372036854775808 ≤ y * 2 ^ s ∧ y * 2 ^ s < 18446744073709551616 := by
  have hl := bitLen_log y (by omega) h
  have h1 := Nat.log2_self_le (n := y) (by omega)
  have h2 := Nat.lt_log2_self (n := y)
  have h3 : y.log2 < 64 := (Nat.log2_lt (by omega)).2 h
  refine ⟨63 - y.log2, by omega, by omega, ?_, ?_⟩
  · have := Nat.mul_le_mul_right (2 ^ (63 - y.log2)) h1
    rw [← Nat.pow_add, show y.log2 + (63 - y.log2) = 63 by omega] at this
    exact this
  · have := Nat.mul_lt_mul_of_pos_right h2 (Nat.two_pow_pos (63 - y.log2))
    rw [← Nat.pow_add, show y.log2 + 1 + (63 - y.log2) = 64 by omega] at this
    exact this

theorem div64_any (hi lo y q r : Nat) (w : World) (hhi : hi < y) (hlo : lo < 18446744073709551616) (hy : y < 18446744073709551616) (hq : (hi * 18446744073709551616 + lo) / y = q) (hr : (hi * 18446744073709551616 + lo) % y = r) :
    Calls Tryz.prog 111 #[.int .u64 hi, .int .u64 lo, .int .u64 y] w fun e w' => e = .returned (.tuple #[.int .u64 q, .int .u64 r]) ∧ ∃ k, w' = w.drewN k := by
  rcases Nat.eq_zero_or_pos hi with h0 | h0
  · subst h0
    rw [Nat.zero_mul, Nat.zero_add] at hq hr
    exact div64_low lo y q r w hlo hy (by omega) hq hr
  obtain ⟨s, hs1, hs2, hy1, hy2⟩ := shl_bitLen y (by omega) hy
  obtain ⟨y1, e1⟩ : ∃ y1, y * 2 ^ s = y1 := ⟨_, rfl⟩
  rw [e1] at hy1 hy2
  obtain ⟨e, he⟩ : ∃ e, 64 - s = e := ⟨_, rfl⟩
  obtain ⟨a, ha⟩ : ∃ a, y1 / 4294967296 = a := ⟨_, rfl⟩
  obtain ⟨b, hb⟩ : ∃ b, y1 % 4294967296 = b := ⟨_, rfl⟩
  obtain ⟨u, hu⟩ : ∃ u, hi * 2 ^ s + lo / 2 ^ e = u := ⟨_, rfl⟩
  obtain ⟨l, hl⟩ : ∃ l, lo * 2 ^ s % 18446744073709551616 = l := ⟨_, rfl⟩
  obtain ⟨l1, hl1⟩ : ∃ l1, l / 4294967296 = l1 := ⟨_, rfl⟩
  obtain ⟨l0, hl0⟩ : ∃ l0, l % 4294967296 = l0 := ⟨_, rfl⟩
  obtain ⟨q1, hq1⟩ : ∃ q1, (u * 4294967296 + l1) / y1 = q1 := ⟨_, rfl⟩
  obtain ⟨v, hv⟩ : ∃ v, (u * 4294967296 + l1) % y1 = v := ⟨_, rfl⟩
  obtain ⟨q0, hq0⟩ : ∃ q0, (v * 4294967296 + l0) / y1 = q0 := ⟨_, rfl⟩
  obtain ⟨H1, H0, d1, d2, d3, d4⟩ := div_parts hhi hlo hs2 he e1 hy1 hy2 ha hb hu hl hl1 hl0 hq1 hv hq0
  have hl64 : l < 18446744073709551616 := by rw [← hl]; exact Nat.mod_lt _ (by decide)
  have hW : (18446744073709551616 : Nat) = 2 ^ e * 2 ^ s := by rw [← Nat.pow_add, ← he, show 64 - s + s = 64 by omega]
  have hlt : lo / 2 ^ e < 2 ^ s := by rw [Nat.div_lt_iff_lt_mul (Nat.two_pow_pos _), Nat.mul_comm, ← hW]; exact hlo
  have hhs : hi * 2 ^ s < 18446744073709551616 := by
    have : hi * 2 ^ s ≤ y * 2 ^ s := Nat.mul_le_mul_right _ (by omega)
    omega
  have f1 := Nat.div_add_mod (u * 4294967296 + l1) y1
  rw [hq1, hv, Nat.mul_comm] at f1
  have f2 := Nat.div_add_mod (v * 4294967296 + l0) y1
  rw [hq0, Nat.mul_comm] at f2
  have hq1lt := H1.q_lt
  have hq0lt := H0.q_lt
  have f3 := Nat.mod_lt (v * 4294967296 + l0) (show 0 < y1 by omega)
  refine div64_walk hi lo y s e y1 a b u l l1 l0 q1 v q0 q r w hhi h0 hlo hy (fun w => lz_any y hy s hs1 w) hs2 (by omega) (by omega) ?_ hy2 ?_ ?_ ?_ ?_ hl64 ?_ ?_ H1 H0 d3 d4 ?_ ?_ ?_ ?_
  · rw [cast_shl, e1]; exact wrap_u64_nat _ hy2
  · rw [← ha]; rfl
  · rw [mask32 _ hy2, hb]
  · rw [wrap_shl _ _ hhs, cast_shr, bits_or_u64_nat _ _ hhs (Nat.lt_of_le_of_lt (Nat.div_le_self _ _) hlo), or_shl _ _ _ hlt, hu]
  · rw [cast_shl, wrap_u64_mod, hl]
  · rw [← hl1]; rfl
  · rw [mask32 _ hl64, hl0]
  · rw [← Int.natCast_mul]
    exact wrap_left u l1 (q1 * y1) v f1.symm (by omega)
  · rw [← hq, d1]
  · omega
  · rw [← Int.natCast_mul, wrap_left v l0 (q0 * y1) _ f2.symm (by omega), cast_shr, ← hr, d2]

/-- the number of the words from the j-th on -/
def tl (F : Nat → Nat) (n j : Nat) : Nat := S (fun i => F (j + i)) (n - j)
theorem tl_end (F : Nat → Nat) (n : Nat) : tl F n n = 0 := by unfold tl; rw [Nat.sub_self, S_zero]
theorem tl_zero (F : Nat → Nat) (n : Nat) : tl F n 0 = S F n := by unfold tl; rw [Nat.sub_zero]; exact S_congr fun i _ => by rw [Nat.zero_add]
theorem tl_step (F : Nat → Nat) {n j : Nat} (h : j < n) : tl F n j = F j + Wd * tl F n (j + 1) := by
  unfold tl
  rw [show n - j = n - (j + 1) + 1 by omega, S_shift, Nat.add_zero]
  congr 2
  exact S_congr fun i _ => by congr 1; omega
theorem tl_congr {F G : Nat → Nat} {n j : Nat} (h : ∀ i, j ≤ i → F i = G i) : tl F n j = tl G n j := S_congr fun i _ => h _ (by omega)
theorem short_step {F O : Nat → Nat} {n t b left q r : Nat} (ht : t < n) (h : tl F n (t + 1) = tl O n (t + 1) * b + left) (hq : (left * 18446744073709551616 + F t) / b = q) (hr : (left * 18446744073709551616 + F t) % b = r) :
    tl F n t = tl (upd O t q) n t * b + r := by
  rw [tl_step F ht, tl_step (upd O t q) ht, upd_at, tl_congr (F := upd O t q) (G := O) (fun i hi => upd_ne O q (by omega)), h]
  have d := Nat.div_add_mod (left * 18446744073709551616 + F t) b
  rw [hq, hr, Nat.mul_comm] at d
  rw [Nat.add_mul, Nat.mul_add, Nat.mul_assoc Wd, Nat.add_assoc (q * b), Nat.add_comm (Wd * _) r, ← Nat.add_assoc (q * b), d, Nat.mul_comm Wd left, Wd_eq]
  omega

theorem short_any (A : Option Addr) (n c : Nat) (F : Nat → Nat) (b : Nat) (w : World) (hA : Rd w A n c F) (hn : n ≤ 1048576) (hb0 : 0 < b) (hb : b < 18446744073709551616) :
    Calls Tryz.prog 78 #[.slice A n c, .int .u64 b] w fun e w' => (∃ r, ∃ v : Nat, e = .returned (.tuple #[r, .int .u64 v]) ∧ v < b ∧ IsN w' r (S F n / b) ∧ v = S F n % b) ∧ Below w.heap.size w w' := by
  have hmk := run_make_row' (P := Tryz.prog) 39 22 (.int .u64 0) 8 Tryz.underlying39 infoU rfl .i64 .i64 n (by omega) (by omega)
  have hA' := Lib.hid hA
  clear hA
  go_enter Tryz.func78, Tryz.ntmps78
  go_wp2_with fail
  go_loopw [7, 8] (fun l i wr => ∃ (j left : Nat) (y : Int) (O : Nat → Nat), j ≤ n ∧ l = .int .u64 left ∧ left < b ∧ i = .int .i64 y ∧ y + 1 = (j : Int) ∧ Hid (Row wr w.heap.size n O) ∧ Hid (∀ i, i < n → O i < Wd) ∧ Hid (tl F n j = tl O n j * b + left) ∧ Hid (Below w.heap.size w wr)) (fun _ i _ => (1 + intOf i).toNat)
  case atStart =>
    exact ⟨n, 0, _, fun _ => 0, Nat.le_refl _, rfl, hb0, rfl, by omega, Lib.hid (Row.made w n), Lib.hid (fun i hi => Wd_pos), Lib.hid (by rw [tl_end, tl_end, Nat.zero_mul]), Lib.hid ((Below.refl _ _).alloc (Nat.le_refl _) _)⟩
  case round =>
    obtain ⟨j, left, y, O, hj, rfl, hlb, rfl, hy, hrow, hO, hS, hB⟩ := hrel
    rcases j with _ | t
    · obtain rfl : y = -1 := by omega
      have HRR := Lib.hid (hrow.out.rd (by omega) hO.out)
      go_wp2_with fail
      with_reducible (refine (trim_any _ n n O _ HRR.out).mono ?_)
      rintro e w' ⟨⟨x, hx, rfl⟩, rfl⟩
      have HX := Lib.hid hx
      clear hx
      go_wp2_with fail
      go_ret2
      have hs := hS.out
      rw [tl_zero, tl_zero] at hs
      refine ⟨⟨_, left, rfl, hlb, ⟨_, _, _, _, rfl, HRR.out.cut HX.out.le, HX.out.nm, ?_⟩, ?_⟩, hB.out⟩
      · rw [HX.out.sum, hs, Nat.mul_comm, Nat.mul_add_div hb0, Nat.div_eq_of_lt hlb, Nat.add_zero]
      · rw [hs, Nat.mul_comm, Nat.mul_add_mod, Nat.mod_eq_of_lt hlb]
    · obtain rfl : y = (t : Int) := by omega
      have rA := (hA'.out.below hB.out)
      obtain ⟨ad, rfl, hb1, hx⟩ := rA.at_ t (by omega)
      have hx64 := rA.word' t (by omega)
      obtain ⟨q, hq⟩ : ∃ q, (left * 18446744073709551616 + F t) / b = q := ⟨_, rfl⟩
      obtain ⟨r, hr⟩ : ∃ r, (left * 18446744073709551616 + F t) % b = r := ⟨_, rfl⟩
      have hst := Lib.hid (short_step (F := F) (O := O) (n := n) (by omega) hS.out hq hr)
      have hq64 : q < 18446744073709551616 := by
        rw [← hq, Nat.div_lt_iff_lt_mul hb0]
        have : (left + 1) * 18446744073709551616 ≤ b * 18446744073709551616 := Nat.mul_le_mul_right _ hlb
        omega
      have hrb : r < b := by rw [← hr]; exact Nat.mod_lt _ hb0
      have D := Lib.hid (fun w => div64_any left (F t) b q r w hlb hx64 hb hq hr)
      have u1 : decide ((0 : Int) ≤ (t : Int)) = true := decide_eq_true (by omega)
      have htn : t < n := by omega
      clear rA hq hr
      go_wp2_with fail
      with_reducible (refine (D.out _).mono ?_)
      rintro e w' ⟨rfl, k, rfl⟩
      have hrow2 : Row (wr.drewN k) w.heap.size n O := hrow.out
      have hc1 := hrow2.at_ t (by omega)
      have hf1 := hrow2.free t
      clear hrow2
      go_wp2_with fail
      go_roundw
      case rel =>
        refine ⟨t, r, _, upd O t q, by omega, rfl, hrb, rfl, by omega, Lib.hid ?_, Lib.hid (fun i hi => ?_), hst, Lib.hid ?_⟩
        · exact Row.set (Row.drewN hrow.out k) t q
        · by_cases h1 : i = t
          · rw [h1, upd_at]; exact hq64
          · rw [upd_ne _ _ h1]; exact hO.out i hi
        · exact (bdrewN hB.out k).setCell (by simp) _
      case measure => simp [intOf]; omega
end Go.Proofs.YtlmeobokpibifaaGreatDoor
end

section
set_option linter.unusedSimpArgs false
set_option linter.unusedVariables false
set_option linter.unusedVariables false
namespace Go.Proofs.YtlmeobokpibifaaGreatDoor

theorem sub_word {u l b s k : Nat} (hu : u < 18446744073709551616) (hl : l < 18446744073709551616) (hb : b ≤ 1) (hs : (u + 18446744073709551616 - l - b) % 18446744073709551616 = s) (hk : (if u < l + b then 1 else 0) = k) : s + l + b = u + 18446744073709551616 * k ∧ k ≤ 1 ∧ s < 18446744073709551616 := by
  by_cases h : u < l + b
  · rw [if_pos h] at hk; omega
  · rw [if_neg h] at hk; omega
theorem mulsub_step {P U V : Nat → Nat} {g j carry borrow hi lo lo1 c1 s k : Nat} (h : S P j + g * S V j = S U j + (borrow + carry) * Wd ^ j) (hm : g * V j = 18446744073709551616 * hi + lo) (hl : lo + carry = 18446744073709551616 * c1 + lo1) (hs : s + lo1 + borrow = U j + 18446744073709551616 * k) (hP : P j = s) :
    S P (j + 1) + g * S V (j + 1) = S U (j + 1) + (k + (hi + c1)) * Wd ^ (j + 1) := by
  rw [S_succ, S_succ, S_succ, hP, Wp_succ, Nat.mul_add, ← Nat.mul_assoc]
  have e : (s + g * V j + borrow + carry) * Wd ^ j = (U j + 18446744073709551616 * (k + (hi + c1))) * Wd ^ j := by
    congr 1
    omega
  have e2 : (k + (hi + c1)) * (Wd ^ j * Wd) = 18446744073709551616 * (k + (hi + c1)) * Wd ^ j := by
    rw [Nat.mul_comm (Wd ^ j), ← Nat.mul_assoc, Nat.mul_comm (k + (hi + c1))]; rfl
  rw [e2]
  simp only [Nat.add_mul] at e h ⊢
  omega

/-- the first guess is not below -/
theorem guess_low {U V : Nat → Nat} {m : Nat} (hU : ∀ i, i < m + 2 → U i < Wd) (hV0 : 0 < V m) (hlt : U (m + 1) < V m) :
    S U (m + 2) / S V (m + 1) ≤ (U (m + 1) * 18446744073709551616 + U m) / V m := by
  have hp := Wp_pos m
  have hVp : 0 < S V (m + 1) := by
    rw [S_succ]
    have : 1 * Wd ^ m ≤ V m * Wd ^ m := Nat.mul_le_mul_right _ hV0
    omega
  rw [Nat.le_div_iff_mul_le hV0]
  have h1 : S U (m + 2) / S V (m + 1) * S V (m + 1) ≤ S U (m + 2) := Nat.div_mul_le_self _ _
  have h2 : S U (m + 2) < (U (m + 1) * 18446744073709551616 + U m + 1) * Wd ^ m := by
    rw [S_succ, S_succ, Wp_succ]
    have := S_lt (F := U) (n := m) (fun i hi => hU i (by omega))
    have e : U (m + 1) * (Wd ^ m * Wd) = U (m + 1) * 18446744073709551616 * Wd ^ m := by
      rw [Nat.mul_comm (Wd ^ m), ← Nat.mul_assoc]; rfl
    rw [e]
    simp only [Nat.add_mul, Nat.one_mul]
    omega
  have h3 : S U (m + 2) / S V (m + 1) * V m * Wd ^ m ≤ S U (m + 2) / S V (m + 1) * S V (m + 1) := by
    rw [Nat.mul_assoc]
    apply Nat.mul_le_mul_left
    rw [S_succ]
    omega
  have h4 : S U (m + 2) / S V (m + 1) * V m * Wd ^ m < (U (m + 1) * 18446744073709551616 + U m + 1) * Wd ^ m := by omega
  have := Nat.lt_of_mul_lt_mul_right h4
  omega
theorem quo_word {X Y : Nat} (h : X < Y * 18446744073709551616) : X / Y < 18446744073709551616 := by
  rcases Nat.eq_zero_or_pos Y with h0 | h0
  · subst h0; omega
  · rw [Nat.div_lt_iff_lt_mul h0, Nat.mul_comm]; exact h
/-- nothing borrowed: the guess is right -/
theorem digit_end {R g X Y : Nat} (hY : 0 < Y) (h : R + g * Y = X) (hg : X / Y ≤ g) : g = X / Y ∧ R = X % Y := by
  have h1 : g ≤ X / Y := by rw [Nat.le_div_iff_mul_le hY]; omega
  have e : g = X / Y := by omega
  refine ⟨e, ?_⟩
  have := Nat.div_add_mod X Y
  rw [← e, Nat.mul_comm] at this
  omega
/-- something borrowed: the guess is above -/
theorem digit_back {R g X Y T : Nat} (hY : 0 < Y) (h : R + g * Y = X + T) (hR : R < T) : X / Y < g := by
  rw [Nat.div_lt_iff_lt_mul hY]; omega
end Go.Proofs.YtlmeobokpibifaaGreatDoor
end

/- package math-bits' Div64 walked. Conditions: the divisor is above the high word. -/
import Derived.Test.YteiajccjlbghoaaDivm
import Derived.Test.YteiajccjlbghoaaMem
import Derived.Test.YteiajccjlbghoaaShelf
set_option linter.unusedVariables false
namespace Go.Proofs.Yteiajccjlbghoaa
open Go.RowKit

theorem div64_low (lo y q r : Nat) (w : World) (hlo : lo < 18446744073709551616) (hy : y < 18446744073709551616) (h0 : 0 < y) (hq : lo / y = q) (hr : lo % y = r) :
    Calls Try.prog 72 #[.int .u64 0, .int .u64 lo, .int .u64 y] w fun e w' => e = .returned (.tuple #[.int .u64 q, .int .u64 r]) ∧ ∃ k, w' = w.drewN k := by
  have t1 : ((y : Int) == 0) = false := by simp; omega
  have t2 : decide ((y : Int) ≤ 0) = false := decide_eq_false (by omega)
  have hy0 : (y : Int) ≠ 0 := by omega
  have e1 : (lo : Int) / (y : Int) = (q : Int) := by rw [← hq]; rfl
  have e2 : (lo : Int) % (y : Int) = (r : Int) := by rw [← hr]; rfl
  have e3 : (lo : Int).tdiv (y : Int) = (q : Int) := by rw [← hq]; rfl
  have e4 : (lo : Int).tmod (y : Int) = (r : Int) := by rw [← hr]; rfl
  have hq2 : q < 18446744073709551616 := by rw [← hq]; exact Nat.lt_of_le_of_lt (Nat.div_le_self _ _) hlo
  have hr2 : r < 18446744073709551616 := by rw [← hr]; exact Nat.lt_of_le_of_lt (Nat.mod_le _ _) hlo
  have e5 : IntKind.u64.wrap (q : Int) = (q : Int) := wrap_u64_nat _ hq2
  have e6 : IntKind.u64.wrap (r : Int) = (r : Int) := wrap_u64_nat _ hr2
  clear hq hr
  go_enter Try.func72, Try.ntmps72
  go_wp2_with fail
  go_quiet (fail)
  go_wp2_with fail
  go_ret2
  exact ⟨rfl, _, rfl⟩

theorem lz_any (x : Nat) (h : x < 18446744073709551616) (r : Nat) (hr : r + Lib.bitLen x = 64) (w : World) :
    Calls Try.prog 61 #[.int .u64 x] w fun e w' => e = .returned (.int .i64 r) ∧ w = w' := by
  refine (Try.bits_LeadingZeros64 (x : Int) w (by omega) (by omega)).mono ?_
  rintro e w' ⟨rfl, rfl⟩
  refine ⟨?_, rfl⟩
  congr 2
  rw [Int.toNat_natCast]
  omega

theorem ret_uu {a b c d : Int} (h : a = c) (k : b = d) : Ending.returned (.tuple #[.int .u64 a, .int .u64 b]) = .returned (.tuple #[.int .u64 c, .int .u64 d]) := by rw [h, k]
theorem word_div (u a p r : Nat) (hu : u < 18446744073709551616) (ha : 0 < a) (ha2 : a < 4294967296) (hp : u / a = p) (hr : u % a = r) :
    IntKind.u64.wrap ((u : Int) / (a : Int)) = (p : Int) ∧ IntKind.u64.wrap ((p : Int) * (a : Int)) = ((p * a : Nat) : Int) ∧ IntKind.u64.wrap ((u : Int) - ((p * a : Nat) : Int)) = (r : Int) := by
  have hd := Nat.div_add_mod u a
  rw [hp, hr, Nat.mul_comm] at hd
  have h1 : p ≤ u := by rw [← hp]; exact Nat.div_le_self _ _
  refine ⟨?_, ?_, ?_⟩
  · have : (u : Int) / (a : Int) = (p : Int) := by rw [← hp]; rfl
    rw [this]; exact wrap_u64_nat _ (by omega)
  · rw [← Int.natCast_mul]; exact wrap_u64_nat _ (by omega)
  · have : (u : Int) - ((p * a : Nat) : Int) = (r : Int) := by omega
    rw [this]; exact wrap_u64_nat _ (by omega)
theorem word_test (p b r d : Nat) (hp : p < 4294967296) (hb : b < 4294967296) (hr : r < 4294967296) (hd : d < 4294967296) :
    IntKind.u64.wrap ((p : Int) * (b : Int)) = ((p * b : Nat) : Int) ∧ IntKind.u64.wrap (4294967296 * (r : Int)) = ((4294967296 * r : Nat) : Int) ∧ IntKind.u64.wrap (((4294967296 * r : Nat) : Int) + (d : Int)) = ((4294967296 * r + d : Nat) : Int) := by
  have h1 : p * b ≤ 4294967295 * 4294967295 := Nat.mul_le_mul (by omega) (by omega)
  refine ⟨?_, ?_, ?_⟩
  · rw [← Int.natCast_mul]; exact wrap_u64_nat _ (by omega)
  · rw [show (4294967296 * (r : Int)) = ((4294967296 * r : Nat) : Int) by omega]; exact wrap_u64_nat _ (by omega)
  · rw [← Int.natCast_add]; exact wrap_u64_nat _ (by omega)

set_option maxHeartbeats 2000000 in
theorem div64_walk (hi lo y s e y1 a b u l l1 l0 q1 v q0 q r : Nat) (w : World) (hhi : hi < y) (hhi0 : 0 < hi) (hlo : lo < 18446744073709551616) (hy : y < 18446744073709551616)
    (Z : ∀ w, Calls Try.prog 61 #[.int .u64 y] w fun e w' => e = .returned (.int .i64 s) ∧ w = w') (hs : s < 64) (he : (64 : Int) - (s : Int) = (e : Int)) (he64 : e ≤ 64) (hy1 : IntKind.u64.wrap ((y : Int) * 2 ^ s) = (y1 : Int)) (hy12 : y1 < 18446744073709551616)
    (ha : (y1 : Int) / 4294967296 = (a : Int)) (hb : bits .and .u64 y1 4294967295 = (b : Int)) (hu : bits .or .u64 (IntKind.u64.wrap ((hi : Int) * 2 ^ s)) ((lo : Int) / 2 ^ e) = (u : Int)) (hl : IntKind.u64.wrap ((lo : Int) * 2 ^ s) = (l : Int)) (hl2 : l < 18446744073709551616) (hl1 : (l : Int) / 4294967296 = (l1 : Int)) (hl0 : bits .and .u64 l 4294967295 = (l0 : Int))
    (H1 : Half u l1 a b q1) (H0 : Half v l0 a b q0) (hu1 : u < y1) (hv1 : v < y1)
    (hv : IntKind.u64.wrap (IntKind.u64.wrap (IntKind.u64.wrap ((u : Int) * 4294967296) + (l1 : Int)) - IntKind.u64.wrap ((q1 : Int) * (y1 : Int))) = (v : Int))
    (hq : q1 * 4294967296 + q0 = q) (hq64 : q < 18446744073709551616) (hr : IntKind.u64.wrap (IntKind.u64.wrap (IntKind.u64.wrap ((v : Int) * 4294967296) + (l0 : Int)) - IntKind.u64.wrap ((q0 : Int) * (y1 : Int))) / 2 ^ s = (r : Int)) :
    Calls Try.prog 72 #[.int .u64 hi, .int .u64 lo, .int .u64 y] w fun e w' => e = .returned (.tuple #[.int .u64 q, .int .u64 r]) ∧ ∃ k, w' = w.drewN k := by
  have t1 : ((y : Int) == 0) = false := by simp; omega
  have t2 : decide (y ≤ hi) = false := decide_eq_false (by omega)
  have t3 : ((hi : Int) == 0) = false := by simp; omega
  have Z' := Lib.hid Z
  have HH1 := Lib.hid H1
  have HH0 := Lib.hid H0
  have a1 := H1.a1
  have a2 := H1.a2
  have b2 := H1.b2
  have d1 := H1.d2
  have d0 := H0.d2
  have hs64 : IntKind.u64.wrap (s : Int) = (s : Int) := wrap_u64_nat _ (by omega)
  have HQI := Lib.hid (show (q1 : Int) * 4294967296 + (q0 : Int) = (q : Int) by omega)
  have HQW := Lib.hid (show IntKind.u64.wrap ((q1 : Int) * 4294967296 + (q0 : Int)) = (q : Int) by rw [show (q1 : Int) * 4294967296 + (q0 : Int) = (q : Int) by omega]; exact wrap_u64_nat _ hq64)
  have HQ2 := Lib.hid (show IntKind.u64.wrap (IntKind.u64.wrap ((q1 : Int) * 4294967296) + (q0 : Int)) = (q : Int) by rw [show (q1 : Int) * 4294967296 = ((q1 * 4294967296 : Nat) : Int) by omega, wrap_u64_nat _ (by omega), show ((q1 * 4294967296 : Nat) : Int) + (q0 : Int) = (q : Int) by omega]; exact wrap_u64_nat _ hq64)
  clear Z H1 H0 hq
  go_enter Try.func72, Try.ntmps72
  go_wp2_with fail
  with_reducible (refine (Z'.out _).mono ?_)
  rintro e w' ⟨rfl, rfl⟩
  -- THE LOOPS (tools/div64.py)
  obtain ⟨p1, hp1⟩ : ∃ p, u / a = p := ⟨_, rfl⟩
  obtain ⟨r1, hr1⟩ : ∃ r, u % a = r := ⟨_, rfl⟩
  obtain ⟨x11, x12, x13⟩ := word_div u a p1 r1 (by omega) (by omega) (by omega) hp1 hr1
  obtain ⟨m1, hm1⟩ : ∃ m, p1 * a = m := ⟨_, rfl⟩
  rw [hm1] at x12 x13
  have G1 := Lib.hid (HH1.out.start)
  rw [hp1, hr1] at G1
  clear hp1 hr1 hm1
  obtain ⟨p0, hp0⟩ : ∃ p, v / a = p := ⟨_, rfl⟩
  obtain ⟨r0, hr0⟩ : ∃ r, v % a = r := ⟨_, rfl⟩
  obtain ⟨x01, x02, x03⟩ := word_div v a p0 r0 (by omega) (by omega) (by omega) hp0 hr0
  obtain ⟨m0, hm0⟩ : ∃ m, p0 * a = m := ⟨_, rfl⟩
  rw [hm0] at x02 x03
  have G0 := Lib.hid (HH0.out.start)
  rw [hp0, hr0] at G0
  clear hp0 hr0 hm0
  go_wp2_with fail
  go_loop [15, 16] (fun x z => ∃ p rr : Nat, x = .int .u64 p ∧ z = .int .u64 rr ∧ Hid (Guess u l1 a b q1 p rr)) (fun x _ => (intOf x).toNat)
  case atStart => exact ⟨p1, r1, rfl, rfl, G1⟩
  case round =>
    obtain ⟨p, rr, rfl, rfl, g⟩ := hrel
    have pt := g.out.top
    have rt := g.out.rest
    by_cases c1 : 4294967296 ≤ p
    · have more := g.out.more HH1.out (Or.inl c1)
      have c1i : decide ((4294967296 : Int) ≤ (p : Int)) = true := decide_eq_true (by omega)
      have c1n : decide (4294967296 ≤ p) = true := decide_eq_true c1
      obtain ⟨p1, hp1⟩ : ∃ p1, p - 1 = p1 := ⟨_, rfl⟩
      have hp1i : (p : Int) - 1 = (p1 : Int) := by omega
      obtain ⟨r1, hr1⟩ : ∃ r1, rr + a = r1 := ⟨_, rfl⟩
      have hr1i : (rr : Int) + (a : Int) = (r1 : Int) := by omega
      by_cases c2 : 4294967296 ≤ r1
      · have e := g.out.leave HH1.out more (by omega)
        rw [hp1] at e
        obtain rfl := e
        have c2i : decide ((4294967296 : Int) ≤ (r1 : Int)) = true := decide_eq_true (by omega)
        have c2n : decide (4294967296 ≤ r1) = true := decide_eq_true c2
        clear more hp1 hr1
        go_wp2_with fail
        go_loop [18, 16] (fun x z => ∃ p rr : Nat, x = .int .u64 p ∧ z = .int .u64 rr ∧ Hid (Guess v l0 a b q0 p rr)) (fun x _ => (intOf x).toNat)
        case atStart => exact ⟨p0, r0, rfl, rfl, G0⟩
        case round =>
          obtain ⟨p, rr, rfl, rfl, g⟩ := hrel
          have pt := g.out.top
          have rt := g.out.rest
          by_cases c1 : 4294967296 ≤ p
          · have more := g.out.more HH0.out (Or.inl c1)
            have c1i : decide ((4294967296 : Int) ≤ (p : Int)) = true := decide_eq_true (by omega)
            have c1n : decide (4294967296 ≤ p) = true := decide_eq_true c1
            obtain ⟨p1, hp1⟩ : ∃ p1, p - 1 = p1 := ⟨_, rfl⟩
            have hp1i : (p : Int) - 1 = (p1 : Int) := by omega
            obtain ⟨r1, hr1⟩ : ∃ r1, rr + a = r1 := ⟨_, rfl⟩
            have hr1i : (rr : Int) + (a : Int) = (r1 : Int) := by omega
            by_cases c2 : 4294967296 ≤ r1
            · have e := g.out.leave HH0.out more (by omega)
              rw [hp1] at e
              obtain rfl := e
              have c2i : decide ((4294967296 : Int) ≤ (r1 : Int)) = true := decide_eq_true (by omega)
              have c2n : decide (4294967296 ≤ r1) = true := decide_eq_true c2
              clear more hp1 hr1
              go_wp2_with fail
              go_ret2
              exact ⟨ret_uu (by first | exact HQI.out | exact HQW.out | exact HQ2.out) rfl, 0, rfl⟩
            · have gn := Lib.hid (g.out.go HH0.out more (by omega))
              rw [hp1, hr1] at gn
              have c2i : decide ((4294967296 : Int) ≤ (r1 : Int)) = false := decide_eq_false (by omega)
              have c2n : decide (4294967296 ≤ r1) = false := decide_eq_false c2
              clear more hr1
              have HP1 := Lib.hid hp1
              clear hp1
              go_wp2_with fail
              go_round
              case rel => exact ⟨p1, r1, rfl, rfl, gn⟩
              case measure => have := HP1.out; simp [intOf]; omega
          · have c1i : decide ((4294967296 : Int) ≤ (p : Int)) = false := decide_eq_false (by omega)
            have c1n : decide (4294967296 ≤ p) = false := decide_eq_false c1
            obtain ⟨y1', y2', y3'⟩ := word_test p b rr l0 (by omega) b2 rt d0
            obtain ⟨pb, hpb⟩ : ∃ pb, p * b = pb := ⟨_, rfl⟩
            obtain ⟨br, hbr⟩ : ∃ br, 4294967296 * rr = br := ⟨_, rfl⟩
            obtain ⟨sm, hsm⟩ : ∃ sm, br + l0 = sm := ⟨_, rfl⟩
            rw [hpb] at y1'
            rw [hbr] at y2' y3'
            rw [hsm] at y3'
            by_cases c3 : sm < pb
            · have more := g.out.more HH0.out (Or.inr (by omega))
              have c3n : decide (sm < pb) = true := decide_eq_true c3
              have c3i : decide ((sm : Int) < (pb : Int)) = true := decide_eq_true (by omega)
              obtain ⟨p1, hp1⟩ : ∃ p1, p - 1 = p1 := ⟨_, rfl⟩
              have hp1i : (p : Int) - 1 = (p1 : Int) := by omega
              obtain ⟨r1, hr1⟩ : ∃ r1, rr + a = r1 := ⟨_, rfl⟩
              have hr1i : (rr : Int) + (a : Int) = (r1 : Int) := by omega
              by_cases c2 : 4294967296 ≤ r1
              · have e := g.out.leave HH0.out more (by omega)
                rw [hp1] at e
                obtain rfl := e
                have c2i : decide ((4294967296 : Int) ≤ (r1 : Int)) = true := decide_eq_true (by omega)
                have c2n : decide (4294967296 ≤ r1) = true := decide_eq_true c2
                clear more hp1 hr1 hpb hbr hsm
                go_wp2_with fail
                go_ret2
                exact ⟨ret_uu (by first | exact HQI.out | exact HQW.out | exact HQ2.out) rfl, 0, rfl⟩
              · have gn := Lib.hid (g.out.go HH0.out more (by omega))
                rw [hp1, hr1] at gn
                have c2i : decide ((4294967296 : Int) ≤ (r1 : Int)) = false := decide_eq_false (by omega)
                have c2n : decide (4294967296 ≤ r1) = false := decide_eq_false c2
                clear more hr1 hpb hbr hsm
                have HP1 := Lib.hid hp1
                clear hp1
                go_wp2_with fail
                go_round
                case rel => exact ⟨p1, r1, rfl, rfl, gn⟩
                case measure => have := HP1.out; simp [intOf]; omega
            · have c3n : decide (sm < pb) = false := decide_eq_false c3
              have c3i : decide ((sm : Int) < (pb : Int)) = false := decide_eq_false (by omega)
              have e := g.out.stop HH0.out (by omega) (by omega)
              obtain rfl := e
              clear hpb hbr hsm
              go_wp2_with fail
              go_ret2
              exact ⟨ret_uu (by first | exact HQI.out | exact HQW.out | exact HQ2.out) rfl, 0, rfl⟩
      · have gn := Lib.hid (g.out.go HH1.out more (by omega))
        rw [hp1, hr1] at gn
        have c2i : decide ((4294967296 : Int) ≤ (r1 : Int)) = false := decide_eq_false (by omega)
        have c2n : decide (4294967296 ≤ r1) = false := decide_eq_false c2
        clear more hr1
        have HP1 := Lib.hid hp1
        clear hp1
        go_wp2_with fail
        go_round
        case rel => exact ⟨p1, r1, rfl, rfl, gn⟩
        case measure => have := HP1.out; simp [intOf]; omega
    · have c1i : decide ((4294967296 : Int) ≤ (p : Int)) = false := decide_eq_false (by omega)
      have c1n : decide (4294967296 ≤ p) = false := decide_eq_false c1
      obtain ⟨y1', y2', y3'⟩ := word_test p b rr l1 (by omega) b2 rt d1
      obtain ⟨pb, hpb⟩ : ∃ pb, p * b = pb := ⟨_, rfl⟩
      obtain ⟨br, hbr⟩ : ∃ br, 4294967296 * rr = br := ⟨_, rfl⟩
      obtain ⟨sm, hsm⟩ : ∃ sm, br + l1 = sm := ⟨_, rfl⟩
      rw [hpb] at y1'
      rw [hbr] at y2' y3'
      rw [hsm] at y3'
      by_cases c3 : sm < pb
      · have more := g.out.more HH1.out (Or.inr (by omega))
        have c3n : decide (sm < pb) = true := decide_eq_true c3
        have c3i : decide ((sm : Int) < (pb : Int)) = true := decide_eq_true (by omega)
        obtain ⟨p1, hp1⟩ : ∃ p1, p - 1 = p1 := ⟨_, rfl⟩
        have hp1i : (p : Int) - 1 = (p1 : Int) := by omega
        obtain ⟨r1, hr1⟩ : ∃ r1, rr + a = r1 := ⟨_, rfl⟩
        have hr1i : (rr : Int) + (a : Int) = (r1 : Int) := by omega
        by_cases c2 : 4294967296 ≤ r1
        · have e := g.out.leave HH1.out more (by omega)
          rw [hp1] at e
          obtain rfl := e
          have c2i : decide ((4294967296 : Int) ≤ (r1 : Int)) = true := decide_eq_true (by omega)
          have c2n : decide (4294967296 ≤ r1) = true := decide_eq_true c2
          clear more hp1 hr1 hpb hbr hsm
          go_wp2_with fail
          go_loop [18, 16] (fun x z => ∃ p rr : Nat, x = .int .u64 p ∧ z = .int .u64 rr ∧ Hid (Guess v l0 a b q0 p rr)) (fun x _ => (intOf x).toNat)
          case atStart => exact ⟨p0, r0, rfl, rfl, G0⟩
          case round =>
            obtain ⟨p, rr, rfl, rfl, g⟩ := hrel
            have pt := g.out.top
            have rt := g.out.rest
            by_cases c1 : 4294967296 ≤ p
            · have more := g.out.more HH0.out (Or.inl c1)
              have c1i : decide ((4294967296 : Int) ≤ (p : Int)) = true := decide_eq_true (by omega)
              have c1n : decide (4294967296 ≤ p) = true := decide_eq_true c1
              obtain ⟨p1, hp1⟩ : ∃ p1, p - 1 = p1 := ⟨_, rfl⟩
              have hp1i : (p : Int) - 1 = (p1 : Int) := by omega
              obtain ⟨r1, hr1⟩ : ∃ r1, rr + a = r1 := ⟨_, rfl⟩
              have hr1i : (rr : Int) + (a : Int) = (r1 : Int) := by omega
              by_cases c2 : 4294967296 ≤ r1
              · have e := g.out.leave HH0.out more (by omega)
                rw [hp1] at e
                obtain rfl := e
                have c2i : decide ((4294967296 : Int) ≤ (r1 : Int)) = true := decide_eq_true (by omega)
                have c2n : decide (4294967296 ≤ r1) = true := decide_eq_true c2
                clear more hp1 hr1
                go_wp2_with fail
                go_ret2
                exact ⟨ret_uu (by first | exact HQI.out | exact HQW.out | exact HQ2.out) rfl, 0, rfl⟩
              · have gn := Lib.hid (g.out.go HH0.out more (by omega))
                rw [hp1, hr1] at gn
                have c2i : decide ((4294967296 : Int) ≤ (r1 : Int)) = false := decide_eq_false (by omega)
                have c2n : decide (4294967296 ≤ r1) = false := decide_eq_false c2
                clear more hr1
                have HP1 := Lib.hid hp1
                clear hp1
                go_wp2_with fail
                go_round
                case rel => exact ⟨p1, r1, rfl, rfl, gn⟩
                case measure => have := HP1.out; simp [intOf]; omega
            · have c1i : decide ((4294967296 : Int) ≤ (p : Int)) = false := decide_eq_false (by omega)
              have c1n : decide (4294967296 ≤ p) = false := decide_eq_false c1
              obtain ⟨y1', y2', y3'⟩ := word_test p b rr l0 (by omega) b2 rt d0
              obtain ⟨pb, hpb⟩ : ∃ pb, p * b = pb := ⟨_, rfl⟩
              obtain ⟨br, hbr⟩ : ∃ br, 4294967296 * rr = br := ⟨_, rfl⟩
              obtain ⟨sm, hsm⟩ : ∃ sm, br + l0 = sm := ⟨_, rfl⟩
              rw [hpb] at y1'
              rw [hbr] at y2' y3'
              rw [hsm] at y3'
              by_cases c3 : sm < pb
              · have more := g.out.more HH0.out (Or.inr (by omega))
                have c3n : decide (sm < pb) = true := decide_eq_true c3
                have c3i : decide ((sm : Int) < (pb : Int)) = true := decide_eq_true (by omega)
                obtain ⟨p1, hp1⟩ : ∃ p1, p - 1 = p1 := ⟨_, rfl⟩
                have hp1i : (p : Int) - 1 = (p1 : Int) := by omega
                obtain ⟨r1, hr1⟩ : ∃ r1, rr + a = r1 := ⟨_, rfl⟩
                have hr1i : (rr : Int) + (a : Int) = (r1 : Int) := by omega
                by_cases c2 : 4294967296 ≤ r1
                · have e := g.out.leave HH0.out more (by omega)
                  rw [hp1] at e
                  obtain rfl := e
                  have c2i : decide ((4294967296 : Int) ≤ (r1 : Int)) = true := decide_eq_true (by omega)
                  have c2n : decide (4294967296 ≤ r1) = true := decide_eq_true c2
                  clear more hp1 hr1 hpb hbr hsm
                  go_wp2_with fail
                  go_ret2
                  exact ⟨ret_uu (by first | exact HQI.out | exact HQW.out | exact HQ2.out) rfl, 0, rfl⟩
                · have gn := Lib.hid (g.out.go HH0.out more (by omega))
                  rw [hp1, hr1] at gn
                  have c2i : decide ((4294967296 : Int) ≤ (r1 : Int)) = false := decide_eq_false (by omega)
                  have c2n : decide (4294967296 ≤ r1) = false := decide_eq_false c2
                  clear more hr1 hpb hbr hsm
                  have HP1 := Lib.hid hp1
                  clear hp1
                  go_wp2_with fail
                  go_round
                  case rel => exact ⟨p1, r1, rfl, rfl, gn⟩
                  case measure => have := HP1.out; simp [intOf]; omega
              · have c3n : decide (sm < pb) = false := decide_eq_false c3
                have c3i : decide ((sm : Int) < (pb : Int)) = false := decide_eq_false (by omega)
                have e := g.out.stop HH0.out (by omega) (by omega)
                obtain rfl := e
                clear hpb hbr hsm
                go_wp2_with fail
                go_ret2
                exact ⟨ret_uu (by first | exact HQI.out | exact HQW.out | exact HQ2.out) rfl, 0, rfl⟩
        · have gn := Lib.hid (g.out.go HH1.out more (by omega))
          rw [hp1, hr1] at gn
          have c2i : decide ((4294967296 : Int) ≤ (r1 : Int)) = false := decide_eq_false (by omega)
          have c2n : decide (4294967296 ≤ r1) = false := decide_eq_false c2
          clear more hr1 hpb hbr hsm
          have HP1 := Lib.hid hp1
          clear hp1
          go_wp2_with fail
          go_round
          case rel => exact ⟨p1, r1, rfl, rfl, gn⟩
          case measure => have := HP1.out; simp [intOf]; omega
      · have c3n : decide (sm < pb) = false := decide_eq_false c3
        have c3i : decide ((sm : Int) < (pb : Int)) = false := decide_eq_false (by omega)
        have e := g.out.stop HH1.out (by omega) (by omega)
        obtain rfl := e
        clear hpb hbr hsm
        go_wp2_with fail
        go_loop [18, 16] (fun x z => ∃ p rr : Nat, x = .int .u64 p ∧ z = .int .u64 rr ∧ Hid (Guess v l0 a b q0 p rr)) (fun x _ => (intOf x).toNat)
        case atStart => exact ⟨p0, r0, rfl, rfl, G0⟩
        case round =>
          obtain ⟨p, rr, rfl, rfl, g⟩ := hrel
          have pt := g.out.top
          have rt := g.out.rest
          by_cases c1 : 4294967296 ≤ p
          · have more := g.out.more HH0.out (Or.inl c1)
            have c1i : decide ((4294967296 : Int) ≤ (p : Int)) = true := decide_eq_true (by omega)
            have c1n : decide (4294967296 ≤ p) = true := decide_eq_true c1
            obtain ⟨p1, hp1⟩ : ∃ p1, p - 1 = p1 := ⟨_, rfl⟩
            have hp1i : (p : Int) - 1 = (p1 : Int) := by omega
            obtain ⟨r1, hr1⟩ : ∃ r1, rr + a = r1 := ⟨_, rfl⟩
            have hr1i : (rr : Int) + (a : Int) = (r1 : Int) := by omega
            by_cases c2 : 4294967296 ≤ r1
            · have e := g.out.leave HH0.out more (by omega)
              rw [hp1] at e
              obtain rfl := e
              have c2i : decide ((4294967296 : Int) ≤ (r1 : Int)) = true := decide_eq_true (by omega)
              have c2n : decide (4294967296 ≤ r1) = true := decide_eq_true c2
              clear more hp1 hr1
              go_wp2_with fail
              go_ret2
              exact ⟨ret_uu (by first | exact HQI.out | exact HQW.out | exact HQ2.out) rfl, 0, rfl⟩
            · have gn := Lib.hid (g.out.go HH0.out more (by omega))
              rw [hp1, hr1] at gn
              have c2i : decide ((4294967296 : Int) ≤ (r1 : Int)) = false := decide_eq_false (by omega)
              have c2n : decide (4294967296 ≤ r1) = false := decide_eq_false c2
              clear more hr1
              have HP1 := Lib.hid hp1
              clear hp1
              go_wp2_with fail
              go_round
              case rel => exact ⟨p1, r1, rfl, rfl, gn⟩
              case measure => have := HP1.out; simp [intOf]; omega
          · have c1i : decide ((4294967296 : Int) ≤ (p : Int)) = false := decide_eq_false (by omega)
            have c1n : decide (4294967296 ≤ p) = false := decide_eq_false c1
            obtain ⟨y1', y2', y3'⟩ := word_test p b rr l0 (by omega) b2 rt d0
            obtain ⟨pb, hpb⟩ : ∃ pb, p * b = pb := ⟨_, rfl⟩
            obtain ⟨br, hbr⟩ : ∃ br, 4294967296 * rr = br := ⟨_, rfl⟩
            obtain ⟨sm, hsm⟩ : ∃ sm, br + l0 = sm := ⟨_, rfl⟩
            rw [hpb] at y1'
            rw [hbr] at y2' y3'
            rw [hsm] at y3'
            by_cases c3 : sm < pb
            · have more := g.out.more HH0.out (Or.inr (by omega))
              have c3n : decide (sm < pb) = true := decide_eq_true c3
              have c3i : decide ((sm : Int) < (pb : Int)) = true := decide_eq_true (by omega)
              obtain ⟨p1, hp1⟩ : ∃ p1, p - 1 = p1 := ⟨_, rfl⟩
              have hp1i : (p : Int) - 1 = (p1 : Int) := by omega
              obtain ⟨r1, hr1⟩ : ∃ r1, rr + a = r1 := ⟨_, rfl⟩
              have hr1i : (rr : Int) + (a : Int) = (r1 : Int) := by omega
              by_cases c2 : 4294967296 ≤ r1
              · have e := g.out.leave HH0.out more (by omega)
                rw [hp1] at e
                obtain rfl := e
                have c2i : decide ((4294967296 : Int) ≤ (r1 : Int)) = true := decide_eq_true (by omega)
                have c2n : decide (4294967296 ≤ r1) = true := decide_eq_true c2
                clear more hp1 hr1 hpb hbr hsm
                go_wp2_with fail
                go_ret2
                exact ⟨ret_uu (by first | exact HQI.out | exact HQW.out | exact HQ2.out) rfl, 0, rfl⟩
              · have gn := Lib.hid (g.out.go HH0.out more (by omega))
                rw [hp1, hr1] at gn
                have c2i : decide ((4294967296 : Int) ≤ (r1 : Int)) = false := decide_eq_false (by omega)
                have c2n : decide (4294967296 ≤ r1) = false := decide_eq_false c2
                clear more hr1 hpb hbr hsm
                have HP1 := Lib.hid hp1
                clear hp1
                go_wp2_with fail
                go_round
                case rel => exact ⟨p1, r1, rfl, rfl, gn⟩
                case measure => have := HP1.out; simp [intOf]; omega
            · have c3n : decide (sm < pb) = false := decide_eq_false c3
              have c3i : decide ((sm : Int) < (pb : Int)) = false := decide_eq_false (by omega)
              have e := g.out.stop HH0.out (by omega) (by omega)
              obtain rfl := e
              clear hpb hbr hsm
              go_wp2_with fail
              go_ret2
              exact ⟨ret_uu (by first | exact HQI.out | exact HQW.out | exact HQ2.out) rfl, 0, rfl⟩
end Go.Proofs.Yteiajccjlbghoaa

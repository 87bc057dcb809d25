/- A slice that is a natural number; package nat's functions in these words; Pow. Conditions: as each theorem names them. package exact's scaled and size; package nat's Bit, Word. Conditions: as each theorem names them. Exact numbers, a natural one times powers of 2 and 5, compared: the plain law. No program stands here. Conditions: as each theorem names them. Exact numbers: signs, logarithms, how often a power of 10 goes into one, what is reduced: the plain laws. No program stands here. Conditions: as each theorem names them. -/
import Derived.Test.YtlmeobokpibifaaGreatDoorG02
section
set_option linter.unusedSimpArgs false
set_option linter.unusedVariables false
set_option linter.unusedVariables false
namespace Go.Proofs.YtlmeobokpibifaaGreatDoor
open Go.RowKit

/-- v is the natural number N, without words of 0 at its end -/
def IsN (w : World) (v : Value) (N : Nat) : Prop := ∃ A n c F, v = .slice A n c ∧ Rd w A n c F ∧ Nm n F ∧ S F n = N
section
variable {w w' : World} {v : Value} {N : Nat}
theorem IsN.below (h : IsN w v N) (hb : Below w.heap.size w w') : IsN w' v N := by
  obtain ⟨A, n, c, F, e, hr, hn, hs⟩ := h
  exact ⟨A, n, c, F, e, hr.below hb, hn, hs⟩
theorem IsN.alloc (h : IsN w v N) (o : Obj) : IsN (w.alloc o) v N := h.below ((Below.refl _ _).alloc (Nat.le_refl _) _)
theorem IsN.drewN (h : IsN w v N) (k : Nat) : IsN (w.drewN k) v N := h
theorem IsN.eq {M : Nat} (h : IsN w v N) (e : N = M) : IsN w v M := e ▸ h
end
theorem bthen {w a b : World} (h : Below w.heap.size w a) (k : Below a.heap.size a b) : Below w.heap.size w b := h.trans (k.mono h.size)
theorem bgrow {w a : World} (h : Below w.heap.size w a) (o : Obj) : Below w.heap.size w (a.alloc o) := h.alloc h.size o
theorem bdrewN {B : Nat} {a w : World} (h : Below B a w) (n : Nat) : Below B a (w.drewN n) := ⟨h.os, h.tape, h.output, h.size, h.block⟩

theorem len_of_bits {n a N : Nat} {F : Nat → Nat} (h : Nm n F) (hs : S F n = N) (hN : N < 2 ^ a) (ha : a ≤ 1048576) : n ≤ 1048576 := by
  have : N < Wd ^ a := Nat.lt_of_lt_of_le hN (Nat.pow_le_pow_left (by decide) a)
  exact Nat.le_trans (nm_len h hs this) ha

theorem of_N (x : Nat) (hx : x < 18446744073709551616) (w : World) :
    Calls Tryz.prog 44 #[.int .u64 x] w fun e w' => (∃ r, e = .returned r ∧ IsN w' r x) ∧ Below w.heap.size w w' := by
  refine (of_any x hx w).mono ?_
  rintro e w' ⟨⟨A, c, m, hm, hr, rfl⟩, hb⟩
  refine ⟨⟨_, rfl, A, m, c, _, rfl, hr, hm.nm, ?_⟩, hb⟩
  rw [hm.sum, S_succ, S_zero]; simp
theorem of_one (w : World) :
    Calls Tryz.prog 44 #[.int .u64 1] w fun e w' => (∃ r, e = .returned r ∧ IsN w' r 1) ∧ Below w.heap.size w w' := of_N 1 (by decide) w
theorem norm_N (A : Option Addr) (n c : Nat) (F : Nat → Nat) (w : World) (h : Rd w A n c F) :
    Calls Tryz.prog 73 #[.slice A n c] w fun e w' => (∃ r, e = .returned r ∧ IsN w' r (S F n)) ∧ Below w.heap.size w w' := by
  refine (norm_any A n c F w h).mono ?_
  rintro e w' ⟨⟨A', c', m, hm, hr, rfl, _⟩, hb⟩
  exact ⟨⟨_, rfl, A', m, c', _, rfl, hr, hm.nm, hm.sum⟩, hb⟩
theorem bits_N (v : Value) (N k : Nat) (w : World) (h : IsN w v N) (hk : bitsN N = k) :
    Calls Tryz.prog 58 #[v] w fun e w' => e = .returned (.int .i64 k) ∧ w = w' := by
  obtain ⟨A, n, c, F, rfl, hr, hn, rfl⟩ := h
  exact bits_any A n c F w hr k hk
theorem cmp_N (u v : Value) (M N : Nat) (r : Int) (w : World) (h1 : IsN w u M) (h2 : IsN w v N) (hr : cmpN M N = r) :
    Calls Tryz.prog 85 #[u, v] w fun e w' => e = .returned (.int .i64 r) ∧ ∃ k, w' = w.drewN k := by
  obtain ⟨A, n, c, F, rfl, hA, hn, rfl⟩ := h1
  obtain ⟨B, m, d, G, rfl, hB, hm, rfl⟩ := h2
  exact cmp_any A B n c m d F G w hA hB r hr
theorem add_N (u v : Value) (M N a : Nat) (w : World) (h1 : IsN w u M) (h2 : IsN w v N) (hM : M < 2 ^ a) (hN : N < 2 ^ a) (ha : a ≤ 1048576) :
    Calls Tryz.prog 62 #[u, v] w fun e w' => (∃ r, e = .returned r ∧ IsN w' r (M + N)) ∧ Below w.heap.size w w' := by
  obtain ⟨A, n, c, F, rfl, hA, hn, rfl⟩ := h1
  obtain ⟨B, m, d, G, rfl, hB, hm, rfl⟩ := h2
  refine (add_any A B n c m d F G w hA hB (len_of_bits hn rfl hM ha) (len_of_bits hm rfl hN ha)).mono ?_
  rintro e w' ⟨⟨O, k, rfl, hr, ho, hs⟩, hb⟩
  exact ⟨⟨_, rfl, _, _, _, _, rfl, hr, ho, hs⟩, hb⟩
theorem mul_N (u v : Value) (M N a b : Nat) (w : World) (h1 : IsN w u M) (h2 : IsN w v N) (hM : M < 2 ^ a) (hN : N < 2 ^ b) (ha : a ≤ 1048576) (hb : b ≤ 1048576) :
    Calls Tryz.prog 103 #[u, v] w fun e w' => (∃ r, e = .returned r ∧ IsN w' r (M * N)) ∧ Below w.heap.size w w' := by
  obtain ⟨A, n, c, F, rfl, hA, hn, rfl⟩ := h1
  obtain ⟨B, m, d, G, rfl, hB, hm, rfl⟩ := h2
  refine (mul_any A B n c m d F G w hA hB (len_of_bits hn rfl hM ha) (len_of_bits hm rfl hN hb)).mono ?_
  rintro e w' ⟨⟨O, k, rfl, hr, ho, hs⟩, hb⟩
  exact ⟨⟨_, rfl, _, _, _, _, rfl, hr, ho, hs⟩, hb⟩
theorem shl_N (u : Value) (M a sh : Nat) (i : Int) (w : World) (h1 : IsN w u M) (hM : M < 2 ^ a) (ha : a ≤ 1048576) (hsh : min (max i 0) 131072 = (sh : Int)) :
    Calls Tryz.prog 87 #[u, .int .i64 i] w fun e w' => (∃ r, e = .returned r ∧ IsN w' r (M * 2 ^ sh)) ∧ Below w.heap.size w w' := by
  obtain ⟨A, n, c, F, rfl, hA, hn, rfl⟩ := h1
  refine (shl_any A n c F i sh w hA (len_of_bits hn rfl hM ha) hsh).mono ?_
  rintro e w' ⟨⟨O, k, rfl, hr, ho, hs⟩, hb⟩
  exact ⟨⟨_, rfl, _, _, _, _, rfl, hr, ho, hs⟩, hb⟩
theorem shr_N (u : Value) (M a sh : Nat) (i : Int) (w : World) (h1 : IsN w u M) (hM : M < 2 ^ a) (ha : a ≤ 1048576) (hsh : min (max i 0) 131072 = (sh : Int)) :
    Calls Tryz.prog 93 #[u, .int .i64 i] w fun e w' => (∃ r, e = .returned r ∧ IsN w' r (M / 2 ^ sh)) ∧ Below w.heap.size w w' := by
  obtain ⟨A, n, c, F, rfl, hA, hn, rfl⟩ := h1
  refine (shr_any A n c F i sh w hA (len_of_bits hn rfl hM ha) hsh).mono ?_
  rintro e w' ⟨⟨O, k, rfl, hr, ho, hs⟩, hb⟩
  exact ⟨⟨_, rfl, _, _, _, _, rfl, hr, ho, hs⟩, hb⟩

theorem pow_bits {x p k : Nat} (hx : x < 2 ^ 64) (hp : p ≤ k) : x ^ p < 2 ^ (64 * k + 1) := by
  have h1 : x ^ p ≤ (2 ^ 64) ^ p := Nat.pow_le_pow_left (by omega) p
  rw [← Nat.pow_mul] at h1
  have h2 : 2 ^ (64 * p) ≤ 2 ^ (64 * k) := Nat.pow_le_pow_right (by decide) (by omega)
  have h3 : 2 ^ (64 * k + 1) = 2 * 2 ^ (64 * k) := by rw [Nat.pow_succ, Nat.mul_comm]
  have h4 := Nat.two_pow_pos (64 * k)
  omega

theorem pow_N (x k : Nat) (i : Int) (w : World) (hx : x < 18446744073709551616) (hk : min (max i 0) 10000 = (k : Int)) :
    Calls Tryz.prog 118 #[.int .u64 x, .int .i64 i] w fun e w' => (∃ r, e = .returned r ∧ IsN w' r (x ^ k)) ∧ Below w.heap.size w w' := by
  have hk1 : k ≤ 10000 := by omega
  have HX := Lib.hid (show x < 2 ^ 64 from hx)
  go_enter Tryz.func118, Tryz.ntmps118
  go_wp2_with fail
  with_reducible (refine (of_one _).mono ?_)
  rintro e w1 ⟨⟨r1, rfl, h1⟩, b1⟩
  have H1 := Lib.hid h1
  have B1 := Lib.hid b1
  clear h1 b1
  go_wp2_with fail
  with_reducible (refine (of_N x hx _).mono ?_)
  rintro e w2 ⟨⟨r2, rfl, h2⟩, b2⟩
  have H2 := Lib.hid h2
  have H1' := Lib.hid (H1.out.below b2)
  have B2 := Lib.hid (bthen B1.out b2)
  clear h2 b2
  go_wp2_with fail
  go_loopw [1, 5, 6] (fun i u v wr => ∃ (t p q : Nat) (U V : Value), U = u ∧ V = v ∧ t ≤ k ∧ i = .int .i64 t ∧ p ≤ k ∧ q ≤ max k 1 ∧ Hid (0 < t → p + q * t = k) ∧ Hid (t = 0 → p = k) ∧ Hid (IsN wr U (x ^ p)) ∧ Hid (IsN wr V (x ^ q)) ∧ Hid (Below w.heap.size w wr)) (fun i _ _ _ => (intOf i).toNat)
  case atStart => exact ⟨k, 0, 1, _, _, rfl, rfl, Nat.le_refl _, rfl, Nat.zero_le _, by omega, Lib.hid (fun _ => by omega), Lib.hid (fun h => by omega), H1', Lib.hid (by rw [Nat.pow_one]; exact H2.out), B2⟩
  case round =>
    obtain ⟨t, p, q, u, v, rfl, rfl, ht, rfl, hp, hq, hr1, hr2, hu, hv, hB⟩ := hrel
    rcases Nat.eq_zero_or_pos t with h0 | h0
    · subst h0
      have hpk := hr2.out rfl
      have u1 : decide ((0 : Int) < ((0 : Nat) : Int)) = false := by decide
      have HP := Lib.hid hpk
      clear hpk
      go_wp2_with fail
      go_ret
      exact ⟨⟨u, rfl, hu.out.eq (by rw [HP.out])⟩, hB.out⟩
    · have u1 : decide ((0 : Int) < (t : Int)) = true := decide_eq_true (by omega)
      have hpq := hr1.out h0
      have hqt : q * 1 ≤ q * t := Nat.mul_le_mul_left _ h0
      have bp := Lib.hid (pow_bits (k := 10000) HX.out (show p ≤ 10000 by omega))
      have bq := Lib.hid (pow_bits (k := 10000) HX.out (show q ≤ 10000 by omega))
      obtain ⟨t2, ht2⟩ : ∃ t2, t / 2 = t2 := ⟨_, rfl⟩
      have hti : (t : Int) / 2 = (t2 : Int) := by omega
      have HT2 := Lib.hid ht2
      have HPQ := Lib.hid hpq
      clear hpq hqt ht2
      by_cases hodd : t % 2 = 1
      · have u2 : ((t : Int) % 2 == 1) = true := by simp; omega
        have HO := Lib.hid hodd
        clear hodd
        have M1 := Lib.hid (fun wr hu hv => mul_N u v (x ^ p) (x ^ q) _ _ wr hu hv bp.out bq.out (by decide) (by decide))
        go_wp2_with fail
        with_reducible (refine (M1.out _ hu.out hv.out).mono ?_)
        rintro e w1 ⟨⟨r, rfl, hr⟩, b1⟩
        have HR := Lib.hid hr
        have HV := Lib.hid (hv.out.below b1)
        have HB := Lib.hid (bthen hB.out b1)
        clear hr b1
        by_cases h1 : 1 < t
        · have u3 : decide ((1 : Int) < (t : Int)) = true := decide_eq_true (by omega)
          have u3' : decide (1 < t) = true := decide_eq_true h1
          have M2 := Lib.hid (fun wr hv => mul_N v v (x ^ q) (x ^ q) _ _ wr hv hv bq.out bq.out (by decide) (by decide))
          go_wp2_with fail
          with_reducible (refine (M2.out _ HV.out).mono ?_)
          rintro e w2 ⟨⟨r2, rfl, hr2'⟩, b2⟩
          have HR2 := Lib.hid hr2'
          have HRb := Lib.hid (HR.out.below b2)
          have HB2 := Lib.hid (bthen HB.out b2)
          clear hr2' b2
          go_wp2_with fail
          go_roundw
          case rel =>
            have e1 := HT2.out
            have e2 := HO.out
            have e3 := HPQ.out
            have e4 : t = 2 * t2 + 1 := by omega
            have e5 : q * t = 2 * q * t2 + q := by rw [e4, Nat.mul_add, Nat.mul_one, ← Nat.mul_assoc, Nat.mul_comm q 2]
            have e6 : 2 * q * 1 ≤ 2 * q * t2 := Nat.mul_le_mul_left _ (by omega)
            exact ⟨t2, p + q, 2 * q, _, _, rfl, rfl, by omega, rfl, by omega, by omega, Lib.hid (fun _ => by omega), Lib.hid (fun h => by omega), Lib.hid (HRb.out.eq (Nat.pow_add ..).symm), Lib.hid (HR2.out.eq (by rw [← Nat.pow_add]; congr 1; omega)), HB2⟩
          case measure => have := HT2.out; simp [intOf]; omega
        · have u3 : decide ((1 : Int) < (t : Int)) = false := decide_eq_false (by omega)
          have u3' : decide (1 < t) = false := decide_eq_false h1
          have H1 := Lib.hid h1
          clear h1
          go_wp2_with fail
          go_roundw
          case rel =>
            have e1 := HT2.out
            have e3 := HPQ.out
            have e4 : t = 1 := by have := H1.out; omega
            subst e4
            rw [Nat.mul_one] at e3
            exact ⟨t2, p + q, q, _, _, rfl, rfl, by omega, rfl, by omega, by omega, Lib.hid (fun _ => by omega), Lib.hid (fun h => by omega), Lib.hid (HR.out.eq (Nat.pow_add ..).symm), HV, HB⟩
          case measure => have := HT2.out; simp [intOf]; omega
      · have u2 : ((t : Int) % 2 == 1) = false := by simp; omega
        have HO := Lib.hid hodd
        have h1 : 1 < t := by omega
        clear hodd
        have u3 : decide ((1 : Int) < (t : Int)) = true := decide_eq_true (by omega)
        have u3' : decide (1 < t) = true := decide_eq_true h1
        have M2 := Lib.hid (fun wr hv => mul_N v v (x ^ q) (x ^ q) _ _ wr hv hv bq.out bq.out (by decide) (by decide))
        go_wp2_with fail
        with_reducible (refine (M2.out _ hv.out).mono ?_)
        rintro e w2 ⟨⟨r2, rfl, hr2'⟩, b2⟩
        have HR2 := Lib.hid hr2'
        have HRb := Lib.hid (hu.out.below b2)
        have HB2 := Lib.hid (bthen hB.out b2)
        clear hr2' b2
        go_wp2_with fail
        go_roundw
        case rel =>
          have e1 := HT2.out
          have e2 := HO.out
          have e3 := HPQ.out
          have e4 : t = 2 * t2 := by omega
          have e5 : q * t = 2 * q * t2 := by rw [e4, ← Nat.mul_assoc, Nat.mul_comm q 2]
          have e6 : 2 * q * 1 ≤ 2 * q * t2 := Nat.mul_le_mul_left _ (by omega)
          exact ⟨t2, p, 2 * q, _, _, rfl, rfl, by omega, rfl, by omega, by omega, Lib.hid (fun _ => by omega), Lib.hid (fun h => by omega), HRb, Lib.hid (HR2.out.eq (by rw [← Nat.pow_add]; congr 1; omega)), HB2⟩
        case measure => have := HT2.out; simp [intOf]; omega
end Go.Proofs.YtlmeobokpibifaaGreatDoor
end

section
set_option linter.unusedSimpArgs false
set_option linter.unusedVariables false
set_option linter.unusedVariables false
namespace Go.Proofs.YtlmeobokpibifaaGreatDoor
open Go.RowKit

theorem five_bits (k : Nat) : 5 ^ k < 2 ^ (3 * k + 1) := by
  have h : 5 ^ k ≤ 8 ^ k := Nat.pow_le_pow_left (by decide) k
  have e : (8 : Nat) ^ k = 2 ^ (3 * k) := by rw [Nat.pow_mul]
  have := Nat.two_pow_pos (3 * k)
  rw [Nat.pow_succ]
  omega
theorem mul_bits {M N a b : Nat} (hM : M < 2 ^ a) (hN : N < 2 ^ b) : M * N < 2 ^ (a + b) := by
  rw [Nat.pow_add]; exact Nat.mul_lt_mul'' hM hN

theorem pow5_N (k : Nat) (i : Int) (w : World) (hk : min (max i 0) 10000 = (k : Int)) :
    Calls Tryz.prog 118 #[.int .u64 5, .int .i64 i] w fun e w' => (∃ r, e = .returned r ∧ IsN w' r (5 ^ k)) ∧ Below w.heap.size w w' := pow_N 5 k i w (by decide) hk

theorem scaled_N (v : Value) (M a : Nat) (two five : Int) (p q : Nat) (w : World) (hv : IsN w v M) (hM : M < 2 ^ a) (ha : a ≤ 200000) (hf : max five 0 = (q : Int)) (hq : q ≤ 20000) (ht : max two 0 = (p : Int)) (hp : p ≤ 131072) :
    Calls Tryz.prog 86 #[v, .int .i64 two, .int .i64 five] w fun e w' => (∃ r, e = .returned r ∧ IsN w' r (M * 5 ^ q * 2 ^ p)) ∧ Below w.heap.size w w' := by
  have hv' := Lib.hid hv
  have HM := Lib.hid hM
  have hmin : min five 20000 = five := by omega
  have hp0 : min (max (p : Int) 0) 131072 = (p : Int) := by omega
  have HP := Lib.hid hp0
  have HF := Lib.hid hf
  have h5b : five ≤ 20000 := by omega
  clear hv hM hf hp0
  go_enter Tryz.func86, Tryz.ntmps86
  go_wp2_with fail
  go_loopw [0, 2] (fun u f wr => ∃ (U : Value) (y : Int) (j r : Nat), U = u ∧ f = .int .i64 y ∧ j + r = q ∧ max y 0 = (r : Int) ∧ y ≤ 20000 ∧ Hid (IsN wr U (M * 5 ^ j)) ∧ Hid (Below w.heap.size w wr)) (fun _ f _ => (intOf f).toNat)
  case atStart => exact ⟨v, five, 0, q, rfl, rfl, Nat.zero_add _, HF.out, h5b, Lib.hid (by rw [Nat.pow_zero, Nat.mul_one]; exact hv'.out), Lib.hid (Below.refl _ _)⟩
  case round =>
    obtain ⟨u, y, j, r, rfl, rfl, hjr, hyr, hyb, hu, hB⟩ := hrel
    by_cases hy : 0 < y
    · obtain ⟨c, hc⟩ : ∃ c : Nat, min y 5000 = (c : Int) := ⟨(min y 5000).toNat, by omega⟩
      have P := Lib.hid (fun w' => pow5_N c c w' (by omega))
      have hcr : c ≤ r := by omega
      have hb1 := Lib.hid (mul_bits HM.out (five_bits j))
      have HC := Lib.hid hc
      have HYR := Lib.hid hyr
      have HJR := Lib.hid hjr
      have hab : a + (3 * j + 1) ≤ 1048576 := by omega
      have hab2 : 3 * c + 1 ≤ 1048576 := by omega
      clear hjr hyr
      go_wp2_with fail
      with_reducible (refine (P.out _).mono ?_)
      rintro e w1 ⟨⟨r1, rfl, h1⟩, b1⟩
      have M1 := Lib.hid (mul_N u r1 (M * 5 ^ j) (5 ^ c) _ _ w1 (hu.out.below b1) h1 hb1.out (five_bits c) hab hab2)
      have HB1 := Lib.hid (bthen hB.out b1)
      clear h1 b1
      go_wp2_with fail
      with_reducible (refine M1.out.mono ?_)
      rintro e w2 ⟨⟨r2, rfl, h2⟩, b2⟩
      have HB2 := Lib.hid (bthen HB1.out b2)
      have HR2 := Lib.hid h2
      clear h2 b2
      go_wp2_with fail
      go_roundw
      case rel =>
        have e1 := HJR.out
        have e2 := HYR.out
        have e3 := HC.out
        exact ⟨r2, _, j + c, r - c, rfl, rfl, by omega, by omega, by omega, Lib.hid (HR2.out.eq (by rw [Nat.mul_assoc, ← Nat.pow_add])), HB2⟩
      case measure => simp [intOf]; omega
    · have hr0 : r = 0 := by omega
      have hjq : j = q := by omega
      have hb1 := Lib.hid (mul_bits HM.out (five_bits j))
      have hab : a + (3 * j + 1) ≤ 1048576 := by omega
      have S1 := Lib.hid (shl_N u (M * 5 ^ j) _ p p wr hu.out hb1.out hab HP.out)
      have HJ := Lib.hid hjq
      clear hr0 hjr hyr hjq
      go_wp2_with fail
      with_reducible (refine S1.out.mono ?_)
      rintro e w1 ⟨⟨r1, rfl, h1⟩, b1⟩
      have HB1 := Lib.hid (bthen hB.out b1)
      have H1 := Lib.hid h1
      clear h1 b1
      go_wp2_with fail
      go_ret
      exact ⟨⟨r1, rfl, H1.out.eq (by rw [HJ.out])⟩, HB1.out⟩
end Go.Proofs.YtlmeobokpibifaaGreatDoor
end

section
set_option linter.unusedSimpArgs false
set_option linter.unusedVariables false
set_option linter.unusedVariables false
namespace Go.Proofs.YtlmeobokpibifaaGreatDoor

/-- a number, times a power of 10 that is the same for all -/
def vx (M : Nat) (s f : Int) : Nat := M * 5 ^ (f + 40000).toNat * 2 ^ (s + 40000).toNat
def xcmp (M : Nat) (s f : Int) (N : Nat) (t g : Int) : Int := cmpN (vx M s f) (vx N t g)

theorem cmpN_mul (a b C : Nat) (hC : 0 < C) : cmpN (a * C) (b * C) = cmpN a b := by
  have h1 : a * C < b * C ↔ a < b := Nat.mul_lt_mul_right hC
  have h2 : b * C < a * C ↔ b < a := Nat.mul_lt_mul_right hC
  unfold cmpN
  simp only [h1, h2]
theorem cmpN_neg (a b : Nat) : cmpN b a = -cmpN a b := by
  unfold cmpN
  by_cases h1 : a < b
  · rw [if_pos h1, if_neg (by omega), if_pos h1]; rfl
  · by_cases h2 : b < a
    · rw [if_pos h2, if_neg h1, if_pos h2]
    · rw [if_neg h2, if_neg h1, if_neg h1, if_neg h2]; rfl
theorem cmpN_cases (a b : Nat) : (cmpN a b = -1 ↔ a < b) ∧ (cmpN a b = 1 ↔ b < a) ∧ (cmpN a b = 0 ↔ a = b) := by
  unfold cmpN
  by_cases h1 : a < b
  · rw [if_pos h1]
    exact ⟨⟨fun _ => h1, fun _ => rfl⟩, ⟨fun h => absurd h (by decide), fun h => by omega⟩, ⟨fun h => absurd h (by decide), fun h => by omega⟩⟩
  · by_cases h2 : b < a
    · rw [if_neg h1, if_pos h2]
      exact ⟨⟨fun h => absurd h (by decide), fun h => by omega⟩, ⟨fun _ => h2, fun _ => rfl⟩, ⟨fun h => absurd h (by decide), fun h => by omega⟩⟩
    · rw [if_neg h1, if_neg h2]
      exact ⟨⟨fun h => absurd h (by decide), fun h => by omega⟩, ⟨fun h => absurd h (by decide), fun h => by omega⟩, ⟨fun _ => by omega, fun _ => rfl⟩⟩
theorem cmpN_range (a b : Nat) : -1 ≤ cmpN a b ∧ cmpN a b ≤ 1 := by
  unfold cmpN; split
  · exact ⟨by decide, by decide⟩
  · split <;> exact ⟨by decide, by decide⟩

/-- a power with its common part -/
theorem part_pow (x : Nat) (f g : Int) (hf : -40000 ≤ f) (hg : -40000 ≤ g) : x ^ (f + 40000).toNat = x ^ (f - g).toNat * x ^ (min f g + 40000).toNat := by
  rw [← Nat.pow_add]; congr 1; omega
theorem vx_part (M : Nat) (s f t g : Int) (hs : -40000 ≤ s) (hf : -40000 ≤ f) (ht : -40000 ≤ t) (hg : -40000 ≤ g) :
    vx M s f = M * 5 ^ (f - g).toNat * 2 ^ (s - t).toNat * (5 ^ (min f g + 40000).toNat * 2 ^ (min s t + 40000).toNat) := by
  unfold vx
  rw [part_pow 5 f g hf hg, part_pow 2 s t hs ht]
  simp only [Nat.mul_assoc, Nat.mul_left_comm, Nat.mul_comm]
theorem xcmp_cross (M N : Nat) (s f t g : Int) (hs : -40000 ≤ s) (hf : -40000 ≤ f) (ht : -40000 ≤ t) (hg : -40000 ≤ g) :
    xcmp M s f N t g = cmpN (M * 5 ^ (f - g).toNat * 2 ^ (s - t).toNat) (N * 5 ^ (g - f).toNat * 2 ^ (t - s).toNat) := by
  unfold xcmp
  rw [vx_part M s f t g hs hf ht hg, vx_part N t g s f ht hg hs hf, Int.min_comm g f, Int.min_comm t s]
  exact cmpN_mul _ _ _ (Nat.mul_pos (Nat.pow_pos (by decide)) (Nat.two_pow_pos _))
theorem vx_zero (s f : Int) : vx 0 s f = 0 := by unfold vx; simp
theorem vx_pos {M : Nat} (s f : Int) (h : 0 < M) : 0 < vx M s f := Nat.mul_pos (Nat.mul_pos h (Nat.pow_pos (by decide))) (Nat.two_pow_pos _)
theorem xcmp_none (M N : Nat) (s f t g : Int) (h : M = 0 ∨ N = 0) : xcmp M s f N t g = cmpN M N := by
  unfold xcmp
  rcases h with rfl | rfl
  · rw [vx_zero]
    rcases Nat.eq_zero_or_pos N with h0 | h0
    · subst h0; rw [vx_zero]
    · have := vx_pos t g h0
      unfold cmpN
      rw [if_pos this, if_pos h0]
  · rw [vx_zero]
    rcases Nat.eq_zero_or_pos M with h0 | h0
    · subst h0; rw [vx_zero]
    · have := vx_pos s f h0
      unfold cmpN
      rw [if_neg (by omega), if_pos this, if_neg (by omega), if_pos h0]
theorem xcmp_neg (M N : Nat) (s f t g : Int) : xcmp N t g M s f = -xcmp M s f N t g := cmpN_neg _ _

/-! powers of 5 between powers of 2 -/
theorem pow_low {a p q : Nat} (hq : 0 < q) (h : 2 ^ p ≤ a ^ q) (k : Nat) : 2 ^ (p * k / q) ≤ a ^ k := by
  rcases Nat.lt_or_ge (a ^ k) (2 ^ (p * k / q)) with h0 | h0
  · exfalso
    have h1 : (a ^ k) ^ q < (2 ^ (p * k / q)) ^ q := Nat.pow_lt_pow_left h0 (by omega)
    rw [← Nat.pow_mul, ← Nat.pow_mul, Nat.mul_comm k, Nat.pow_mul] at h1
    have h2 : 2 ^ (p * k / q * q) ≤ 2 ^ (p * k) := Nat.pow_le_pow_right (by decide) (Nat.div_mul_le_self _ _)
    have h3 : (2 ^ p) ^ k ≤ (a ^ q) ^ k := Nat.pow_le_pow_left h k
    rw [← Nat.pow_mul 2 p k] at h3
    omega
  · exact h0
theorem pow_high {a p q : Nat} (hq : 0 < q) (h : a ^ q ≤ 2 ^ p) (k : Nat) : a ^ k < 2 ^ (p * k / q + 1) := by
  rcases Nat.lt_or_ge (a ^ k) (2 ^ (p * k / q + 1)) with h0 | h0
  · exact h0
  · exfalso
    have h1 : (2 ^ (p * k / q + 1)) ^ q ≤ (a ^ k) ^ q := Nat.pow_le_pow_left h0 q
    rw [← Nat.pow_mul, ← Nat.pow_mul, Nat.mul_comm k, Nat.pow_mul a q k] at h1
    have h2 : 2 ^ (p * k) < 2 ^ ((p * k / q + 1) * q) := by
      apply Nat.pow_lt_pow_right (by decide)
      have := Nat.lt_div_mul_add (a := p * k) hq
      rw [Nat.add_mul, Nat.one_mul]
      exact this
    have h3 : (a ^ q) ^ k ≤ (2 ^ p) ^ k := Nat.pow_le_pow_left h k
    rw [← Nat.pow_mul 2 p k] at h3
    omega
theorem five_one : (2 : Nat) ^ 339 ≤ 5 ^ 146 := Nat.le_of_ble_eq_true (by kernel_rfl)
theorem five_two : (5 : Nat) ^ 643 ≤ 2 ^ 1493 := Nat.le_of_ble_eq_true (by kernel_rfl)
theorem five_low (k : Nat) : 2 ^ (339 * k / 146) ≤ 5 ^ k := pow_low (by decide) five_one k
theorem five_high (k : Nat) : 5 ^ k < 2 ^ (1493 * k / 643 + 1) := pow_high (by decide) five_two k
/-- how exact.size reckons a power of 5 -/
def d5 (f : Int) : Int := (f * 2321928095).tdiv 1000000000
theorem d5_nat (k : Nat) : d5 k = ((k * 2321928095 / 1000000000 : Nat) : Int) := by
  unfold d5
  rw [Int.tdiv_eq_ediv_of_nonneg (by omega)]
  omega
theorem d5_neg (f : Int) : d5 (-f) = -d5 f := by
  unfold d5
  rw [Int.neg_mul, Int.neg_tdiv]
theorem d5_low {k e : Nat} (hk : k ≤ 30000) (h : (e : Int) ≤ d5 k - 1) : 2 ^ e ≤ 5 ^ k := by
  rw [d5_nat] at h
  exact Nat.le_trans (Nat.pow_le_pow_right (by decide) (by omega)) (five_low k)
theorem d5_high {k e : Nat} (hk : k ≤ 30000) (h : d5 k + 2 ≤ (e : Int)) : 5 ^ k < 2 ^ e := by
  rw [d5_nat] at h
  exact Nat.lt_of_lt_of_le (five_high k) (Nat.pow_le_pow_right (by decide) (by omega))
theorem d5_add {f g : Int} (hf : -30000 ≤ f ∧ f ≤ 30000) (hg : -30000 ≤ g ∧ g ≤ 30000) : d5 (f - g) - (d5 f - d5 g) ≤ 1 ∧ -1 ≤ d5 (f - g) - (d5 f - d5 g) := by
  have key : ∀ h : Int, -60000 ≤ h → h ≤ 60000 → (0 ≤ h ∧ d5 h = h * 2321928095 / 1000000000) ∨ (h < 0 ∧ d5 h = -(-h * 2321928095 / 1000000000)) := by
    intro h _ _
    unfold d5
    rcases Int.lt_or_le h 0 with h0 | h0
    · right
      refine ⟨h0, ?_⟩
      have e : h * 2321928095 = -(-h * 2321928095) := by omega
      rw [e, Int.neg_tdiv, Int.tdiv_eq_ediv_of_nonneg (by omega)]
    · left
      exact ⟨h0, by rw [Int.tdiv_eq_ediv_of_nonneg (by omega)]⟩
  rcases key f (by omega) (by omega) with ⟨a1, a2⟩ | ⟨a1, a2⟩ <;> rcases key g (by omega) (by omega) with ⟨b1, b2⟩ | ⟨b1, b2⟩ <;> rcases key (f - g) (by omega) (by omega) with ⟨c1, c2⟩ | ⟨c1, c2⟩ <;> rw [a2, b2, c2] <;> omega

theorem bitsN_low {M : Nat} (h : 0 < M) : 2 ^ (bitsN M - 1) ≤ M ∧ M < 2 ^ bitsN M ∧ 1 ≤ bitsN M := by
  unfold bitsN
  rw [if_neg (by omega), Nat.add_sub_cancel]
  exact ⟨Nat.log2_self_le (by omega), Nat.lt_log2_self, by omega⟩
theorem far_up {M N x A b c d e : Nat} (h1 : 2 ^ A ≤ M) (h2 : N < 2 ^ b) (hx : 2 ^ e ≤ x) (h : b + d ≤ A + e + c) : N * 2 ^ d < M * x * 2 ^ c := by
  have a1 : N * 2 ^ d < 2 ^ (b + d) := by
    rw [Nat.pow_add]; exact Nat.mul_lt_mul_of_pos_right h2 (Nat.two_pow_pos _)
  have a2 : 2 ^ (b + d) ≤ 2 ^ (A + e + c) := Nat.pow_le_pow_right (by decide) h
  have a3 : 2 ^ (A + e + c) ≤ M * x * 2 ^ c := by
    rw [Nat.pow_add, Nat.pow_add]; exact Nat.mul_le_mul_right _ (Nat.mul_le_mul h1 hx)
  exact Nat.lt_of_lt_of_le a1 (Nat.le_trans a2 a3)
theorem far_dn {M N x A b c d e : Nat} (h1 : 2 ^ A ≤ M) (h2 : N < 2 ^ b) (hx : x < 2 ^ e) (h : b + e + d ≤ A + c) : N * x * 2 ^ d < M * 2 ^ c := by
  have a1 : N * x * 2 ^ d < 2 ^ (b + e + d) := by
    rw [Nat.pow_add, Nat.pow_add]; exact Nat.mul_lt_mul_of_pos_right (Nat.mul_lt_mul'' h2 hx) (Nat.two_pow_pos _)
  have a2 : 2 ^ (b + e + d) ≤ 2 ^ (A + c) := Nat.pow_le_pow_right (by decide) h
  have a3 : 2 ^ (A + c) ≤ M * 2 ^ c := by
    rw [Nat.pow_add]; exact Nat.mul_le_mul_right _ h1
  exact Nat.lt_of_lt_of_le a1 (Nat.le_trans a2 a3)
theorem five_floor {k : Nat} (hk : k ≤ 30000) : ∃ e : Nat, 2 ^ e ≤ 5 ^ k ∧ d5 k - 1 ≤ (e : Int) := by
  rcases Int.le_total 0 (d5 k - 1) with h0 | h0
  · obtain ⟨e, he⟩ : ∃ e : Nat, d5 k - 1 = (e : Int) := ⟨(d5 k - 1).toNat, (Int.toNat_of_nonneg h0).symm⟩
    exact ⟨e, d5_low hk (Int.le_of_eq he.symm), Int.le_of_eq he⟩
  · exact ⟨0, Nat.pow_pos (by decide), h0⟩
theorem five_roof {k : Nat} (hk : k ≤ 30000) : ∃ e : Nat, 5 ^ k < 2 ^ e ∧ (e : Int) = d5 k + 2 := by
  have h0 : 0 ≤ d5 k + 2 := by rw [d5_nat]; omega
  obtain ⟨e, he⟩ : ∃ e : Nat, d5 k + 2 = (e : Int) := ⟨(d5 k + 2).toNat, (Int.toNat_of_nonneg h0).symm⟩
  exact ⟨e, d5_high hk (Int.le_of_eq he), he.symm⟩
theorem far_exp1 {a b p q m n e : Nat} {s t x y z : Int} (hp : p = (s - t).toNat) (hq : q = (t - s).toNat) (hm : 1 ≤ m) (h : 6 < ((m : Int) + s + x) - ((n : Int) + t + y)) (h1 : z - (x - y) ≤ 1) (h2 : -1 ≤ z - (x - y)) (he : z - 1 ≤ (e : Int)) : n + q ≤ m - 1 + e + p := by omega
theorem far_exp2 {a b p q m n e : Nat} {s t x y z : Int} (hp : p = (s - t).toNat) (hq : q = (t - s).toNat) (hm : 1 ≤ m) (h : 6 < ((m : Int) + s + x) - ((n : Int) + t + y)) (h1 : -z - (x - y) ≤ 1) (h2 : -1 ≤ -z - (x - y)) (he : (e : Int) = z + 2) : n + e + q ≤ m - 1 + p := by omega
/-- far apart: the greater size has the greater number -/
theorem far_more {M N : Nat} {s f t g : Int} (hM : 0 < M) (hN : 0 < N) (hs : -10000 ≤ s ∧ s ≤ 10000) (hf : -10000 ≤ f ∧ f ≤ 10000) (ht : -10000 ≤ t ∧ t ≤ 10000) (hg : -10000 ≤ g ∧ g ≤ 10000)
    (h : 6 < ((bitsN M : Int) + s + d5 f) - ((bitsN N : Int) + t + d5 g)) : xcmp M s f N t g = 1 := by
  rw [xcmp_cross M N s f t g (by omega) (by omega) (by omega) (by omega)]
  apply (cmpN_cases _ _).2.1.2
  obtain ⟨x1, x2⟩ := d5_add (f := f) (g := g) (by omega) (by omega)
  obtain ⟨m1, m2, m3⟩ := bitsN_low hM
  obtain ⟨n1, n2, n3⟩ := bitsN_low hN
  rcases Int.le_total 0 (f - g) with hh | hh
  · obtain ⟨k, hk⟩ : ∃ k : Nat, f - g = (k : Int) := ⟨(f - g).toNat, (Int.toNat_of_nonneg hh).symm⟩
    have hk1 : k ≤ 30000 := by clear m1 m2 n1 n2; omega
    have hk0 : (g - f).toNat = 0 := by clear m1 m2 n1 n2; omega
    rw [hk, hk0, Int.toNat_natCast, Nat.pow_zero, Nat.mul_one]
    rw [hk] at x1 x2
    obtain ⟨e, he, hle⟩ := five_floor hk1
    exact far_up m1 n2 he (far_exp1 (a := 0) (b := 0) rfl rfl m3 h x1 x2 hle)
  · obtain ⟨k, hk⟩ : ∃ k : Nat, g - f = (k : Int) := ⟨(g - f).toNat, (Int.toNat_of_nonneg (by omega)).symm⟩
    have hk1 : k ≤ 30000 := by clear m1 m2 n1 n2; omega
    have hk0 : (f - g).toNat = 0 := by clear m1 m2 n1 n2; omega
    have hfg : f - g = -(k : Int) := by clear m1 m2 n1 n2; omega
    rw [hk, hk0, Int.toNat_natCast, Nat.pow_zero, Nat.mul_one]
    rw [hfg, d5_neg] at x1 x2
    obtain ⟨e, he, hle⟩ := five_roof hk1
    exact far_dn m1 n2 he (far_exp2 (a := 0) (b := 0) rfl rfl m3 h x1 x2 hle)
theorem far_less {M N : Nat} {s f t g : Int} (hM : 0 < M) (hN : 0 < N) (hs : -10000 ≤ s ∧ s ≤ 10000) (hf : -10000 ≤ f ∧ f ≤ 10000) (ht : -10000 ≤ t ∧ t ≤ 10000) (hg : -10000 ≤ g ∧ g ≤ 10000)
    (h : ((bitsN M : Int) + s + d5 f) - ((bitsN N : Int) + t + d5 g) < -6) : xcmp M s f N t g = -1 := by
  have := far_more hN hM ht hg hs hf (by omega)
  rw [xcmp_neg] at this
  exact Int.neg_inj.1 this
end Go.Proofs.YtlmeobokpibifaaGreatDoor
end

section
set_option linter.unusedSimpArgs false
set_option linter.unusedVariables false
set_option linter.unusedVariables false
namespace Go.Proofs.YtlmeobokpibifaaGreatDoor

def cmpI (a b : Int) : Int := if a < b then -1 else if b < a then 1 else 0
def sx (neg : Bool) (M : Nat) (s f : Int) : Int := if neg = true then -(vx M s f : Int) else (vx M s f : Int)
theorem cmpI_cases (a b : Int) : (cmpI a b = -1 ∧ a < b) ∨ (cmpI a b = 1 ∧ b < a) ∨ (cmpI a b = 0 ∧ a = b) := by
  unfold cmpI
  by_cases h1 : a < b
  · rw [if_pos h1]; exact Or.inl ⟨rfl, h1⟩
  · by_cases h2 : b < a
    · rw [if_neg h1, if_pos h2]; exact Or.inr (Or.inl ⟨rfl, h2⟩)
    · rw [if_neg h1, if_neg h2]; exact Or.inr (Or.inr ⟨rfl, by omega⟩)
theorem cmpN_cases3 (a b : Nat) : (cmpN a b = -1 ∧ a < b) ∨ (cmpN a b = 1 ∧ b < a) ∨ (cmpN a b = 0 ∧ a = b) := by
  unfold cmpN
  by_cases h1 : a < b
  · rw [if_pos h1]; exact Or.inl ⟨rfl, h1⟩
  · by_cases h2 : b < a
    · rw [if_neg h1, if_pos h2]; exact Or.inr (Or.inl ⟨rfl, h2⟩)
    · rw [if_neg h1, if_neg h2]; exact Or.inr (Or.inr ⟨rfl, by omega⟩)
theorem vx_pos_iff (M : Nat) (s f : Int) : 0 < vx M s f ↔ 0 < M := by
  constructor
  · intro h
    rcases Nat.eq_zero_or_pos M with h0 | h0
    · rw [h0, vx_zero] at h; exact absurd h (Nat.lt_irrefl _)
    · exact h0
  · exact vx_pos s f
/-- does a number lie below 0? -/
def under (neg : Bool) (M : Nat) : Bool := neg && decide (0 < M)
theorem sx_under (neg : Bool) (M : Nat) (s f : Int) : sx neg M s f = if under neg M = true then -(vx M s f : Int) else (vx M s f : Int) := by
  unfold sx under
  cases neg
  · simp
  · rcases Nat.eq_zero_or_pos M with h0 | h0
    · subst h0; simp [vx_zero]
    · simp [h0]
theorem under_pos {neg : Bool} {M : Nat} (h : under neg M = true) (s f : Int) : 0 < vx M s f := by
  unfold under at h; simp at h; exact vx_pos s f h.2
theorem signed_diff {na nb : Bool} {M N : Nat} (s f t g : Int) (h : under na M ≠ under nb N) : cmpI (sx na M s f) (sx nb N t g) = if under na M = true then -1 else 1 := by
  rw [sx_under, sx_under]
  rcases cmpI_cases (if under na M = true then -(vx M s f : Int) else (vx M s f : Int)) (if under nb N = true then -(vx N t g : Int) else (vx N t g : Int)) with ⟨e, hh⟩ | ⟨e, hh⟩ | ⟨e, hh⟩ <;> rw [e] <;>
  (cases ha : under na M <;> cases hb : under nb N <;> simp only [ha, hb] at h hh ⊢ <;> first | exact absurd rfl h | rfl | skip)
  all_goals (first | (have := under_pos ha s f; simp at hh; omega) | (have := under_pos hb t g; simp at hh; omega))
theorem signed_below {na nb : Bool} {M N : Nat} (s f t g : Int) (ha : under na M = true) (hb : under nb N = true) : cmpI (sx na M s f) (sx nb N t g) = xcmp N t g M s f := by
  rw [sx_under, sx_under, if_pos ha, if_pos hb]
  unfold xcmp
  rcases cmpI_cases (-(vx M s f : Int)) (-(vx N t g : Int)) with ⟨e, hh⟩ | ⟨e, hh⟩ | ⟨e, hh⟩ <;> rcases cmpN_cases3 (vx N t g) (vx M s f) with ⟨e2, hh2⟩ | ⟨e2, hh2⟩ | ⟨e2, hh2⟩ <;> rw [e, e2] <;> omega
theorem signed_above {na nb : Bool} {M N : Nat} (s f t g : Int) (ha : under na M = false) (hb : under nb N = false) : cmpI (sx na M s f) (sx nb N t g) = xcmp M s f N t g := by
  rw [sx_under, sx_under, if_neg (by rw [ha]; decide), if_neg (by rw [hb]; decide)]
  unfold xcmp
  rcases cmpI_cases (vx M s f : Int) (vx N t g : Int) with ⟨e, hh⟩ | ⟨e, hh⟩ | ⟨e, hh⟩ <;> rcases cmpN_cases3 (vx M s f) (vx N t g) with ⟨e2, hh2⟩ | ⟨e2, hh2⟩ | ⟨e2, hh2⟩ <;> rw [e, e2] <;> omega

/-! the logarithm -/
theorem d5_form (h : Int) : (0 ≤ h ∧ d5 h = h * 2321928095 / 1000000000) ∨ (h < 0 ∧ d5 h = -(-h * 2321928095 / 1000000000)) := by
  unfold d5
  rcases Int.lt_or_le h 0 with h0 | h0
  · right
    refine ⟨h0, ?_⟩
    have e : h * 2321928095 = -(-h * 2321928095) := by omega
    rw [e, Int.neg_tdiv, Int.tdiv_eq_ediv_of_nonneg (by omega)]
  · left
    exact ⟨h0, by rw [Int.tdiv_eq_ediv_of_nonneg (by omega)]⟩
theorem tdiv_form (h : Int) : (0 ≤ h ∧ h.tdiv 100000 = h / 100000) ∨ (h < 0 ∧ h.tdiv 100000 = -(-h / 100000)) := by
  rcases Int.lt_or_le h 0 with h0 | h0
  · right
    refine ⟨h0, ?_⟩
    have e : h = -(-h) := by omega
    rw [e, Int.neg_tdiv, Int.tdiv_eq_ediv_of_nonneg (by omega), Int.neg_neg]
  · left
    exact ⟨h0, by rw [Int.tdiv_eq_ediv_of_nonneg (by omega)]⟩
/-- where the search for the logarithm begins -/
def lgTop (z : Int) : Int := if 0 ≤ ((z + 6) * 30103).tdiv 100000 then ((z + 6) * 30103).tdiv 100000 + 1 else ((z + 6) * 30103).tdiv 100000
theorem lgTop_over {z : Int} (h : -60000 ≤ z ∧ z ≤ 60000) : z - (1 + (lgTop z + 1) + d5 (lgTop z + 1)) < -6 ∧ -19000 ≤ lgTop z ∧ lgTop z ≤ 19000 := by
  unfold lgTop
  rcases tdiv_form ((z + 6) * 30103) with ⟨h1, h2⟩ | ⟨h1, h2⟩ <;> rw [h2] <;> split <;>
  (rename_i hq
   generalize hk : ((_ : Int) + 1) = k
   rcases d5_form k with ⟨h3, h4⟩ | ⟨h3, h4⟩ <;> rw [h4] <;> omega)
theorem bitsN_one : bitsN 1 = 1 := by decide
/-- 10 to a power -/
def tenx (k : Int) : Nat := vx 1 k k
theorem tenx_succ {k : Int} (h : -40000 ≤ k) : tenx (k + 1) = 10 * tenx k := by
  unfold tenx vx
  rw [show (k + 1 + 40000).toNat = (k + 40000).toNat + 1 by omega, Nat.pow_succ, Nat.pow_succ]
  generalize 5 ^ (k + 40000).toNat = a
  generalize 2 ^ (k + 40000).toNat = b
  rw [Nat.one_mul, Nat.one_mul]
  rw [Nat.mul_mul_mul_comm, Nat.mul_comm]
theorem tenx_pos (k : Int) : 0 < tenx k := vx_pos k k (by decide)
theorem tenx_mono {j k : Int} (hj : -40000 ≤ j) (h : j ≤ k) : tenx j ≤ tenx k := by
  obtain ⟨n, rfl⟩ : ∃ n : Nat, k = j + n := ⟨(k - j).toNat, by omega⟩
  clear h
  induction n with
  | zero => simp
  | succ n ih =>
    rw [show j + ((n + 1 : Nat) : Int) = (j + n) + 1 by omega, tenx_succ (by omega)]
    omega
theorem vx_ten (q : Nat) (k : Int) : vx q k k = q * tenx k := by unfold tenx vx; rw [Nat.one_mul, Nat.mul_assoc]
/-- the greatest power of 10 that is not above a number -/
def Lg (M : Nat) (s f k : Int) : Prop := -19000 ≤ k ∧ k ≤ 19000 ∧ ((M = 0 ∧ k = 0) ∨ (0 < M ∧ tenx k ≤ vx M s f ∧ vx M s f < tenx (k + 1)))
theorem Lg.uniq {M N : Nat} {s f t g j k : Int} (h : Lg M s f j) (h' : Lg N t g k) (e : vx M s f = vx N t g) (e0 : M = 0 ↔ N = 0) : j = k := by
  obtain ⟨a1, a2, a⟩ := h
  obtain ⟨b1, b2, b⟩ := h'
  rcases a with ⟨m0, rfl⟩ | ⟨m0, x1, x2⟩
  · rcases b with ⟨_, rfl⟩ | ⟨n0, _, _⟩
    · rfl
    · have := e0.1 m0; omega
  · rcases b with ⟨n0, rfl⟩ | ⟨n0, y1, y2⟩
    · have := e0.2 n0; omega
    · rw [← e] at y1 y2
      rcases Int.lt_trichotomy j k with hlt | heq | hgt
      · have := tenx_mono (j := j + 1) (k := k) (by omega) (by omega); omega
      · exact heq
      · have := tenx_mono (j := k + 1) (k := j) (by omega) (by omega); omega
theorem lg_first {M : Nat} {s f : Int} (hM : 0 < M) (hs : -6000 ≤ s ∧ s ≤ 6000) (hf : -6000 ≤ f ∧ f ≤ 6000) (hb : bitsN M ≤ 9000) : vx M s f < tenx (lgTop ((bitsN M : Int) + s + d5 f) + 1) ∧ -9600 ≤ lgTop ((bitsN M : Int) + s + d5 f) + 1 ∧ lgTop ((bitsN M : Int) + s + d5 f) + 1 ≤ 9600 := by
  have hd : -14000 ≤ d5 f ∧ d5 f ≤ 14000 := by
    rcases d5_form f with ⟨h3, h4⟩ | ⟨h3, h4⟩ <;> rw [h4] <;> omega
  obtain ⟨z, hz⟩ : ∃ z, (bitsN M : Int) + s + d5 f = z := ⟨_, rfl⟩
  have hz1 : -30000 ≤ z ∧ z ≤ 30000 := by omega
  have ht : -9500 ≤ lgTop z ∧ lgTop z ≤ 9500 := by
    unfold lgTop
    rcases tdiv_form ((z + 6) * 30103) with ⟨h1, h2⟩ | ⟨h1, h2⟩ <;> rw [h2] <;> split <;> omega
  have h1 := (lgTop_over (z := z) (by omega)).1
  rw [hz]
  refine ⟨?_, by omega, by omega⟩
  have := far_less (M := M) (N := 1) (s := s) (f := f) (t := lgTop z + 1) (g := lgTop z + 1) hM (by decide) (by omega) (by omega) (by omega) (by omega) (by rw [hz, bitsN_one]; omega)
  exact (cmpN_cases _ _).1.1 this
theorem lg_low {M : Nat} {s f k : Int} (hM : 0 < M) (hs : -6000 ≤ s ∧ s ≤ 6000) (hf : -6000 ≤ f ∧ f ≤ 6000) (hk : -9800 ≤ k) (h : vx M s f < tenx k) : -9700 ≤ k := by
  rcases Int.lt_or_le k (-9700) with h0 | h0
  · exfalso
    have hd : -14000 ≤ d5 f ∧ d5 f ≤ 14000 := by
      rcases d5_form f with ⟨h3, h4⟩ | ⟨h3, h4⟩ <;> rw [h4] <;> omega
    have hd2 : d5 k ≤ -22000 := by
      rcases d5_form k with ⟨h3, h4⟩ | ⟨h3, h4⟩ <;> rw [h4] <;> omega
    have := far_more (M := M) (N := 1) (s := s) (f := f) (t := k) (g := k) hM (by decide) (by omega) (by omega) (by omega) (by omega) (by rw [bitsN_one]; omega)
    have := (cmpN_cases _ _).2.1.1 this
    unfold tenx at h
    omega
  · exact h0

/-! how often -/
def restN (X T : Nat) : Int := if X % T = 0 then 0 else 2 + cmpN (2 * (X % T)) T
theorem floor_parts (M : Nat) (s f k : Int) (hs : -20000 ≤ s) (hf : -20000 ≤ f) (hk : -20000 ≤ k) : ∃ C, 0 < C ∧ vx M s f = M * 5 ^ (f - k).toNat * 2 ^ (s - k).toNat * C ∧ tenx k = 1 * 5 ^ (k - f).toNat * 2 ^ (k - s).toNat * C := by
  refine ⟨5 ^ (min f k + 40000).toNat * 2 ^ (min s k + 40000).toNat, Nat.mul_pos (Nat.pow_pos (by decide)) (Nat.two_pow_pos _), vx_part M s f k k (by omega) (by omega) (by omega) (by omega), ?_⟩
  unfold tenx
  rw [vx_part 1 k k s f (by omega) (by omega) (by omega) (by omega), Int.min_comm k f, Int.min_comm k s]
theorem restN_part (P Q C : Nat) (hC : 0 < C) : restN (P * C) (Q * C) = restN P Q ∧ P * C / (Q * C) = P / Q := by
  refine ⟨?_, Nat.mul_div_mul_right _ _ hC⟩
  unfold restN
  rw [Nat.mul_mod_mul_right, ← Nat.mul_assoc, cmpN_mul _ _ _ hC]
  have : P % Q * C = 0 ↔ P % Q = 0 := by
    constructor
    · intro h
      rcases Nat.mul_eq_zero.1 h with h | h
      · exact h
      · omega
    · intro h; rw [h, Nat.zero_mul]
  simp only [this]

/-! what has no twos and fives -/
structure Bare (M : Nat) (s f : Int) (N : Nat) (t g : Int) : Prop where
  two : N % 2 = 1
  five : N % 5 ≠ 0
  same : ∃ p q : Nat, M = N * 2 ^ p * 5 ^ q ∧ t = s + p ∧ g = f + q
end Go.Proofs.YtlmeobokpibifaaGreatDoor
end

/- A slice that is a natural number; package nat's functions in these words; Pow. Conditions: as each theorem names them. -/
import Derived.Test.YteiajccjlbghoaaMul
import Derived.Test.YteiajccjlbghoaaShr
set_option linter.unusedVariables false
namespace Go.Proofs.Yteiajccjlbghoaa
open Go.RowKit

/-- v is the natural number N, without words of 0 at its end -/
def IsN (w : World) (v : Value) (N : Nat) : Prop := ∃ A n c F, v = .slice A n c ∧ Rd w A n c F ∧ Nm n F ∧ S F n = N
section
variable {w w' : World} {v : Value} {N : Nat}
theorem IsN.below (h : IsN w v N) (hb : Below w.heap.size w w') : IsN w' v N := by
  obtain ⟨A, n, c, F, e, hr, hn, hs⟩ := h
  exact ⟨A, n, c, F, e, hr.below hb, hn, hs⟩
theorem IsN.alloc (h : IsN w v N) (o : Obj) : IsN (w.alloc o) v N := h.below ((Below.refl _ _).alloc (Nat.le_refl _) _)
theorem IsN.drewN (h : IsN w v N) (k : Nat) : IsN (w.drewN k) v N := h
theorem IsN.eq {M : Nat} (h : IsN w v N) (e : N = M) : IsN w v M := e ▸ h
end
theorem bthen {w a b : World} (h : Below w.heap.size w a) (k : Below a.heap.size a b) : Below w.heap.size w b := h.trans (k.mono h.size)
theorem bgrow {w a : World} (h : Below w.heap.size w a) (o : Obj) : Below w.heap.size w (a.alloc o) := h.alloc h.size o
theorem bdrewN {B : Nat} {a w : World} (h : Below B a w) (n : Nat) : Below B a (w.drewN n) := ⟨h.os, h.tape, h.output, h.size, h.block⟩

theorem len_of_bits {n a N : Nat} {F : Nat → Nat} (h : Nm n F) (hs : S F n = N) (hN : N < 2 ^ a) (ha : a ≤ 1048576) : n ≤ 1048576 := by
  have : N < Wd ^ a := Nat.lt_of_lt_of_le hN (Nat.pow_le_pow_left (by decide) a)
  exact Nat.le_trans (nm_len h hs this) ha

theorem of_N (x : Nat) (hx : x < 18446744073709551616) (w : World) :
    Calls Try.prog 38 #[.int .u64 x] w fun e w' => (∃ r, e = .returned r ∧ IsN w' r x) ∧ Below w.heap.size w w' := by
  refine (of_any x hx w).mono ?_
  rintro e w' ⟨⟨A, c, m, hm, hr, rfl⟩, hb⟩
  refine ⟨⟨_, rfl, A, m, c, _, rfl, hr, hm.nm, ?_⟩, hb⟩
  rw [hm.sum, S_succ, S_zero]; simp
theorem of_one (w : World) :
    Calls Try.prog 38 #[.int .u64 1] w fun e w' => (∃ r, e = .returned r ∧ IsN w' r 1) ∧ Below w.heap.size w w' := of_N 1 (by decide) w
theorem norm_N (A : Option Addr) (n c : Nat) (F : Nat → Nat) (w : World) (h : Rd w A n c F) :
    Calls Try.prog 30 #[.slice A n c] w fun e w' => (∃ r, e = .returned r ∧ IsN w' r (S F n)) ∧ Below w.heap.size w w' := by
  refine (norm_any A n c F w h).mono ?_
  rintro e w' ⟨⟨A', c', m, hm, hr, rfl, _⟩, hb⟩
  exact ⟨⟨_, rfl, A', m, c', _, rfl, hr, hm.nm, hm.sum⟩, hb⟩
theorem bits_N (v : Value) (N k : Nat) (w : World) (h : IsN w v N) (hk : bitsN N = k) :
    Calls Try.prog 27 #[v] w fun e w' => e = .returned (.int .i64 k) ∧ w = w' := by
  obtain ⟨A, n, c, F, rfl, hr, hn, rfl⟩ := h
  exact bits_any A n c F w hr k hk
theorem cmp_N (u v : Value) (M N : Nat) (r : Int) (w : World) (h1 : IsN w u M) (h2 : IsN w v N) (hr : cmpN M N = r) :
    Calls Try.prog 25 #[u, v] w fun e w' => e = .returned (.int .i64 r) ∧ ∃ k, w' = w.drewN k := by
  obtain ⟨A, n, c, F, rfl, hA, hn, rfl⟩ := h1
  obtain ⟨B, m, d, G, rfl, hB, hm, rfl⟩ := h2
  exact cmp_any A B n c m d F G w hA hB r hr
theorem add_N (u v : Value) (M N a : Nat) (w : World) (h1 : IsN w u M) (h2 : IsN w v N) (hM : M < 2 ^ a) (hN : N < 2 ^ a) (ha : a ≤ 1048576) :
    Calls Try.prog 36 #[u, v] w fun e w' => (∃ r, e = .returned r ∧ IsN w' r (M + N)) ∧ Below w.heap.size w w' := by
  obtain ⟨A, n, c, F, rfl, hA, hn, rfl⟩ := h1
  obtain ⟨B, m, d, G, rfl, hB, hm, rfl⟩ := h2
  refine (add_any A B n c m d F G w hA hB (len_of_bits hn rfl hM ha) (len_of_bits hm rfl hN ha)).mono ?_
  rintro e w' ⟨⟨O, k, rfl, hr, ho, hs⟩, hb⟩
  exact ⟨⟨_, rfl, _, _, _, _, rfl, hr, ho, hs⟩, hb⟩
theorem mul_N (u v : Value) (M N a b : Nat) (w : World) (h1 : IsN w u M) (h2 : IsN w v N) (hM : M < 2 ^ a) (hN : N < 2 ^ b) (ha : a ≤ 1048576) (hb : b ≤ 1048576) :
    Calls Try.prog 31 #[u, v] w fun e w' => (∃ r, e = .returned r ∧ IsN w' r (M * N)) ∧ Below w.heap.size w w' := by
  obtain ⟨A, n, c, F, rfl, hA, hn, rfl⟩ := h1
  obtain ⟨B, m, d, G, rfl, hB, hm, rfl⟩ := h2
  refine (mul_any A B n c m d F G w hA hB (len_of_bits hn rfl hM ha) (len_of_bits hm rfl hN hb)).mono ?_
  rintro e w' ⟨⟨O, k, rfl, hr, ho, hs⟩, hb⟩
  exact ⟨⟨_, rfl, _, _, _, _, rfl, hr, ho, hs⟩, hb⟩
theorem shl_N (u : Value) (M a sh : Nat) (i : Int) (w : World) (h1 : IsN w u M) (hM : M < 2 ^ a) (ha : a ≤ 1048576) (hsh : min (max i 0) 131072 = (sh : Int)) :
    Calls Try.prog 39 #[u, .int .i64 i] w fun e w' => (∃ r, e = .returned r ∧ IsN w' r (M * 2 ^ sh)) ∧ Below w.heap.size w w' := by
  obtain ⟨A, n, c, F, rfl, hA, hn, rfl⟩ := h1
  refine (shl_any A n c F i sh w hA (len_of_bits hn rfl hM ha) hsh).mono ?_
  rintro e w' ⟨⟨O, k, rfl, hr, ho, hs⟩, hb⟩
  exact ⟨⟨_, rfl, _, _, _, _, rfl, hr, ho, hs⟩, hb⟩
theorem shr_N (u : Value) (M a sh : Nat) (i : Int) (w : World) (h1 : IsN w u M) (hM : M < 2 ^ a) (ha : a ≤ 1048576) (hsh : min (max i 0) 131072 = (sh : Int)) :
    Calls Try.prog 58 #[u, .int .i64 i] w fun e w' => (∃ r, e = .returned r ∧ IsN w' r (M / 2 ^ sh)) ∧ Below w.heap.size w w' := by
  obtain ⟨A, n, c, F, rfl, hA, hn, rfl⟩ := h1
  refine (shr_any A n c F i sh w hA (len_of_bits hn rfl hM ha) hsh).mono ?_
  rintro e w' ⟨⟨O, k, rfl, hr, ho, hs⟩, hb⟩
  exact ⟨⟨_, rfl, _, _, _, _, rfl, hr, ho, hs⟩, hb⟩

theorem pow_bits {x p k : Nat} (hx : x < 2 ^ 64) (hp : p ≤ k) : x ^ p < 2 ^ (64 * k + 1) := by
  have h1 : x ^ p ≤ (2 ^ 64) ^ p := Nat.pow_le_pow_left (by omega) p
  rw [← Nat.pow_mul] at h1
  have h2 : 2 ^ (64 * p) ≤ 2 ^ (64 * k) := Nat.pow_le_pow_right (by decide) (by omega)
  have h3 : 2 ^ (64 * k + 1) = 2 * 2 ^ (64 * k) := by rw [Nat.pow_succ, Nat.mul_comm]
  have h4 := Nat.two_pow_pos (64 * k)
  omega

theorem pow_N (x k : Nat) (i : Int) (w : World) (hx : x < 18446744073709551616) (hk : min (max i 0) 10000 = (k : Int)) :
    Calls Try.prog 32 #[.int .u64 x, .int .i64 i] w fun e w' => (∃ r, e = .returned r ∧ IsN w' r (x ^ k)) ∧ Below w.heap.size w w' := by
  have hk1 : k ≤ 10000 := by omega
  have HX := Lib.hid (show x < 2 ^ 64 from hx)
  go_enter Try.func32, Try.ntmps32
  go_wp2_with fail
  with_reducible (refine (of_one _).mono ?_)
  rintro e w1 ⟨⟨r1, rfl, h1⟩, b1⟩
  have H1 := Lib.hid h1
  have B1 := Lib.hid b1
  clear h1 b1
  go_wp2_with fail
  with_reducible (refine (of_N x hx _).mono ?_)
  rintro e w2 ⟨⟨r2, rfl, h2⟩, b2⟩
  have H2 := Lib.hid h2
  have H1' := Lib.hid (H1.out.below b2)
  have B2 := Lib.hid (bthen B1.out b2)
  clear h2 b2
  go_wp2_with fail
  go_loopw [1, 5, 6] (fun i u v wr => ∃ (t p q : Nat) (U V : Value), U = u ∧ V = v ∧ t ≤ k ∧ i = .int .i64 t ∧ p ≤ k ∧ q ≤ max k 1 ∧ Hid (0 < t → p + q * t = k) ∧ Hid (t = 0 → p = k) ∧ Hid (IsN wr U (x ^ p)) ∧ Hid (IsN wr V (x ^ q)) ∧ Hid (Below w.heap.size w wr)) (fun i _ _ _ => (intOf i).toNat)
  case atStart => exact ⟨k, 0, 1, _, _, rfl, rfl, Nat.le_refl _, rfl, Nat.zero_le _, by omega, Lib.hid (fun _ => by omega), Lib.hid (fun h => by omega), H1', Lib.hid (by rw [Nat.pow_one]; exact H2.out), B2⟩
  case round =>
    obtain ⟨t, p, q, u, v, rfl, rfl, ht, rfl, hp, hq, hr1, hr2, hu, hv, hB⟩ := hrel
    rcases Nat.eq_zero_or_pos t with h0 | h0
    · subst h0
      have hpk := hr2.out rfl
      have u1 : decide ((0 : Int) < ((0 : Nat) : Int)) = false := by decide
      have HP := Lib.hid hpk
      clear hpk
      go_wp2_with fail
      go_ret
      exact ⟨⟨u, rfl, hu.out.eq (by rw [HP.out])⟩, hB.out⟩
    · have u1 : decide ((0 : Int) < (t : Int)) = true := decide_eq_true (by omega)
      have hpq := hr1.out h0
      have hqt : q * 1 ≤ q * t := Nat.mul_le_mul_left _ h0
      have bp := Lib.hid (pow_bits (k := 10000) HX.out (show p ≤ 10000 by omega))
      have bq := Lib.hid (pow_bits (k := 10000) HX.out (show q ≤ 10000 by omega))
      obtain ⟨t2, ht2⟩ : ∃ t2, t / 2 = t2 := ⟨_, rfl⟩
      have hti : (t : Int) / 2 = (t2 : Int) := by omega
      have HT2 := Lib.hid ht2
      have HPQ := Lib.hid hpq
      clear hpq hqt ht2
      by_cases hodd : t % 2 = 1
      · have u2 : ((t : Int) % 2 == 1) = true := by simp; omega
        have HO := Lib.hid hodd
        clear hodd
        have M1 := Lib.hid (fun wr hu hv => mul_N u v (x ^ p) (x ^ q) _ _ wr hu hv bp.out bq.out (by decide) (by decide))
        go_wp2_with fail
        with_reducible (refine (M1.out _ hu.out hv.out).mono ?_)
        rintro e w1 ⟨⟨r, rfl, hr⟩, b1⟩
        have HR := Lib.hid hr
        have HV := Lib.hid (hv.out.below b1)
        have HB := Lib.hid (bthen hB.out b1)
        clear hr b1
        by_cases h1 : 1 < t
        · have u3 : decide ((1 : Int) < (t : Int)) = true := decide_eq_true (by omega)
          have u3' : decide (1 < t) = true := decide_eq_true h1
          have M2 := Lib.hid (fun wr hv => mul_N v v (x ^ q) (x ^ q) _ _ wr hv hv bq.out bq.out (by decide) (by decide))
          go_wp2_with fail
          with_reducible (refine (M2.out _ HV.out).mono ?_)
          rintro e w2 ⟨⟨r2, rfl, hr2'⟩, b2⟩
          have HR2 := Lib.hid hr2'
          have HRb := Lib.hid (HR.out.below b2)
          have HB2 := Lib.hid (bthen HB.out b2)
          clear hr2' b2
          go_wp2_with fail
          go_roundw
          case rel =>
            have e1 := HT2.out
            have e2 := HO.out
            have e3 := HPQ.out
            have e4 : t = 2 * t2 + 1 := by omega
            have e5 : q * t = 2 * q * t2 + q := by rw [e4, Nat.mul_add, Nat.mul_one, ← Nat.mul_assoc, Nat.mul_comm q 2]
            have e6 : 2 * q * 1 ≤ 2 * q * t2 := Nat.mul_le_mul_left _ (by omega)
            exact ⟨t2, p + q, 2 * q, _, _, rfl, rfl, by omega, rfl, by omega, by omega, Lib.hid (fun _ => by omega), Lib.hid (fun h => by omega), Lib.hid (HRb.out.eq (Nat.pow_add ..).symm), Lib.hid (HR2.out.eq (by rw [← Nat.pow_add]; congr 1; omega)), HB2⟩
          case measure => have := HT2.out; simp [intOf]; omega
        · have u3 : decide ((1 : Int) < (t : Int)) = false := decide_eq_false (by omega)
          have u3' : decide (1 < t) = false := decide_eq_false h1
          have H1 := Lib.hid h1
          clear h1
          go_wp2_with fail
          go_roundw
          case rel =>
            have e1 := HT2.out
            have e3 := HPQ.out
            have e4 : t = 1 := by have := H1.out; omega
            subst e4
            rw [Nat.mul_one] at e3
            exact ⟨t2, p + q, q, _, _, rfl, rfl, by omega, rfl, by omega, by omega, Lib.hid (fun _ => by omega), Lib.hid (fun h => by omega), Lib.hid (HR.out.eq (Nat.pow_add ..).symm), HV, HB⟩
          case measure => have := HT2.out; simp [intOf]; omega
      · have u2 : ((t : Int) % 2 == 1) = false := by simp; omega
        have HO := Lib.hid hodd
        have h1 : 1 < t := by omega
        clear hodd
        have u3 : decide ((1 : Int) < (t : Int)) = true := decide_eq_true (by omega)
        have u3' : decide (1 < t) = true := decide_eq_true h1
        have M2 := Lib.hid (fun wr hv => mul_N v v (x ^ q) (x ^ q) _ _ wr hv hv bq.out bq.out (by decide) (by decide))
        go_wp2_with fail
        with_reducible (refine (M2.out _ hv.out).mono ?_)
        rintro e w2 ⟨⟨r2, rfl, hr2'⟩, b2⟩
        have HR2 := Lib.hid hr2'
        have HRb := Lib.hid (hu.out.below b2)
        have HB2 := Lib.hid (bthen hB.out b2)
        clear hr2' b2
        go_wp2_with fail
        go_roundw
        case rel =>
          have e1 := HT2.out
          have e2 := HO.out
          have e3 := HPQ.out
          have e4 : t = 2 * t2 := by omega
          have e5 : q * t = 2 * q * t2 := by rw [e4, ← Nat.mul_assoc, Nat.mul_comm q 2]
          have e6 : 2 * q * 1 ≤ 2 * q * t2 := Nat.mul_le_mul_left _ (by omega)
          exact ⟨t2, p, 2 * q, _, _, rfl, rfl, by omega, rfl, by omega, by omega, Lib.hid (fun _ => by omega), Lib.hid (fun h => by omega), HRb, Lib.hid (HR2.out.eq (by rw [← Nat.pow_add]; congr 1; omega)), HB2⟩
        case measure => have := HT2.out; simp [intOf]; omega
end Go.Proofs.Yteiajccjlbghoaa

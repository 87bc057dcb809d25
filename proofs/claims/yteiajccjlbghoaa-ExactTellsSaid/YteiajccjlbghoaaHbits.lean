/- package caliperref01's Bits, Bit. Conditions: as each theorem names them. -/
import Derived.Test.YteiajccjlbghoaaHrd
set_option linter.unusedVariables false
namespace Go.Proofs.Yteiajccjlbghoaa
open Go.RowKit

theorem bitsN_of {x k : Nat} (h1 : 2 ^ k ≤ x) (h2 : x < 2 ^ (k + 1)) : bitsN x = k + 1 := by
  have h0 : x ≠ 0 := by have := Nat.two_pow_pos k; omega
  unfold bitsN
  rw [if_neg h0, log2_of x k h1 h2]
theorem bitsN_half {y : Nat} (h : 0 < y) : bitsN y = bitsN (y / 2) + 1 := by
  rcases Nat.lt_or_ge 1 y with h1 | h1
  · obtain ⟨a1, a2, a3⟩ := bitsN_low (show 0 < y / 2 by omega)
    refine bitsN_of (k := bitsN (y / 2)) ?_ ?_
    · obtain ⟨k, hk⟩ : ∃ k, bitsN (y / 2) = k + 1 := ⟨bitsN (y / 2) - 1, by omega⟩
      rw [hk] at a1 a2 ⊢
      rw [Nat.add_sub_cancel] at a1
      rw [Nat.pow_succ]
      omega
    · rw [Nat.pow_succ]; omega
  · obtain rfl : y = 1 := by omega
    decide
theorem bitsN_T {n : Nat} {F : Nat → Nat} (hF : ∀ i, i < n + 1 → F i < Hd) (h : F n ≠ 0) : bitsN (T F (n + 1)) = 32 * n + bitsN (F n) := by
  have a := T_lt (F := F) (n := n) (fun i hi => hF i (by omega))
  obtain ⟨b1, b2, b3⟩ := bitsN_low (Nat.pos_of_ne_zero h)
  obtain ⟨k, hk⟩ : ∃ k, bitsN (F n) = k + 1 := ⟨bitsN (F n) - 1, by omega⟩
  rw [hk] at b1 b2 ⊢
  rw [Nat.add_sub_cancel] at b1
  have hw := Hp_two n
  rw [← Nat.add_assoc]
  apply bitsN_of
  · rw [T_succ, hw, Nat.pow_add, Nat.mul_comm]
    have := Nat.mul_le_mul_right (2 ^ (32 * n)) b1
    omega
  · rw [T_succ, Nat.add_assoc, Nat.pow_add, ← hw, Nat.mul_comm (Hd ^ n)]
    have : (F n + 1) * Hd ^ n ≤ 2 ^ (k + 1) * Hd ^ n := Nat.mul_le_mul_right _ b2
    rw [Nat.add_mul, Nat.one_mul] at this
    omega

theorem rbits_any (A : Option Addr) (n c : Nat) (F : Nat → Nat) (w : World) (h : Rd w A n c F) (hF : ∀ i, i < n → F i < Hd) (N : Nat) (hN : bitsN (T F n) = N) :
    Calls Try.prog 66 #[.slice A n c] w fun e w' => e = .returned (.int .i64 N) ∧ w = w' := by
  have h' := Lib.hid h
  have hn := h.small
  have HN := Lib.hid hN
  have HF := Lib.hid hF
  clear h hN hF
  go_enter Try.func66, Try.ntmps66
  go_wp2_with fail
  with_reducible (refine (rtrim_any A n c F _ h'.out).mono ?_)
  rintro e w' ⟨⟨m, hm, rfl⟩, rfl⟩
  have hr := h'.out.keepcap hm.le
  have hs := hm.T
  have hle := hm.le
  rcases m with _ | k
  · obtain rfl : N = 0 := by rw [← HN.out, ← hs, T_zero]; rfl
    clear hm hr hs
    go_wp2_with fail
    go_ret
    exact ⟨rfl, rfl⟩
  · obtain ⟨ad, rfl, hb, hx⟩ := hr.at_ k (by omega)
    have hx64 : F k < 4294967296 := HF.out k (by omega)
    have hF0 : F k ≠ 0 := by
      rcases hm.nm with h | h
      · omega
      · exact h
    have hbt := bitsN_T (fun i hi => HF.out i (by omega)) hF0
    rw [hs, HN.out] at hbt
    have HK := Lib.hid hbt
    obtain ⟨x, hxe⟩ : ∃ x, F k = x := ⟨_, rfl⟩
    rw [hxe] at hx hx64 HK
    have hNs : N ≤ 32 * k + 32 := by
      have : bitsN x ≤ 32 := by
        rcases Nat.eq_zero_or_pos x with h0 | h0
        · subst h0; decide
        · obtain ⟨b1, b2, b3⟩ := bitsN_low h0
          have := (Nat.pow_lt_pow_iff_right (a := 2) (by decide)).1 (Nat.lt_of_le_of_lt b1 (show x < 2 ^ 32 from hx64))
          omega
      rw [HK.out]; omega
    have t0 : ((k : Int) + 1 == 0) = false := by simp; omega
    clear hm hr hs hbt hxe hF0
    go_wp2_with fail
    go_loop [3, 4] (fun i y => ∃ (a b : Nat), b < 4294967296 ∧ i = .int .i64 a ∧ y = .int .u64 b ∧ a ≤ N ∧ Hid (a + bitsN b = N)) (fun _ y => (intOf y).toNat)
    case atStart => exact ⟨32 * k, x, hx64, by go_num, rfl, by rw [HK.out]; omega, Lib.hid HK.out.symm⟩
    case round =>
      obtain ⟨a, b, hb32, rfl, rfl, haN, hab⟩ := hrel
      rcases Nat.eq_zero_or_pos b with h0 | h0
      · subst h0
        obtain rfl : a = N := by have := hab.out; unfold bitsN at this; simp at this; exact this
        have u1 : decide ((0 : Int) < ((0 : Nat) : Int)) = false := by decide
        go_wp2_with fail
        go_ret
        exact ⟨rfl, rfl⟩
      · have u1 : decide ((0 : Int) < (b : Int)) = true := decide_eq_true (by omega)
        have u1' : decide (0 < b) = true := decide_eq_true h0
        have hst := bitsN_half h0
        obtain ⟨b2, hb2⟩ : ∃ b2, b / 2 = b2 := ⟨_, rfl⟩
        rw [hb2] at hst
        have hbi : (b : Int) / 2 = (b2 : Int) := by omega
        have hlt : a + 1 ≤ N := by have := hab.out; omega
        have HST := Lib.hid (And.intro hst (And.intro hb2 h0))
        clear hst hb2
        go_wp2_with fail
        go_round
        case rel => exact ⟨a + 1, b2, by have := HST.out.2.1; omega, by go_num, by go_num, hlt, Lib.hid (by have := hab.out; have := HST.out.1; omega)⟩
        case measure => have := HST.out.2; simp [intOf]; omega
theorem bits_H (v : Value) (N k : Nat) (w : World) (h : IsH w v N) (hk : bitsN N = k) :
    Calls Try.prog 66 #[v] w fun e w' => e = .returned (.int .i64 k) ∧ w = w' := by
  obtain ⟨A, n, c, F, rfl, hr, hh, hn, rfl⟩ := h
  exact rbits_any A n c F w hr hh k hk
theorem bit_H (v : Value) (N i : Nat) (b : Bool) (w : World) (h : IsH w v N) (hi : i ≤ 1000000000) (hb : decide (N / 2 ^ i % 2 = 1) = b) :
    Calls Try.prog 67 #[v, .int .i64 i] w fun e w' => e = .returned (.bool b) ∧ w = w' := by
  obtain ⟨A, n, c, F, rfl, hr, hh, hn, rfl⟩ := h
  obtain ⟨q, hq⟩ : ∃ q, i / 32 = q := ⟨_, rfl⟩
  obtain ⟨r, hrr⟩ : ∃ r, i % 32 = r := ⟨_, rfl⟩
  have hr64 : r < 32 := by omega
  rw [bit_T (q := q) (r := r) hh (by omega) hr64] at hb
  have hx64 := ext_h hh q
  have AT := Lib.hid (fun w h => get_any A n c F q w h)
  have HH := Lib.hid hr
  generalize ext n F q = x at hb hx64 AT
  have hqi : (i : Int) / 32 = (q : Int) := by omega
  have hri : (i : Int) % 32 = (r : Int) := by omega
  have htd : ((i : Int)).tdiv 32 = (q : Int) := by rw [Int.tdiv_eq_ediv_of_nonneg (by omega)]; exact hqi
  have htm : ((i : Int)).tmod 32 = (r : Int) := by rw [Int.tmod_eq_emod_of_nonneg (by omega)]; exact hri
  have t1 : decide ((0 : Int) ≤ (i : Int)) = true := decide_eq_true (by omega)
  obtain ⟨z, hz⟩ : ∃ z, x / 2 ^ r = z := ⟨_, rfl⟩
  have hzi : (x : Int) / 2 ^ r = (z : Int) := by rw [← hz]; simp
  have hz64 : z < 4294967296 := by rw [← hz]; exact Nat.lt_of_le_of_lt (Nat.div_le_self _ _) hx64
  have hb2 : ((z : Int) % 2 == 1) = b := by
    rw [← hb, hz]
    by_cases h1 : z % 2 = 1
    · rw [decide_eq_true h1]; simp; omega
    · rw [decide_eq_false h1]; simp; omega
  clear hr hn hq hrr hb hz
  go_enter Try.func67, Try.ntmps67
  go_wp2_with fail
  with_reducible (refine (AT.out _ HH.out).mono ?_)
  rintro e w1 ⟨rfl, rfl⟩
  go_wp2_with fail
  go_ret
  exact ⟨rfl, rfl⟩
end Go.Proofs.Yteiajccjlbghoaa

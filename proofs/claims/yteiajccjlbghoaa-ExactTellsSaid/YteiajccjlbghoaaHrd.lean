/- A slice of half words that is a natural number; package caliperref01's Trim, get, Compare. Conditions: as each theorem names them. -/
import Derived.Test.YteiajccjlbghoaaHsum
import Derived.Test.YteiajccjlbghoaaXsgn
import Derived.Test.YteiajccjlbghoaaFresh
set_option linter.unusedVariables false
namespace Go.Proofs.Yteiajccjlbghoaa
open Go.RowKit

/-- v is the natural number N in half words, without half words of 0 at its end -/
def IsH (w : World) (v : Value) (N : Nat) : Prop := ∃ A n c F, v = .slice A n c ∧ Rd w A n c F ∧ (∀ i, i < n → F i < Hd) ∧ Nm n F ∧ T F n = N
section
variable {w w' : World} {v : Value} {N : Nat}
theorem IsH.below (h : IsH w v N) (hb : Below w.heap.size w w') : IsH w' v N := by
  obtain ⟨A, n, c, F, e, hr, hh, hn, hs⟩ := h
  exact ⟨A, n, c, F, e, hr.below hb, hh, hn, hs⟩
theorem IsH.alloc (h : IsH w v N) (o : Obj) : IsH (w.alloc o) v N := h.below ((Below.refl _ _).alloc (Nat.le_refl _) _)
theorem IsH.drewN (h : IsH w v N) (k : Nat) : IsH (w.drewN k) v N := h
theorem IsH.eq {M : Nat} (h : IsH w v N) (e : N = M) : IsH w v M := e ▸ h
end
theorem shapedH {e : Ending} {w : World} {M : Nat} (h : ∃ r, e = .returned r ∧ IsH w r M) : ∃ A n c, e = .returned (.slice A n c) ∧ IsH w (.slice A n c) M := by
  obtain ⟨r, rfl, A, n, c, F, rfl, h⟩ := h
  exact ⟨A, n, c, rfl, A, n, c, F, rfl, h⟩
theorem hlen {w : World} {v : Value} {N : Nat} (h : IsH w v N) : ∃ A n c, v = .slice A n c ∧ (n = 0 ↔ N = 0) := by
  obtain ⟨A, n, c, F, rfl, hr, hh, hn, rfl⟩ := h
  exact ⟨A, n, c, rfl, (hm_zero hn).symm⟩
theorem len_of_half {n a N : Nat} {F : Nat → Nat} (h : Nm n F) (hs : T F n = N) (hN : N < 2 ^ a) (ha : a ≤ 1048576) : n ≤ 1048576 := by
  have : N < Hd ^ a := Nat.lt_of_lt_of_le hN (Nat.pow_le_pow_left (by decide) a)
  exact Nat.le_trans (hm_len h hs this) ha
theorem Rd.keepcap {w : World} {A : Option Addr} {n c m : Nat} {F : Nat → Nat} (h : Rd w A n c F) (hm : m ≤ n) : Rd w A m c F :=
  h.wide.first hm (Nat.le_trans hm h.small)
theorem Trim.T {n m : Nat} {F : Nat → Nat} (h : Trim n F m) : T F m = T F n := (T_zeros h.1 h.2.1).symm
/-- what Trim leaves of half words -/
theorem trimH {w : World} {A : Option Addr} {n c m N : Nat} {F : Nat → Nat} (h : Rd w A n c F) (hh : ∀ i, i < n → F i < Hd) (hm : Trim n F m) (hN : T F n = N) : IsH w (.slice A m c) N :=
  ⟨A, m, c, F, rfl, h.keepcap hm.le, fun i hi => hh i (by have := hm.le; omega), hm.nm, by rw [hm.T, hN]⟩

theorem rtrim_any (A : Option Addr) (n c : Nat) (F : Nat → Nat) (w : World) (h : Rd w A n c F) :
    Calls Try.prog 47 #[.slice A n c] w fun e w' => (∃ m, Trim n F m ∧ e = .returned (.slice A m c)) ∧ w = w' := by
  have hn := h.len
  have hc := h.small
  have hcell := Lib.hid h.at_
  have hword := Lib.hid h.word'
  have hnil := Lib.hid h.2.2.1
  clear h
  go_enter Try.func47, Try.ntmps47
  go_wp2_with fail
  go_loop [3] (fun i => ∃ k : Nat, k ≤ n ∧ i = .int .i64 k ∧ Hid (∀ i, k ≤ i → i < n → F i = 0)) (fun i => (intOf i).toNat)
  case atStart => exact ⟨n, Nat.le_refl _, rfl, Lib.hid (fun i h1 h2 => by omega)⟩
  case round =>
    obtain ⟨k, hk, rfl, hz⟩ := hrel
    rcases k with _ | j
    · have t1 : decide ((0 : Int) < ((0 : Nat) : Int)) = false := by decide
      rcases A with _ | ad
      · obtain rfl : c = 0 := hnil.out rfl
        go_wp2_with fail
        go_ret
        exact ⟨⟨0, ⟨Nat.zero_le _, hz.out, Or.inl rfl⟩, rfl⟩, rfl⟩
      · go_wp2_with fail
        go_ret
        exact ⟨⟨0, ⟨Nat.zero_le _, hz.out, Or.inl rfl⟩, rfl⟩, rfl⟩
    · obtain ⟨ad, rfl, hb, hx⟩ := hcell.out j (by omega)
      have hw := hword.out j (by omega)
      have t1 : decide ((0 : Int) < ((j + 1 : Nat) : Int)) = true := decide_eq_true (by omega)
      by_cases h0 : F j = 0
      · have t2 : ((F j : Int) == 0) = true := by simp [h0]
        have H0 := Lib.hid h0
        clear h0
        go_wp2_with fail
        go_round
        case rel =>
          refine ⟨j, by omega, rfl, Lib.hid (fun i h1 h2 => ?_)⟩
          rcases Nat.eq_or_lt_of_le h1 with e | e
          · rw [← e]; exact H0.out
          · exact hz.out i e h2
        case measure => simp [intOf]
      · have t2 : ((F j : Int) == 0) = false := by simp; omega
        have H0 := Lib.hid h0
        clear h0
        go_wp2_with fail
        go_ret
        exact ⟨⟨j + 1, ⟨hk, hz.out, Or.inr H0.out⟩, rfl⟩, rfl⟩

theorem get_any (A : Option Addr) (n c : Nat) (F : Nat → Nat) (j : Nat) (w : World) (h : Rd w A n c F) :
    Calls Try.prog 69 #[.slice A n c, .int .i64 j] w fun e w' => e = .returned (.int .u64 (ext n F j)) ∧ w = w' := by
  have hn := h.len
  have hc := h.small
  by_cases h2 : j < n
  · obtain ⟨ad, rfl, hb, hx⟩ := h.at_ j h2
    have t2 : decide (j < n) = true := by simpa using h2
    have hw := h.word' j h2
    rw [ext_in F h2]
    clear h
    go_enter Try.func69, Try.ntmps69
    go_wp2_with fail
    go_ret
    exact ⟨rfl, rfl⟩
  · have t2 : decide (j < n) = false := by simpa using h2
    rw [ext_out F (by omega)]
    clear h
    go_enter Try.func69, Try.ntmps69
    go_wp2_with fail
    go_ret
    exact ⟨rfl, rfl⟩

theorem compare_any (A B : Option Addr) (n c m d : Nat) (F G : Nat → Nat) (w : World) (hA : Rd w A n c F) (hB : Rd w B m d G) (hF : ∀ i, i < n → F i < Hd) (hG : ∀ i, i < m → G i < Hd) (r : Int) (hr : cmpN (T F n) (T G m) = r) :
    Calls Try.prog 42 #[.slice A n c, .slice B m d] w fun e w' => e = .returned (.int .i64 r) ∧ w = w' := by
  obtain ⟨L, hL⟩ : ∃ L, max n m = L := ⟨_, rfl⟩
  have hmx : max (n : Int) (m : Int) = (L : Int) := by omega
  have hr' : cmpN (T (ext n F) L) (T (ext m G) L) = r := by rw [T_ext F (by omega), T_ext G (by omega), hr]
  have hn := hA.small
  have hm := hB.small
  have hLs : L ≤ 17592186044416 := by omega
  have HF := Lib.hid (ext_h hF)
  have HG := Lib.hid (ext_h hG)
  have a1 := Lib.hid (fun j => get_any A n c F j w hA)
  have a2 := Lib.hid (fun j => get_any B m d G j w hB)
  have HR := Lib.hid hr'
  clear hA hB hr hr' hF hG hL
  go_enter Try.func42, Try.ntmps42
  go_wp2_with fail
  go_loop [5] (fun i => ∃ k : Nat, k ≤ L ∧ i = .int .i64 k ∧ Hid (∀ i, k ≤ i → i < L → ext n F i = ext m G i)) (fun i => (intOf i).toNat)
  case atStart => exact ⟨L, Nat.le_refl _, rfl, Lib.hid (fun i h1 h2 => by omega)⟩
  case round =>
    obtain ⟨k, hk, rfl, hz⟩ := hrel
    rcases k with _ | j
    · have t1 : decide ((0 : Int) < ((0 : Nat) : Int)) = false := by decide
      obtain rfl : r = 0 := by
        rw [← HR.out]
        exact hcmp_same (fun i hi => hz.out i (Nat.zero_le _) hi)
      go_wp2_with fail
      go_ret
      exact ⟨rfl, rfl⟩
    · have t1 : decide ((0 : Int) < ((j + 1 : Nat) : Int)) = true := decide_eq_true (by omega)
      have b1 := Lib.hid (a1.out j)
      have b2 := Lib.hid (a2.out j)
      have hx := HF.out j
      have hy := HG.out j
      have hat : ext n F j ≠ ext m G j → cmpN (T (ext n F) L) (T (ext m G) L) = cmpN (ext n F j) (ext m G j) := fun hne =>
        hcmp_at (by omega) (fun i _ => HF.out i) (fun i _ => HG.out i) hz.out hne
      rw [HR.out] at hat
      have HAT := Lib.hid hat
      have HZ : Hid (ext n F j = ext m G j → ∀ i, j ≤ i → i < L → ext n F i = ext m G i) := Lib.hid (fun he i h1 h2 => by
        rcases Nat.eq_or_lt_of_le h1 with e | e
        · rw [← e]; exact he
        · exact hz.out i e h2)
      clear hat
      generalize ext n F j = x at b1 hx HAT HZ
      generalize ext m G j = y at b2 hy HAT HZ
      rcases Nat.lt_trichotomy x y with h | h | h
      · have u1 : decide (x < y) = true := decide_eq_true h
        obtain rfl : r = -1 := by rw [HAT.out (by omega)]; exact (cmpN_cases x y).1.2 h
        clear HAT HZ
        go_wp2_with fail
        with_reducible (refine b1.out.mono ?_)
        rintro e w' ⟨rfl, rfl⟩
        go_wp2_with fail
        with_reducible (refine b2.out.mono ?_)
        rintro e w' ⟨rfl, rfl⟩
        go_wp2_with fail
        go_ret
        exact ⟨rfl, rfl⟩
      · subst h
        have u1 : decide (x < x) = false := by simp
        go_wp2_with fail
        with_reducible (refine b1.out.mono ?_)
        rintro e w' ⟨rfl, rfl⟩
        go_wp2_with fail
        with_reducible (refine b2.out.mono ?_)
        rintro e w' ⟨rfl, rfl⟩
        go_wp2_with fail
        go_round
        case rel => exact ⟨j, by omega, rfl, Lib.hid (HZ.out trivial)⟩
        case measure => simp [intOf]
      · have u1 : decide (x < y) = false := decide_eq_false (by omega)
        have u2 : decide (y < x) = true := decide_eq_true h
        obtain rfl : r = 1 := by rw [HAT.out (by omega)]; exact (cmpN_cases x y).2.1.2 h
        clear HAT HZ
        go_wp2_with fail
        with_reducible (refine b1.out.mono ?_)
        rintro e w' ⟨rfl, rfl⟩
        go_wp2_with fail
        with_reducible (refine b2.out.mono ?_)
        rintro e w' ⟨rfl, rfl⟩
        go_wp2_with fail
        go_ret
        exact ⟨rfl, rfl⟩
theorem compare_H (u v : Value) (M N : Nat) (r : Int) (w : World) (hu : IsH w u M) (hv : IsH w v N) (hr : cmpN M N = r) :
    Calls Try.prog 42 #[u, v] w fun e w' => e = .returned (.int .i64 r) ∧ w = w' := by
  obtain ⟨A, n, c, F, rfl, hA, hF, hn, rfl⟩ := hu
  obtain ⟨B, m, d, G, rfl, hB, hG, hm, rfl⟩ := hv
  exact compare_any A B n c m d F G w hA hB hF hG r hr
end Go.Proofs.Yteiajccjlbghoaa

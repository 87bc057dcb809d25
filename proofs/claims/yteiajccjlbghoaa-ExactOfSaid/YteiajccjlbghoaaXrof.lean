/- package caliperref02's in, Right, Of. Conditions: as each theorem names them. -/
import Derived.Test.YteiajccjlbghoaaXlx
set_option linter.unusedVariables false
namespace Go.Proofs.Yteiajccjlbghoaa
open Go.RowKit

theorem rin_any (n : Int) (b : Bool) (w : World) (hb : inB n = b) :
    Calls Try.prog 49 #[.int .i64 n] w fun e w' => e = .returned (.bool b) ∧ w = w' := by
  unfold inB at hb
  by_cases h1 : -5000 ≤ n
  · have t1 : decide (-5000 ≤ n) = true := decide_eq_true h1
    by_cases h2 : n ≤ 5000
    · have t2 : decide (n ≤ 5000) = true := decide_eq_true h2
      rw [t1, t2] at hb
      subst hb
      clear h1 h2
      go_enter Try.func49, Try.ntmps49
      go_wp2_with fail
      go_ret
      exact ⟨rfl, rfl⟩
    · have t2 : decide (n ≤ 5000) = false := decide_eq_false h2
      rw [t1, t2] at hb
      subst hb
      clear h1 h2
      go_enter Try.func49, Try.ntmps49
      go_wp2_with fail
      go_ret
      exact ⟨rfl, rfl⟩
  · have t1 : decide (-5000 ≤ n) = false := decide_eq_false h1
    rw [t1] at hb
    simp at hb
    subst hb
    clear h1
    go_enter Try.func49, Try.ntmps49
    go_wp2_with fail
    go_ret
    exact ⟨rfl, rfl⟩

theorem rright_any (neg : Bool) (A : Option Addr) (n c : Nat) (F : Nat → Nat) (s f : Int) (b : Bool) (w : World) (h : RdW w A n c F) (hb : rightB n F s f = b) :
    Calls Try.prog 24 #[xv neg (.slice A n c) s f] w fun e w' => e = .returned (.bool b) ∧ Below w.heap.size w w' := by
  have HA := Lib.hid (bgrow (Below.refl w.heap.size w) (xbox neg (.slice A n c) s f))
  have HB := Lib.hid hb
  have IS := Lib.hid (fun w => rin_any s _ w rfl)
  have IF := Lib.hid (fun w => rin_any f _ w rfl)
  have hat := Lib.hid (h.alloc (xbox neg (.slice A n c) s f)).at_
  have hwd := h.word'
  have hcap := h.len
  have hsm := h.small
  unfold rightB at hb
  clear h
  unfold xv xbox at *
  by_cases hn : n ≤ 128
  · have t1 : decide ((128 : Int) < (n : Int)) = false := decide_eq_false (by omega)
    have t1' : decide (128 < n) = false := decide_eq_false (by omega)
    by_cases h0 : n = 0
    · subst h0
      clear hat hwd hcap hn hsm
      cases es : inB s with
      | false =>
        rw [es] at IS
        have : b = false := by rw [← hb, es]; rfl
        subst this
        clear hb
        go_enter Try.func24, Try.ntmps24
        go_wp2_with fail
        with_reducible (refine (IS.out _).mono ?_)
        rintro e w1 ⟨rfl, rfl⟩
        go_wp2_with fail
        go_ret
        exact ⟨rfl, HA.out⟩
      | true =>
        rw [es] at IS
        have : inB f = b := by rw [← hb, es]; rfl
        rw [this] at IF
        clear hb this
        go_enter Try.func24, Try.ntmps24
        go_wp2_with fail
        with_reducible (refine (IS.out _).mono ?_)
        rintro e w1 ⟨rfl, rfl⟩
        go_wp2_with fail
        with_reducible (refine (IF.out _).mono ?_)
        rintro e w1 ⟨rfl, rfl⟩
        go_wp2_with fail
        go_ret
        exact ⟨rfl, HA.out⟩
    · obtain ⟨m, rfl⟩ : ∃ m, n = m + 1 := ⟨n - 1, by omega⟩
      obtain ⟨ad, rfl, hbl, hx⟩ := hat.out m (by omega)
      have hw := hwd m (by omega)
      rw [Nat.add_sub_cancel] at hb
      have t2 : decide ((0 : Int) < (m : Int) + 1) = true := decide_eq_true (by omega)
      have t1c : decide ((128 : Int) < (m : Int) + 1) = false := decide_eq_false (by omega)
      have t1d : decide (128 < m + 1) = false := decide_eq_false (by omega)
      clear hat hwd t1 t1'
      by_cases hF : F m = 0
      · have t3 : ((F m : Int) == 0) = true := by simp [hF]
        have : b = false := by rw [← hb]; simp [hF]
        subst this
        clear hb hF h0 hn
        go_enter Try.func24, Try.ntmps24
        go_wp2_with fail
        go_ret
        exact ⟨rfl, HA.out⟩
      · have t3 : ((F m : Int) == 0) = false := by simp; omega
        have hb' : (inB s && inB f) = b := by rw [← hb]; simp [hF, hn]
        clear hb hF h0 hn
        cases es : inB s with
        | false =>
          rw [es] at IS
          have : b = false := by rw [← hb', es]; rfl
          subst this
          clear hb'
          go_enter Try.func24, Try.ntmps24
          go_wp2_with fail
          with_reducible (refine (IS.out _).mono ?_)
          rintro e w1 ⟨rfl, rfl⟩
          go_wp2_with fail
          go_ret
          exact ⟨rfl, HA.out⟩
        | true =>
          rw [es] at IS
          have : inB f = b := by rw [← hb', es]; rfl
          rw [this] at IF
          clear hb' this
          go_enter Try.func24, Try.ntmps24
          go_wp2_with fail
          with_reducible (refine (IS.out _).mono ?_)
          rintro e w1 ⟨rfl, rfl⟩
          go_wp2_with fail
          with_reducible (refine (IF.out _).mono ?_)
          rintro e w1 ⟨rfl, rfl⟩
          go_wp2_with fail
          go_ret
          exact ⟨rfl, HA.out⟩
  · have t1 : decide ((128 : Int) < (n : Int)) = true := decide_eq_true (by omega)
    have t1' : decide (128 < n) = true := decide_eq_true (by omega)
    have t1n : decide (n ≤ 128) = false := decide_eq_false hn
    have : b = false := by rw [← hb, t1n]; rfl
    subst this
    clear hat hwd hb hn t1n
    go_enter Try.func24, Try.ntmps24
    go_wp2_with fail
    go_ret
    exact ⟨rfl, HA.out⟩

/-- what the document's Of answers -/
theorem rof_X (cl : Int) (neg : Bool) (m : Nat) (e : Int) (w : World) (hm : m < 18446744073709551616) :
    Calls Try.prog 22 #[vv cl neg m e] w fun en w' => (∃ r, en = .returned r ∧ OfIs cl neg m e w' r) ∧ Below w.heap.size w w' := by
  have IE := Lib.hid (fun w => rin_any e _ w rfl)
  unfold vv
  by_cases h1 : cl = 1
  · subst h1
    go_enter Try.func22, Try.ntmps22
    go_wp2_with fail
    refine bodyPost_ret (v := .tuple #[.agg #[.bool neg, .slice none 0 0, .int .i64 0, .int .i64 0], .bool true]) (by simp [results, Try.results22, go_sem]) rfl ⟨⟨_, rfl, Or.inl ⟨rfl, rfl⟩⟩, ?_⟩
    repeat (first | refine Below.setCell ?_ (by simp) _ | refine Below.alloc ?_ (by simp; try omega) _ | refine bdrewN ?_ _)
    exact Below.refl _ _
  · have t1 : (cl == 1) = false := by simpa using h1
    by_cases h2 : cl = 2
    · subst h2
      cases es : inB e with
      | false =>
        rw [es] at IE
        go_enter Try.func22, Try.ntmps22
        go_wp2_with fail
        with_reducible (refine (IE.out _).mono ?_)
        rintro en w1 ⟨rfl, rfl⟩
        go_wp2_with fail
        refine bodyPost_ret (v := .tuple #[.agg #[.bool false, .slice none 0 0, .int .i64 0, .int .i64 0], .bool false]) (by simp [results, Try.results22, go_sem]) rfl ⟨⟨_, rfl, Or.inr (Or.inr ⟨by decide, by rw [es]; simp, rfl⟩)⟩, ?_⟩
        repeat (first | refine Below.setCell ?_ (by simp) _ | refine Below.alloc ?_ (by simp; try omega) _ | refine bdrewN ?_ _)
        exact Below.refl _ _
      | true =>
        rw [es] at IE
        rcases Nat.eq_zero_or_pos m with h0 | h0
        · subst h0
          go_enter Try.func22, Try.ntmps22
          go_wp2_with fail
          with_reducible (refine (IE.out _).mono ?_)
          rintro en w1 ⟨rfl, rfl⟩
          go_wp2_with fail
          refine bodyPost_ret (v := .tuple #[.agg #[.bool neg, .slice none 0 0, .int .i64 e, .int .i64 0], .bool true]) (by simp [results, Try.results22, go_sem]) rfl ⟨⟨_, rfl, Or.inr (Or.inl ⟨rfl, es, .slice none 0 0, isN_none _, rfl⟩)⟩, ?_⟩
          exact bgrow (bgrow (bgrow (Below.refl _ _) _) _) _
        · have t2 : decide ((0 : Int) < (m : Int)) = true := decide_eq_true (by omega)
          have t2' : decide (0 < m) = true := decide_eq_true h0
          go_enter Try.func22, Try.ntmps22
          go_wp2_with fail
          with_reducible (refine (IE.out _).mono ?_)
          rintro en w1 ⟨rfl, rfl⟩
          go_wp2_with fail
          refine bodyPost_ret (v := .tuple #[.agg #[.bool neg, .slice (some { block := w.heap.size + 1 + 1 + 1, off := 0 }) 1 1, .int .i64 e, .int .i64 0], .bool true]) (by simp [results, Try.results22, go_sem]) rfl ⟨⟨_, rfl, Or.inr (Or.inl ⟨rfl, es, _, lit_N (by simp [go_sem]) hm (by omega), rfl⟩)⟩, ?_⟩
          exact bgrow (bgrow (bgrow (bgrow (Below.refl _ _) _) _) _) _
    · have t2 : (cl == 2) = false := by simpa using h2
      have t2' : (cl != 2) = true := by simpa using h2
      go_enter Try.func22, Try.ntmps22
      go_wp2_with fail
      refine bodyPost_ret (v := .tuple #[.agg #[.bool false, .slice none 0 0, .int .i64 0, .int .i64 0], .bool false]) (by simp [results, Try.results22, go_sem]) rfl ⟨⟨_, rfl, Or.inr (Or.inr ⟨h1, fun h => h2 h.1, rfl⟩)⟩, ?_⟩
      repeat (first | refine Below.setCell ?_ (by simp) _ | refine Below.alloc ?_ (by simp; try omega) _ | refine bdrewN ?_ _)
      exact Below.refl _ _
end Go.Proofs.Yteiajccjlbghoaa

/- package exact's in, Right, Of, Dec; package nat's Word, Bit. Conditions: as each theorem names them. -/
import Derived.Test.YteiajccjlbghoaaXsgn
import Derived.Test.YteiajccjlbghoaaFresh
set_option linter.unusedVariables false
namespace Go.Proofs.Yteiajccjlbghoaa
open Go.RowKit

def inB (n : Int) : Bool := decide (-5000 ≤ n) && decide (n ≤ 5000)
theorem inB_true {n : Int} (h : inB n = true) : -5000 ≤ n ∧ n ≤ 5000 := by unfold inB at h; simpa using h
theorem in_any (n : Int) (b : Bool) (w : World) (hb : inB n = b) :
    Calls Try.prog 48 #[.int .i64 n] w fun e w' => e = .returned (.bool b) ∧ w = w' := by
  unfold inB at hb
  by_cases h1 : -5000 ≤ n
  · have t1 : decide (-5000 ≤ n) = true := decide_eq_true h1
    by_cases h2 : n ≤ 5000
    · have t2 : decide (n ≤ 5000) = true := decide_eq_true h2
      rw [t1, t2] at hb
      subst hb
      clear h1 h2
      go_enter Try.func48, Try.ntmps48
      go_wp2_with fail
      go_ret
      exact ⟨rfl, rfl⟩
    · have t2 : decide (n ≤ 5000) = false := decide_eq_false h2
      rw [t1, t2] at hb
      subst hb
      clear h1 h2
      go_enter Try.func48, Try.ntmps48
      go_wp2_with fail
      go_ret
      exact ⟨rfl, rfl⟩
  · have t1 : decide (-5000 ≤ n) = false := decide_eq_false h1
    rw [t1] at hb
    simp at hb
    subst hb
    clear h1
    go_enter Try.func48, Try.ntmps48
    go_wp2_with fail
    go_ret
    exact ⟨rfl, rfl⟩

def rightB (n : Nat) (F : Nat → Nat) (s f : Int) : Bool := decide (n ≤ 128) && (decide (n = 0) || decide (F (n - 1) ≠ 0)) && (inB s && inB f)
theorem right_any (neg : Bool) (A : Option Addr) (n c : Nat) (F : Nat → Nat) (s f : Int) (b : Bool) (w : World) (h : RdW w A n c F) (hb : rightB n F s f = b) :
    Calls Try.prog 23 #[xv neg (.slice A n c) s f] w fun e w' => e = .returned (.bool b) ∧ Below w.heap.size w w' := by
  have HA := Lib.hid (bgrow (Below.refl w.heap.size w) (xbox neg (.slice A n c) s f))
  have HB := Lib.hid hb
  have IS := Lib.hid (fun w => in_any s _ w rfl)
  have IF := Lib.hid (fun w => in_any f _ w rfl)
  have hat := Lib.hid (h.alloc (xbox neg (.slice A n c) s f)).at_
  have hwd := h.word'
  have hcap := h.len
  have hsm := h.small
  unfold rightB at hb
  clear h
  unfold xv xbox at *
  by_cases hn : n ≤ 128
  · have t1 : decide ((n : Int) ≤ 128) = true := decide_eq_true (by omega)
    have t1' : decide (n ≤ 128) = true := decide_eq_true (by omega)
    by_cases h0 : n = 0
    · subst h0
      clear hat hwd hcap hn hsm
      cases es : inB s with
      | false =>
        rw [es] at IS
        have : b = false := by rw [← hb, es]; rfl
        subst this
        clear hb
        go_enter Try.func23, Try.ntmps23
        go_wp2_with fail
        with_reducible (refine (IS.out _).mono ?_)
        rintro e w1 ⟨rfl, rfl⟩
        go_wp2_with fail
        go_ret
        exact ⟨rfl, HA.out⟩
      | true =>
        rw [es] at IS
        have : inB f = b := by rw [← hb, es]; rfl
        rw [this] at IF
        clear hb this
        go_enter Try.func23, Try.ntmps23
        go_wp2_with fail
        with_reducible (refine (IS.out _).mono ?_)
        rintro e w1 ⟨rfl, rfl⟩
        go_wp2_with fail
        with_reducible (refine (IF.out _).mono ?_)
        rintro e w1 ⟨rfl, rfl⟩
        go_wp2_with fail
        go_ret
        exact ⟨rfl, HA.out⟩
    · obtain ⟨m, rfl⟩ : ∃ m, n = m + 1 := ⟨n - 1, by omega⟩
      obtain ⟨ad, rfl, hbl, hx⟩ := hat.out m (by omega)
      have hw := hwd m (by omega)
      rw [Nat.add_sub_cancel] at hb
      have t2 : ((m : Int) + 1 == 0) = false := by simp; omega
      have t1c : decide ((m : Int) + 1 ≤ 128) = true := decide_eq_true (by omega)
      clear hat hwd t1 t1'
      by_cases hF : F m = 0
      · have t3 : ((F m : Int) != 0) = false := by simp [hF]
        have : b = false := by rw [← hb]; simp [hF]
        subst this
        clear hb hF h0 hn
        go_enter Try.func23, Try.ntmps23
        go_wp2_with fail
        go_ret
        exact ⟨rfl, HA.out⟩
      · have t3 : ((F m : Int) != 0) = true := by simp; omega
        have hb' : (inB s && inB f) = b := by rw [← hb]; simp [hF, hn]
        clear hb hF h0 hn
        cases es : inB s with
        | false =>
          rw [es] at IS
          have : b = false := by rw [← hb', es]; rfl
          subst this
          clear hb'
          go_enter Try.func23, Try.ntmps23
          go_wp2_with fail
          with_reducible (refine (IS.out _).mono ?_)
          rintro e w1 ⟨rfl, rfl⟩
          go_wp2_with fail
          go_ret
          exact ⟨rfl, HA.out⟩
        | true =>
          rw [es] at IS
          have : inB f = b := by rw [← hb', es]; rfl
          rw [this] at IF
          clear hb' this
          go_enter Try.func23, Try.ntmps23
          go_wp2_with fail
          with_reducible (refine (IS.out _).mono ?_)
          rintro e w1 ⟨rfl, rfl⟩
          go_wp2_with fail
          with_reducible (refine (IF.out _).mono ?_)
          rintro e w1 ⟨rfl, rfl⟩
          go_wp2_with fail
          go_ret
          exact ⟨rfl, HA.out⟩
  · have t1 : decide ((n : Int) ≤ 128) = false := decide_eq_false (by omega)
    have t1' : decide (n ≤ 128) = false := decide_eq_false hn
    have : b = false := by rw [← hb, t1']; rfl
    subst this
    clear hat hwd hb hn
    go_enter Try.func23, Try.ntmps23
    go_wp2_with fail
    go_ret
    exact ⟨rfl, HA.out⟩

end Go.Proofs.Yteiajccjlbghoaa

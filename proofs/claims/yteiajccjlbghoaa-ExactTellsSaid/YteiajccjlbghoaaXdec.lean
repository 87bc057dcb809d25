/- package exact's Dec; package nat's Word, Bit. Conditions: as each theorem names them. -/
import Derived.Test.YteiajccjlbghoaaXof
set_option linter.unusedVariables false
namespace Go.Proofs.Yteiajccjlbghoaa
open Go.RowKit

theorem pow_same {a b : Nat} (h : a = b) : (2 : Nat) ^ a = 2 ^ b := by rw [h]
/-- has a number room in 128 words? -/
def fitE : Nat := 8192
def fitB (N : Nat) : Bool := decide (N < 2 ^ fitE)
theorem fit_len {m : Nat} {F : Nat → Nat} (h : Nm m F) (hF : ∀ i, i < m → F i < Wd) : decide (m ≤ 128) = fitB (S F m) := by
  unfold fitB
  have e : (2 : Nat) ^ fitE = Wd ^ 128 := (pow_same (by decide : fitE = 64 * 128)).trans (Wp_two 128).symm
  by_cases hm : m ≤ 128
  · have := S_lt hF
    have h2 : Wd ^ m ≤ Wd ^ 128 := Nat.pow_le_pow_right Wd_pos hm
    rw [decide_eq_true hm, decide_eq_true (by rw [e]; exact Nat.lt_of_lt_of_le this h2)]
  · rw [decide_eq_false hm, decide_eq_false]
    rw [e]
    intro hlt
    exact hm (nm_len h rfl hlt)
theorem right_N (neg : Bool) (v : Value) (N : Nat) (s f : Int) (b : Bool) (w : World) (h : IsN w v N) (hb : (fitB N && (inB s && inB f)) = b) :
    Calls Try.prog 23 #[xv neg v s f] w fun e w' => e = .returned (.bool b) ∧ Below w.heap.size w w' := by
  obtain ⟨A, n, c, F, rfl, hr, hn, rfl⟩ := h
  refine right_any neg A n c F s f b w hr.wide ?_
  rw [← hb]
  unfold rightB
  rw [fit_len hn hr.word]
  have : (decide (n = 0) || decide (F (n - 1) ≠ 0)) = true := by
    rcases hn with h | h
    · simp [h]
    · simp [h]
  rw [this, Bool.and_true]
/-- what Dec answers -/
def DecIs (B : Nat) (neg : Bool) (N : Nat) (k : Int) (w : World) (r : Value) : Prop :=
  ((fitB N && inB k) = true ∧ ∃ A n c, IsF B w (.slice A n c) N ∧ r = .tuple #[xv neg (.slice A n c) k k, .bool true]) ∨
  ((fitB N && inB k) = false ∧ r = .tuple #[xv false (.slice none 0 0) 0 0, .bool false])
theorem dec_any (neg : Bool) (A : Option Addr) (n c : Nat) (F : Nat → Nat) (k : Int) (w : World) (h : Rd w A n c F) :
    Calls Try.prog 26 #[.bool neg, .slice A n c, .int .i64 k] w fun en w' => (∃ r, en = .returned r ∧ DecIs w.heap.size neg (S F n) k w' r) ∧ Below w.heap.size w w' := by
  have HN := Lib.hid (fun w h => norm_F A n c F w h)
  have HH := Lib.hid h
  clear h
  go_enter Try.func26, Try.ntmps26
  go_wp2_with fail
  with_reducible (refine (HN.out _ (HH.out.alloc _)).mono ?_)
  rintro e w1 ⟨⟨A1, n1, c1, rfl, hf⟩, b1⟩
  have HF := Lib.hid (hf.mono (C := w.heap.size + 1) (by simp))
  have HB := Lib.hid (bthen (bgrow (Below.refl w.heap.size w) (xbox false (.slice none 0 0) 0 0)) b1)
  have HW := Lib.hid ((Wr.new w #[.bool false, .slice none 0 0, .int .i64 0, .int .i64 0] 25 4 rfl).below b1)
  have HG : Hid (w.heap.size < w1.heap.size) := Lib.hid (by have := b1.size; simp at this; omega)
  clear hf b1
  obtain ⟨b, hb⟩ : ∃ b, (fitB (S F n) && (inB k && inB k)) = b := ⟨_, rfl⟩
  have HR := Lib.hid (fun w h => right_N neg (.slice A1 n1 c1) (S F n) k k b w h hb)
  have HB2 := Lib.hid hb
  clear hb
  unfold xv at HR
  go_wp2_with fail
  with_reducible (refine (HR.out _ (HF.out.isn.alloc _)).mono ?_)
  rintro e w2 ⟨rfl, b2⟩
  have X2 := (Bx.made w1 neg (.slice A1 n1 c1) k k).below b2
  have HBB := Lib.hid (bthen (bgrow HB.out (xbox neg (.slice A1 n1 c1) k k)) b2)
  have HF2 := Lib.hid (((HF.out.below (bgrow (Below.refl _ _) (xbox neg (.slice A1 n1 c1) k k))).below b2))
  obtain ⟨x0, x1, x2, x3, ⟨d0, d1, d2, d3⟩, f0, f1, f2, f3⟩ := ((HW.out.below (bgrow (Below.refl _ _) (xbox neg (.slice A1 n1 c1) k k))).below b2).four
  unfold Bx at X2
  obtain ⟨e0, e1, e2, e3⟩ := X2
  clear b2
  cases b with
  | true =>
    go_wp2_with fail
    refine bodyPost_ret (v := .tuple #[.agg #[.bool neg, .slice A1 n1 c1, .int .i64 k, .int .i64 k], .bool true]) (by simp [results, Try.results26, go_sem, *]) rfl ⟨⟨_, rfl, Or.inl ⟨?_, A1, n1, c1, ?_, rfl⟩⟩, ?_⟩
    · have := HB2.out; rwa [Bool.and_self] at this
    · have hs : w.heap.size < w.heap.size + 1 := Nat.lt_succ_self _
      exact ((((HF2.out.set _ _ hs).set _ _ hs).set _ _ hs).set _ _ hs).mono (Nat.le_succ _)
    · exact bset (bset (bset (bset HBB.out (Nat.le_refl _)) (Nat.le_refl _)) (Nat.le_refl _)) (Nat.le_refl _)
  | false =>
    go_wp2_with fail
    refine bodyPost_ret (v := .tuple #[.agg #[.bool false, .slice none 0 0, .int .i64 0, .int .i64 0], .bool false]) (by simp [results, Try.results26, go_sem, *]) rfl ⟨⟨_, rfl, Or.inr ⟨?_, rfl⟩⟩, ?_⟩
    · have := HB2.out; rwa [Bool.and_self] at this
    · exact bset (bset (bset (bset HBB.out (Nat.le_refl _)) (Nat.le_refl _)) (Nat.le_refl _)) (Nat.le_refl _)
theorem dec_N (neg : Bool) (v : Value) (N : Nat) (k : Int) (w : World) (h : IsN w v N) :
    Calls Try.prog 26 #[.bool neg, v, .int .i64 k] w fun en w' => (∃ r, en = .returned r ∧ DecIs w.heap.size neg N k w' r) ∧ Below w.heap.size w w' := by
  obtain ⟨A, n, c, F, rfl, hr, hn, rfl⟩ := h
  exact dec_any neg A n c F k w hr

end Go.Proofs.Yteiajccjlbghoaa

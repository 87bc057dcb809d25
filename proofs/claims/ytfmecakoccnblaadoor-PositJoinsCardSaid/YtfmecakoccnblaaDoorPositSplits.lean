/- PositSplits walked: fields are what the document says. Conditions: the table of math-bits lies as the text lays it. -/
import Derived.Test.YtfmecakoccnblaaDoorPositRef
import Derived.Test.YtfmecakoccnblaaDoorPositRises
set_option linter.unusedVariables false
namespace Go.Proofs.YtfmecakoccnblaaDoor
open Go.RowKit

theorem refSplit_yes (wd : Int) (n key : Nat) (w : World) (h : Fit wd n key) :
    Calls Tryd.prog 13 #[.int .i64 wd, .int .u64 key] w fun e w' => e = .returned (.tuple #[.agg #[.int .i64 (fReg n key), .int .i64 (fExp n key), .int .u64 (fFrac n key), .int .i64 (fBits n key)], .bool true]) ∧ Below w.heap.size w w' := by
  obtain ⟨hn, h1, h2, h3, h4⟩ := h
  have n2 : 2 ≤ n := by omega
  have n64 : n ≤ 64 := by omega
  have k64 := pow_le64 n64
  obtain ⟨a, b, c, d, e⟩ := run_bits n2 n64 h3 h4
  obtain ⟨_, t2, _, t4⟩ := tail_parts n2 n64 h3 h4
  have hp := pow_pred (n := n) (by omega)
  refine refSplit_walk wd (fReg n key) n key (fExp n key) (fFrac n key) (fBits n key) (fLeft n key) (fRest n key) (fRun n key) (key / 2 ^ (n - 1) % 2) w
    (fun w => bits_ref wd n key w hn h1 h2 h3 (by omega) true (by simpa using h4)) n2 n64 a b c d rfl rfl ?_ rfl t2
    (fun r hr w => exp_bits n2 n64 h3 h4 hr w) (fun r hr h w => frac_bits n2 n64 h3 h4 hr h w) rfl ?_
  · rw [e]
    unfold fReg
    by_cases h : key < 2 ^ (n - 1)
    · rw [if_pos h, if_pos h, if_pos rfl]
    · rw [if_neg h, if_neg h, if_neg (by decide)]
  · intro hl
    unfold fFrac
    have : fBits n key = 0 := by unfold fBits; omega
    rw [this, Nat.pow_zero, Nat.mod_one]

theorem refSplit_no (wd : Int) (key : Nat) (w : World) (hk : key < 18446744073709551616) (h : ¬ ∃ n, Fit wd n key) :
    Calls Tryd.prog 13 #[.int .i64 wd, .int .u64 key] w fun e w' => e = .returned (.tuple #[.agg #[.int .i64 0, .int .i64 0, .int .u64 0, .int .i64 0], .bool false]) ∧ Below w.heap.size w w' := by
  have B : ∀ w, Calls Tryd.prog 24 #[.int .i64 wd, .int .u64 key] w fun e w' => (∃ s, e = .returned (.tuple #[.string s, .bool false])) ∧ Below w.heap.size w w' := by
    intro w
    by_cases c : 3 ≤ wd ∧ wd ≤ 65 ∧ 0 < key
    · obtain ⟨c1, c2, c3⟩ := c
      have hno : ¬ key < 2 ^ (wd - 1).toNat := fun hlt => h ⟨(wd - 1).toNat, by omega, c1, c2, c3, hlt⟩
      refine (bits_ref wd (wd - 1).toNat key w (by omega) c1 c2 c3 hk false (by simpa using hno)).mono ?_
      rintro e w' ⟨⟨s, _, rfl⟩, hb⟩
      exact ⟨⟨s, rfl⟩, hb⟩
    · refine (bits_ref_no wd key w c).mono ?_
      rintro e w' ⟨rfl, rfl⟩
      exact ⟨⟨_, rfl⟩, Below.refl _ _⟩
  have B' := Lib.hid B
  clear B h
  go_enter Tryd.func13, Tryd.ntmps13
  go_wp2_with fail
  refine (B'.out _).mono ?_; rintro e w1 ⟨⟨s, rfl⟩, b1⟩
  have HB1 := Lib.hid b1
  have hc : ∀ b o, b < w.heap.size + 1 → w1.cell? ⟨b, o, none⟩ = (w.alloc (.cells #[.int .i64 0, .int .i64 0, .int .u64 0, .int .i64 0] 29)).cell? ⟨b, o, none⟩ := fun b o hb => (bcell HB1.out).1 b o (by simpa using hb)
  have hf : ∀ b o, b < w.heap.size + 1 → w1.frozen? ⟨b, o, none⟩ = (w.alloc (.cells #[.int .i64 0, .int .i64 0, .int .u64 0, .int .i64 0] 29)).frozen? ⟨b, o, none⟩ := fun b o hb => (bcell HB1.out).2 b o (by simpa using hb)
  have c0 := hc w.heap.size 0 (by omega)
  have c1 := hc w.heap.size 1 (by omega)
  have c2 := hc w.heap.size 2 (by omega)
  have c3 := hc w.heap.size 3 (by omega)
  have g0 := hf w.heap.size 0 (by omega)
  have g1 := hf w.heap.size 1 (by omega)
  have g2 := hf w.heap.size 2 (by omega)
  have g3 := hf w.heap.size 3 (by omega)
  have hsz1 : w.heap.size < w1.heap.size := by have := HB1.out.size; simp at this; omega
  clear hc hf b1
  simp [go_sem] at c0 c1 c2 c3 g0 g1 g2 g3
  go_wp2_with fail
  refine bodyPost_ret (v := .tuple #[.agg #[.int .i64 0, .int .i64 0, .int .u64 0, .int .i64 0], .bool false]) ?_ rfl ⟨rfl, ?_⟩
  · simp [results, Tryd.results13, go_sem, *]
  · repeat (refine Below.setCell ?_ (by simp) _)
    exact below_ref HB1.out

theorem splits_yes (wd : Int) (n key : Nat) (w : World) (hT : Tab w) (h : Fit wd n key) :
    Calls Tryd.prog 3 #[.int .i64 wd, .int .u64 key] w fun e w' => e = .returned (.bool true) ∧ Below w.heap.size w w' := by
  have S := Lib.hid (fun w => Split_yes wd n key w h)
  have R := Lib.hid (fun w => refSplit_yes wd n key w h)
  have hTab := Lib.hid hT
  clear h hT
  go_enter Tryd.func3, Tryd.ntmps3
  go_wp2_with fail
  refine (shown_true _ hTab.out).mono ?_; rintro e w1 ⟨rfl, b1⟩
  go_wp2_with fail
  refine (S.out _).mono ?_; rintro e w2 ⟨rfl, b2⟩
  go_wp2_with fail
  refine (R.out _).mono ?_; rintro e w3 ⟨rfl, b3⟩
  obtain ⟨hc, hf⟩ := bcell b3
  have c0 := hc w2.heap.size 0 (by simp)
  have c1 := hc w2.heap.size 1 (by simp)
  have c2 := hc w2.heap.size 2 (by simp)
  have c3 := hc w2.heap.size 3 (by simp)
  have hz : w2.heap.size < w3.heap.size := by have := b3.size; simp at this; omega
  simp [go_sem] at c0 c1 c2 c3
  clear hc hf
  have B := Lib.hid ((bthen (bgrow (bthen b1 b2) _) b3))
  clear b1 b2 b3
  go_wp2_with fail
  go_ret
  exact ⟨rfl, bgrow B.out _⟩

theorem splits_no (wd : Int) (key : Nat) (hk : key < 18446744073709551616) (w : World) (hT : Tab w) (h : ¬ ∃ n, Fit wd n key) :
    Calls Tryd.prog 3 #[.int .i64 wd, .int .u64 key] w fun e w' => e = .returned (.bool true) ∧ Below w.heap.size w w' := by
  have S := Lib.hid (fun w => Split_no wd key w h)
  have R := Lib.hid (fun w => refSplit_no wd key w hk h)
  have hTab := Lib.hid hT
  clear h hT
  go_enter Tryd.func3, Tryd.ntmps3
  go_wp2_with fail
  refine (shown_true _ hTab.out).mono ?_; rintro e w1 ⟨rfl, b1⟩
  go_wp2_with fail
  refine (S.out _).mono ?_; rintro e w2 ⟨rfl, b2⟩
  go_wp2_with fail
  refine (R.out _).mono ?_; rintro e w3 ⟨rfl, b3⟩
  obtain ⟨hc, hf⟩ := bcell b3
  have c0 := hc w2.heap.size 0 (by simp)
  have c1 := hc w2.heap.size 1 (by simp)
  have c2 := hc w2.heap.size 2 (by simp)
  have c3 := hc w2.heap.size 3 (by simp)
  have hz : w2.heap.size < w3.heap.size := by have := b3.size; simp at this; omega
  simp [go_sem] at c0 c1 c2 c3
  clear hc hf
  have B := Lib.hid ((bthen (bgrow (bthen b1 b2) _) b3))
  clear b1 b2 b3
  go_wp2_with fail
  go_ret
  exact ⟨rfl, bgrow B.out _⟩

theorem walk_PositSplits (a0 : Int) (_ : (Lit.int .i64 a0).wf = true) (a1 : Int) (w1 : (Lit.int .u64 a1).wf = true) (w : World) (hT : Tab w) :
    Calls Tryd.prog 3 #[.int .i64 a0, .int .u64 a1] w fun e w' => e = .returned (.bool true) ∧ Below w.heap.size w w' := by
  obtain ⟨k, rfl, hk⟩ := u64_nat w1
  by_cases f : ∃ n, Fit a0 n k
  · obtain ⟨n, f⟩ := f
    exact splits_yes a0 n k w hT f
  · exact splits_no a0 k hk w hT f
end Go.Proofs.YtfmecakoccnblaaDoor

/- What posit.Split, posit.Value answer, panics caught. Conditions: as each theorem names them. -/
import Derived.Test.YtfmecakoccnblaaDoorPositFields
set_option linter.unusedVariables false
namespace Go.Proofs.YtfmecakoccnblaaDoor
open Go.RowKit

theorem split_no_width (wd key : Int) (w : World) (h : ¬ (3 ≤ wd ∧ wd ≤ 65)) :
    Calls Tryd.prog 23 #[.int .i64 wd, .int .u64 key] w fun e w' => e = .panicked [{ v := ref 1, recovered := false }] ∧ w.alloc (.cells #[.int .i64 0, .int .i64 0, .int .u64 0, .int .i64 0] 25) = w' := by
  go_enter Tryd.func23, Tryd.ntmps23
  go_wp2_with (first
    | (go_at_call 27; refine (wide_no _ _ h).mono ?_; rintro e w' ⟨rfl, rfl⟩))
  exact ⟨rfl, rfl, rfl⟩
theorem split_no_zero (wd : Int) (w : World) (h1 : 3 ≤ wd) (h2 : wd ≤ 65) :
    Calls Tryd.prog 23 #[.int .i64 wd, .int .u64 0] w fun e w' => e = .panicked [{ v := ref 1, recovered := false }] ∧ w.alloc (.cells #[.int .i64 0, .int .i64 0, .int .u64 0, .int .i64 0] 25) = w' := by
  go_enter Tryd.func23, Tryd.ntmps23
  go_wp2_with (first
    | (go_at_call 27; refine (wide_ok _ _ h1 h2).mono ?_; rintro e w' ⟨rfl, rfl⟩)
    | (go_at_call 28; refine (must_no _ _).mono ?_; rintro e w' ⟨rfl, rfl⟩))
  exact ⟨rfl, rfl, rfl⟩
theorem split_no_key (wd : Int) (n key : Nat) (w : World) (hn : wd - 1 = (n : Int)) (h1 : 3 ≤ wd) (h2 : wd ≤ 65) (k0 : ((key : Int) != 0) = true) (kz : ((key : Int) / 2 ^ (n - 1) / 2 == 0) = false) :
    Calls Tryd.prog 23 #[.int .i64 wd, .int .u64 key] w fun e w' => e = .panicked [{ v := ref 1, recovered := false }] ∧ w.alloc (.cells #[.int .i64 0, .int .i64 0, .int .u64 0, .int .i64 0] 25) = w' := by
  go_enter Tryd.func23, Tryd.ntmps23
  go_wp2_with (first
    | (go_at_call 27; refine (wide_ok _ _ h1 h2).mono ?_; rintro e w' ⟨rfl, rfl⟩)
    | (go_at_call 28; refine (must_no _ _).mono ?_; rintro e w' ⟨rfl, rfl⟩))
  exact ⟨rfl, rfl, rfl⟩

/-- may a key of that width be? -/
def Fit (wd : Int) (n key : Nat) : Prop := wd - 1 = (n : Int) ∧ 3 ≤ wd ∧ wd ≤ 65 ∧ 0 < key ∧ key < 2 ^ n

theorem split_no (wd : Int) (key : Nat) (w : World) (h : ¬ ∃ n, Fit wd n key) :
    Calls Tryd.prog 23 #[.int .i64 wd, .int .u64 key] w fun e w' => e = .panicked [{ v := ref 1, recovered := false }] ∧ w.alloc (.cells #[.int .i64 0, .int .i64 0, .int .u64 0, .int .i64 0] 25) = w' := by
  by_cases hw : 3 ≤ wd ∧ wd ≤ 65
  · obtain ⟨n, hn⟩ : ∃ n : Nat, wd - 1 = (n : Int) := ⟨(wd - 1).toNat, by omega⟩
    by_cases k0 : key = 0
    · subst k0
      exact split_no_zero wd w hw.1 hw.2
    · have hk : 2 ^ n ≤ key := by
        apply Nat.le_of_not_lt
        intro hk
        exact h ⟨n, hn, hw.1, hw.2, by omega, hk⟩
      refine split_no_key wd n key w hn hw.1 hw.2 (by simp; omega) ?_
      have hp1 := pow_pred (n := n) (by omega)
      have : 1 ≤ key / 2 ^ (n - 1) / 2 := by
        rw [Nat.div_div_eq_div_mul, Nat.mul_comm, ← hp1]
        exact (Nat.le_div_iff_mul_le (Nat.two_pow_pos n)).2 (by omega)
      rw [cast_shr]
      generalize key / 2 ^ (n - 1) = x at *
      simp; omega
  · exact split_no_width wd key w hw

theorem bcell {W w1 : World} (hb : Below W.heap.size W w1) : (∀ b o, b < W.heap.size → w1.cell? ⟨b, o, none⟩ = W.cell? ⟨b, o, none⟩) ∧ (∀ b o, b < W.heap.size → w1.frozen? ⟨b, o, none⟩ = W.frozen? ⟨b, o, none⟩) :=
  ⟨fun b o h => hb.cell (p := ⟨b, o, none⟩) h, fun b o h => hb.frozen (p := ⟨b, o, none⟩) h⟩

theorem leaves_ret {P : Program} {fn : Func} {tmps : Array Value} {R : Ending → World → Prop} {w : World} {v : Value} (h1 : (results fn tmps).run P w = .ok v w) (h2 : R (.returned v) w) :
    Leaves P fn tmps R [] (settle .returning) w := ⟨v, h1, h2⟩
theorem leaves_rec {P : Program} {fn : Func} {tmps : Array Value} {R : Ending → World → Prop} {w : World} {v x : Value} (h1 : (results fn tmps).run P w = .ok v w) (h2 : R (.returned v) w) :
    Leaves P fn tmps R [] (settle (.panicking [{ v := x, recovered := true }])) w := ⟨v, h1, h2⟩

theorem Split_yes (wd : Int) (n key : Nat) (w : World) (h : Fit wd n key) :
    Calls Tryd.prog 12 #[.int .i64 wd, .int .u64 key] w fun e w' => e = .returned (.tuple #[.agg #[.int .i64 (fReg n key), .int .i64 (fExp n key), .int .u64 (fFrac n key), .int .i64 (fBits n key)], .int .i64 0]) ∧ Below w.heap.size w w' := by
  obtain ⟨hn, h1, h2, h3, h4⟩ := h
  have S := Lib.hid (fun w => split_fields wd n key w hn h1 h2 h3 h4)
  clear hn h1 h2 h3 h4
  go_enter_defers Tryd.func12, Tryd.ntmps12
  go_wp2_with fail
  refine (S.out _).mono ?_; rintro e w1 ⟨rfl, rfl⟩
  go_wp2_with fail
  refine leaves_cons (f := 22) (args := #[.pointer (some ⟨w.heap.size + 1, 0, none⟩)]) (by simp) (by simp [go_sem]) ?_
  refine (caught_idle _ _).mono ?_
  rintro e u' w'' ⟨rfl, rfl, rfl⟩
  refine leaves_ret (v := .tuple #[.agg #[.int .i64 (fReg n key), .int .i64 (fExp n key), .int .u64 (fFrac n key), .int .i64 (fBits n key)], .int .i64 0]) ?_ ⟨rfl, ?_⟩
  · simp [results, Tryd.results12, go_sem]
  · exact (((Below.refl _ _).alloc (Nat.le_refl _) _).alloc (by simp) _).alloc (by simp; omega) _

theorem Split_no (wd : Int) (key : Nat) (w : World) (h : ¬ ∃ n, Fit wd n key) :
    Calls Tryd.prog 12 #[.int .i64 wd, .int .u64 key] w fun e w' => e = .returned (.tuple #[.agg #[.int .i64 0, .int .i64 0, .int .u64 0, .int .i64 0], .int .i64 1]) ∧ Below w.heap.size w w' := by
  have S := Lib.hid (fun w => split_no wd key w h)
  clear h
  go_enter_defers Tryd.func12, Tryd.ntmps12
  go_wp2_with fail
  refine (S.out _).mono ?_; rintro e w1 ⟨rfl, rfl⟩
  go_wp2_with fail
  refine leaves_cons (f := 22) (args := #[.pointer (some ⟨w.heap.size + 1, 0, none⟩)]) (by simp) (by simp [go_sem]) ?_
  refine (caught_panicking _ 0 1 [] _ (by simp [go_sem]) (by simp [go_sem]) (by simp)).mono ?_
  rintro e u' w'' ⟨rfl, rfl, rfl⟩
  refine leaves_rec (v := .tuple #[.agg #[.int .i64 0, .int .i64 0, .int .u64 0, .int .i64 0], .int .i64 1]) ?_ ⟨rfl, ?_⟩
  · simp [results, Tryd.results12, go_sem]
  · refine Below.setCell ?_ (by simp) _
    exact ((((Below.refl _ _).alloc (Nat.le_refl _) _).alloc (by simp) _).alloc (by simp; omega) _).alloc (by simp; omega) _
end Go.Proofs.YtfmecakoccnblaaDoor

/- PositJoins walked: fields have the key that the document says, if they have one. Conditions: the table of math-bits lies as the text lays it. -/
import Derived.Test.YtfmecakoccnblaaDoorPositRjoin
import Derived.Test.YtfmecakoccnblaaDoorPositDoubles
set_option linter.unusedVariables false
namespace Go.Proofs.YtfmecakoccnblaaDoor
open Go.RowKit

theorem box_top {w w1 : World} {o : Obj} (h : Below (w.alloc o).heap.size (w.alloc o) w1) : Below (w.heap.size + 1) (w.alloc o) w1 := by
  rw [World.size_alloc] at h; exact h

theorem joins_walk (wd rg ex bt : Int) (fr : Nat) (k e x : Int) (ok : Bool) (w : World) (hT : Tab w)
    (J : ∀ w, Calls Tryd.prog 20 #[.int .i64 wd, .agg #[.int .i64 rg, .int .i64 ex, .int .u64 fr, .int .i64 bt]] w fun r w' => r = .returned (.tuple #[.int .u64 k, .int .i64 e]) ∧ Below w.heap.size w w')
    (R : ∀ w, Calls Tryd.prog 21 #[.int .i64 wd, .agg #[.int .i64 rg, .int .i64 ex, .int .u64 fr, .int .i64 bt]] w fun r w' => (∃ x : Int, (ok = true → x = k) ∧ r = .returned (.tuple #[.int .u64 x, .bool ok])) ∧ Below w.heap.size w w')
    (h : ok = true ∧ e = 0 ∨ ok = false ∧ e = 1 ∧ k = 0) :
    Calls Tryd.prog 7 #[.int .i64 wd, .agg #[.int .i64 rg, .int .i64 ex, .int .u64 fr, .int .i64 bt]] w fun r w' => r = .returned (.bool true) ∧ Below w.heap.size w w' := by
  have J' := Lib.hid J
  have R' := Lib.hid R
  have hTab := Lib.hid hT
  clear J R hT
  rcases h with ⟨rfl, rfl⟩ | ⟨rfl, rfl, rfl⟩
  · go_enter Tryd.func7, Tryd.ntmps7
    go_wp2_with fail
    refine (shown_true _ (hTab.out.alloc _)).mono ?_; rintro r w1 ⟨rfl, b1⟩
    have B1 := Lib.hid (box_top b1)
    clear b1
    obtain ⟨c0, c1, c2, c3, csz⟩ := box_read B1.out
    go_wp2_with fail
    with_reducible (refine (J'.out _).mono ?_)
    rintro r w2 ⟨rfl, b2⟩
    have B2 := Lib.hid (box_then B1.out b2)
    clear b2 c0 c1 c2 c3 csz
    obtain ⟨c0, c1, c2, c3, csz⟩ := box_read B2.out
    go_wp2_with fail
    with_reducible (refine (R'.out _).mono ?_)
    rintro r w3 ⟨⟨x, hx, rfl⟩, b3⟩
    obtain rfl := hx trivial
    have B3 := Lib.hid (box_then B2.out b3)
    clear b3 hx
    go_wp2_with fail
    go_ret
    exact ⟨rfl, box_low B3.out⟩
  · go_enter Tryd.func7, Tryd.ntmps7
    go_wp2_with fail
    refine (shown_true _ (hTab.out.alloc _)).mono ?_; rintro r w1 ⟨rfl, b1⟩
    have B1 := Lib.hid (box_top b1)
    clear b1
    obtain ⟨c0, c1, c2, c3, csz⟩ := box_read B1.out
    go_wp2_with fail
    with_reducible (refine (J'.out _).mono ?_)
    rintro r w2 ⟨rfl, b2⟩
    have B2 := Lib.hid (box_then B1.out b2)
    clear b2 c0 c1 c2 c3 csz
    obtain ⟨c0, c1, c2, c3, csz⟩ := box_read B2.out
    go_wp2_with fail
    with_reducible (refine (R'.out _).mono ?_)
    rintro r w3 ⟨⟨x, hx, rfl⟩, b3⟩
    have B3 := Lib.hid (box_then B2.out b3)
    clear b3 hx
    go_wp2_with fail
    go_ret
    exact ⟨rfl, box_low B3.out⟩

theorem joins_any (wd rg ex bt : Int) (fr : Nat) (hfr : fr < 18446744073709551616) (w : World) (hT : Tab w) :
    Calls Tryd.prog 7 #[.int .i64 wd, .agg #[.int .i64 rg, .int .i64 ex, .int .u64 fr, .int .i64 bt]] w fun r w' => r = .returned (.bool true) ∧ Below w.heap.size w w' := by
  by_cases h : ∃ n key, Fit wd n key ∧ fReg n key = rg ∧ (fExp n key : Int) = ex ∧ fFrac n key = fr ∧ (fBits n key : Int) = bt
  · obtain ⟨n, key, hF, e1, e2, e3, e4⟩ := h
    have J := fun w => Join_yes wd n key w hF
    rw [e1, e2, e3, e4] at J
    refine joins_walk wd rg ex bt fr key 0 0 true w hT J (fun w => (refJoin_any wd rg ex bt fr hfr w).mono ?_) (Or.inl ⟨rfl, rfl⟩)
    rintro r w' ⟨hr, hb⟩
    refine ⟨?_, hb⟩
    rcases hr with ⟨n', key', hF', f1, f2, f3, f4, hr⟩ | ⟨hno, _⟩
    · obtain rfl : n' = n := by have := hF.1; have := hF'.1; omega
      obtain ⟨a1, a2, a3, a4, a5⟩ := hF
      obtain ⟨_, _, _, b4, b5⟩ := hF'
      have n2 : 2 ≤ n' := by omega
      have n64 : n' ≤ 64 := by omega
      have hk : key' = key := by
        apply W_inj n2 n64 b4 b5 a4 a5
        rw [W_fields n2 n64 b4 b5, W_fields n2 n64 a4 a5, f1, e1, f3, e3, f2, e2]
        have : fBits n' key' = fBits n' key := by omega
        rw [this]
      subst hk
      exact ⟨_, fun _ => rfl, hr⟩
    · exact absurd ⟨n, key, hF, e1, e2, e3, e4⟩ hno
  · refine joins_walk wd rg ex bt fr 0 1 0 false w hT (fun w => Join_no wd rg ex bt fr w h) (fun w => (refJoin_any wd rg ex bt fr hfr w).mono ?_) (Or.inr ⟨rfl, rfl, rfl⟩)
    rintro r w' ⟨hr, hb⟩
    refine ⟨?_, hb⟩
    rcases hr with ⟨n', key', hF', f1, f2, f3, f4, hr⟩ | ⟨_, x, hr⟩
    · exact absurd ⟨n', key', hF', f1, f2, f3, f4⟩ h
    · exact ⟨x, (by simp), hr⟩
theorem walk_PositJoins (a0 : Int) (_ : (Lit.int .i64 a0).wf = true) (b0 b1 b2 b3 : Int) (_ : (Lit.int .i64 b0).wf = true) (_ : (Lit.int .i64 b1).wf = true) (w2 : (Lit.int .u64 b2).wf = true) (_ : (Lit.int .i64 b3).wf = true) (w : World) (hT : Tab w) :
    Calls Tryd.prog 7 #[.int .i64 a0, .agg #[.int .i64 b0, .int .i64 b1, .int .u64 b2, .int .i64 b3]] w fun e w' => e = .returned (.bool true) ∧ Below w.heap.size w w' := by
  obtain ⟨k, rfl, hk⟩ := u64_nat w2
  exact joins_any a0 b0 b1 b3 k hk w hT
end Go.Proofs.YtfmecakoccnblaaDoor

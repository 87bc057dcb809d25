/- posit.Join walked: what it refuses. Conditions: as each theorem names them. -/
import Derived.Test.YtfmecakoccnblaaDoorPositJn
set_option linter.unusedVariables false
namespace Go.Proofs.YtfmecakoccnblaaDoor
open Go.RowKit

theorem jbelow {w a : World} (h : Below w.heap.size w a) {p q : Addr} {u v x : Value} {o : Obj} (hq : w.heap.size ≤ q.block := by simp) (hp : w.heap.size ≤ p.block := by simp; omega) :
    Below w.heap.size w ((((a.alloc o).setCell p u).setCell q v).setCell p x) :=
  (((bgrow h o).setCell hp u).setCell hq v).setCell hp x
theorem Join_width (wd reg ex bts : Int) (fr : Nat) (w : World) (h : ¬ (3 ≤ wd ∧ wd ≤ 65)) :
    Calls Tryd.prog 20 #[.int .i64 wd, .agg #[.int .i64 reg, .int .i64 ex, .int .u64 fr, .int .i64 bts]] w fun r w' => r = .returned (.tuple #[.int .u64 0, .int .i64 1]) ∧ Below w.heap.size w w' := by
  have hmf : ∀ (fn : Fn) (first cap : Array Value) (w : World), (Instr.makeFunc fn first cap).run Tryd.prog w = .ok (.func fn first cap) w := fun _ _ _ _ => rfl
  go_enter_defers Tryd.func20, Tryd.ntmps20
  go_wp2_with fail
  refine (wide_no _ _ h).mono ?_; rintro r w1 ⟨rfl, rfl⟩
  go_wp2_with fail
  refine leaves_cons (f := 22) (args := #[.pointer (some ⟨w.heap.size + 1 + 1, 0, none⟩)]) (by simp) (by simp [go_sem]) ?_
  refine (caught_panicking _ 0 1 [] _ (by simp [go_sem]) (by simp [go_sem]) (by simp)).mono ?_
  rintro e u' w'' ⟨rfl, rfl, rfl⟩
  refine leaves_cons (f := 33) (args := #[.pointer (some ⟨w.heap.size + 1 + 1, 0, none⟩), .pointer (some ⟨w.heap.size + 1, 0, none⟩)]) (by simp [settle]) (by simp [go_sem]) ?_
  refine (fix_err _ _ _ 1 (.int .u64 0) (by simp [go_sem]) (by decide) (by simp [go_sem]) (by simp [go_sem]) (by simp [go_sem]) (by simp [go_sem]) (by simp [go_sem])).mono ?_
  rintro e u' w'' ⟨rfl, rfl, rfl⟩
  refine leaves_ret (v := .tuple #[.int .u64 0, .int .i64 1]) ?_ ⟨rfl, ?_⟩
  · simp [results, Tryd.results20, go_sem]
  · exact jbelow ((((Below.refl _ _).alloc (Nat.le_refl _) _).alloc (by simp) _).alloc (by simp; omega) _)
theorem Join_range0 (wd reg ex bts : Int) (fr : Nat) (w : World) (h1 : 3 ≤ wd) (h2 : wd ≤ 65)  (f0 : ¬ 0 ≤ ex) :
    Calls Tryd.prog 20 #[.int .i64 wd, .agg #[.int .i64 reg, .int .i64 ex, .int .u64 fr, .int .i64 bts]] w fun r w' => r = .returned (.tuple #[.int .u64 0, .int .i64 1]) ∧ Below w.heap.size w w' := by
  have fb : decide (0 ≤ ex) = false := by simp; omega
  have hmf : ∀ (fn : Fn) (first cap : Array Value) (w : World), (Instr.makeFunc fn first cap).run Tryd.prog w = .ok (.func fn first cap) w := fun _ _ _ _ => rfl
  go_enter_defers Tryd.func20, Tryd.ntmps20
  go_wp2_with fail
  refine (wide_ok _ _ h1 h2).mono ?_; rintro r w1 ⟨rfl, rfl⟩
  go_wp2_with fail
  refine (must_no _ _).mono ?_; rintro r w1 ⟨rfl, rfl⟩
  go_wp2_with fail
  refine leaves_cons (f := 22) (args := #[.pointer (some ⟨w.heap.size + 1 + 1, 0, none⟩)]) (by simp) (by simp [go_sem]) ?_
  refine (caught_panicking _ 0 1 [] _ (by simp [go_sem]) (by simp [go_sem]) (by simp)).mono ?_
  rintro e u' w'' ⟨rfl, rfl, rfl⟩
  refine leaves_cons (f := 33) (args := #[.pointer (some ⟨w.heap.size + 1 + 1, 0, none⟩), .pointer (some ⟨w.heap.size + 1, 0, none⟩)]) (by simp [settle]) (by simp [go_sem]) ?_
  refine (fix_err _ _ _ 1 (.int .u64 0) (by simp [go_sem]) (by decide) (by simp [go_sem]) (by simp [go_sem]) (by simp [go_sem]) (by simp [go_sem]) (by simp [go_sem])).mono ?_
  rintro e u' w'' ⟨rfl, rfl, rfl⟩
  refine leaves_ret (v := .tuple #[.int .u64 0, .int .i64 1]) ?_ ⟨rfl, ?_⟩
  · simp [results, Tryd.results20, go_sem]
  · exact jbelow ((((Below.refl _ _).alloc (Nat.le_refl _) _).alloc (by simp) _).alloc (by simp; omega) _)
theorem Join_range1 (wd reg ex bts : Int) (fr : Nat) (w : World) (h1 : 3 ≤ wd) (h2 : wd ≤ 65) (t0 : 0 ≤ ex) (f1 : ¬ ex < 4) :
    Calls Tryd.prog 20 #[.int .i64 wd, .agg #[.int .i64 reg, .int .i64 ex, .int .u64 fr, .int .i64 bts]] w fun r w' => r = .returned (.tuple #[.int .u64 0, .int .i64 1]) ∧ Below w.heap.size w w' := by
  have fb : decide (ex < 4) = false := by simp; omega
  have hmf : ∀ (fn : Fn) (first cap : Array Value) (w : World), (Instr.makeFunc fn first cap).run Tryd.prog w = .ok (.func fn first cap) w := fun _ _ _ _ => rfl
  go_enter_defers Tryd.func20, Tryd.ntmps20
  go_wp2_with fail
  refine (wide_ok _ _ h1 h2).mono ?_; rintro r w1 ⟨rfl, rfl⟩
  go_wp2_with fail
  refine (must_no _ _).mono ?_; rintro r w1 ⟨rfl, rfl⟩
  go_wp2_with fail
  refine leaves_cons (f := 22) (args := #[.pointer (some ⟨w.heap.size + 1 + 1, 0, none⟩)]) (by simp) (by simp [go_sem]) ?_
  refine (caught_panicking _ 0 1 [] _ (by simp [go_sem]) (by simp [go_sem]) (by simp)).mono ?_
  rintro e u' w'' ⟨rfl, rfl, rfl⟩
  refine leaves_cons (f := 33) (args := #[.pointer (some ⟨w.heap.size + 1 + 1, 0, none⟩), .pointer (some ⟨w.heap.size + 1, 0, none⟩)]) (by simp [settle]) (by simp [go_sem]) ?_
  refine (fix_err _ _ _ 1 (.int .u64 0) (by simp [go_sem]) (by decide) (by simp [go_sem]) (by simp [go_sem]) (by simp [go_sem]) (by simp [go_sem]) (by simp [go_sem])).mono ?_
  rintro e u' w'' ⟨rfl, rfl, rfl⟩
  refine leaves_ret (v := .tuple #[.int .u64 0, .int .i64 1]) ?_ ⟨rfl, ?_⟩
  · simp [results, Tryd.results20, go_sem]
  · exact jbelow ((((Below.refl _ _).alloc (Nat.le_refl _) _).alloc (by simp) _).alloc (by simp; omega) _)
theorem Join_range2 (wd reg ex bts : Int) (fr : Nat) (w : World) (h1 : 3 ≤ wd) (h2 : wd ≤ 65) (t0 : 0 ≤ ex) (t1 : ex < 4) (f2 : ¬ 0 ≤ bts) :
    Calls Tryd.prog 20 #[.int .i64 wd, .agg #[.int .i64 reg, .int .i64 ex, .int .u64 fr, .int .i64 bts]] w fun r w' => r = .returned (.tuple #[.int .u64 0, .int .i64 1]) ∧ Below w.heap.size w w' := by
  have fb : decide (0 ≤ bts) = false := by simp; omega
  have hmf : ∀ (fn : Fn) (first cap : Array Value) (w : World), (Instr.makeFunc fn first cap).run Tryd.prog w = .ok (.func fn first cap) w := fun _ _ _ _ => rfl
  go_enter_defers Tryd.func20, Tryd.ntmps20
  go_wp2_with fail
  refine (wide_ok _ _ h1 h2).mono ?_; rintro r w1 ⟨rfl, rfl⟩
  go_wp2_with fail
  refine (must_no _ _).mono ?_; rintro r w1 ⟨rfl, rfl⟩
  go_wp2_with fail
  refine leaves_cons (f := 22) (args := #[.pointer (some ⟨w.heap.size + 1 + 1, 0, none⟩)]) (by simp) (by simp [go_sem]) ?_
  refine (caught_panicking _ 0 1 [] _ (by simp [go_sem]) (by simp [go_sem]) (by simp)).mono ?_
  rintro e u' w'' ⟨rfl, rfl, rfl⟩
  refine leaves_cons (f := 33) (args := #[.pointer (some ⟨w.heap.size + 1 + 1, 0, none⟩), .pointer (some ⟨w.heap.size + 1, 0, none⟩)]) (by simp [settle]) (by simp [go_sem]) ?_
  refine (fix_err _ _ _ 1 (.int .u64 0) (by simp [go_sem]) (by decide) (by simp [go_sem]) (by simp [go_sem]) (by simp [go_sem]) (by simp [go_sem]) (by simp [go_sem])).mono ?_
  rintro e u' w'' ⟨rfl, rfl, rfl⟩
  refine leaves_ret (v := .tuple #[.int .u64 0, .int .i64 1]) ?_ ⟨rfl, ?_⟩
  · simp [results, Tryd.results20, go_sem]
  · exact jbelow ((((Below.refl _ _).alloc (Nat.le_refl _) _).alloc (by simp) _).alloc (by simp; omega) _)
theorem Join_range3 (wd reg ex bts : Int) (fr : Nat) (w : World) (h1 : 3 ≤ wd) (h2 : wd ≤ 65) (t0 : 0 ≤ ex) (t1 : ex < 4) (t2 : 0 ≤ bts) (f3 : ¬ bts < 65) :
    Calls Tryd.prog 20 #[.int .i64 wd, .agg #[.int .i64 reg, .int .i64 ex, .int .u64 fr, .int .i64 bts]] w fun r w' => r = .returned (.tuple #[.int .u64 0, .int .i64 1]) ∧ Below w.heap.size w w' := by
  have fb : decide (bts < 65) = false := by simp; omega
  have hmf : ∀ (fn : Fn) (first cap : Array Value) (w : World), (Instr.makeFunc fn first cap).run Tryd.prog w = .ok (.func fn first cap) w := fun _ _ _ _ => rfl
  go_enter_defers Tryd.func20, Tryd.ntmps20
  go_wp2_with fail
  refine (wide_ok _ _ h1 h2).mono ?_; rintro r w1 ⟨rfl, rfl⟩
  go_wp2_with fail
  refine (must_no _ _).mono ?_; rintro r w1 ⟨rfl, rfl⟩
  go_wp2_with fail
  refine leaves_cons (f := 22) (args := #[.pointer (some ⟨w.heap.size + 1 + 1, 0, none⟩)]) (by simp) (by simp [go_sem]) ?_
  refine (caught_panicking _ 0 1 [] _ (by simp [go_sem]) (by simp [go_sem]) (by simp)).mono ?_
  rintro e u' w'' ⟨rfl, rfl, rfl⟩
  refine leaves_cons (f := 33) (args := #[.pointer (some ⟨w.heap.size + 1 + 1, 0, none⟩), .pointer (some ⟨w.heap.size + 1, 0, none⟩)]) (by simp [settle]) (by simp [go_sem]) ?_
  refine (fix_err _ _ _ 1 (.int .u64 0) (by simp [go_sem]) (by decide) (by simp [go_sem]) (by simp [go_sem]) (by simp [go_sem]) (by simp [go_sem]) (by simp [go_sem])).mono ?_
  rintro e u' w'' ⟨rfl, rfl, rfl⟩
  refine leaves_ret (v := .tuple #[.int .u64 0, .int .i64 1]) ?_ ⟨rfl, ?_⟩
  · simp [results, Tryd.results20, go_sem]
  · exact jbelow ((((Below.refl _ _).alloc (Nat.le_refl _) _).alloc (by simp) _).alloc (by simp; omega) _)
theorem Join_range4 (wd reg ex bts : Int) (fr : Nat) (w : World) (h1 : 3 ≤ wd) (h2 : wd ≤ 65) (t0 : 0 ≤ ex) (t1 : ex < 4) (t2 : 0 ≤ bts) (t3 : bts < 65) (f4 : ¬ -65 < reg) :
    Calls Tryd.prog 20 #[.int .i64 wd, .agg #[.int .i64 reg, .int .i64 ex, .int .u64 fr, .int .i64 bts]] w fun r w' => r = .returned (.tuple #[.int .u64 0, .int .i64 1]) ∧ Below w.heap.size w w' := by
  have fb : decide (-65 < reg) = false := by simp; omega
  have hmf : ∀ (fn : Fn) (first cap : Array Value) (w : World), (Instr.makeFunc fn first cap).run Tryd.prog w = .ok (.func fn first cap) w := fun _ _ _ _ => rfl
  go_enter_defers Tryd.func20, Tryd.ntmps20
  go_wp2_with fail
  refine (wide_ok _ _ h1 h2).mono ?_; rintro r w1 ⟨rfl, rfl⟩
  go_wp2_with fail
  refine (must_no _ _).mono ?_; rintro r w1 ⟨rfl, rfl⟩
  go_wp2_with fail
  refine leaves_cons (f := 22) (args := #[.pointer (some ⟨w.heap.size + 1 + 1, 0, none⟩)]) (by simp) (by simp [go_sem]) ?_
  refine (caught_panicking _ 0 1 [] _ (by simp [go_sem]) (by simp [go_sem]) (by simp)).mono ?_
  rintro e u' w'' ⟨rfl, rfl, rfl⟩
  refine leaves_cons (f := 33) (args := #[.pointer (some ⟨w.heap.size + 1 + 1, 0, none⟩), .pointer (some ⟨w.heap.size + 1, 0, none⟩)]) (by simp [settle]) (by simp [go_sem]) ?_
  refine (fix_err _ _ _ 1 (.int .u64 0) (by simp [go_sem]) (by decide) (by simp [go_sem]) (by simp [go_sem]) (by simp [go_sem]) (by simp [go_sem]) (by simp [go_sem])).mono ?_
  rintro e u' w'' ⟨rfl, rfl, rfl⟩
  refine leaves_ret (v := .tuple #[.int .u64 0, .int .i64 1]) ?_ ⟨rfl, ?_⟩
  · simp [results, Tryd.results20, go_sem]
  · exact jbelow ((((Below.refl _ _).alloc (Nat.le_refl _) _).alloc (by simp) _).alloc (by simp; omega) _)
theorem Join_range5 (wd reg ex bts : Int) (fr : Nat) (w : World) (h1 : 3 ≤ wd) (h2 : wd ≤ 65) (t0 : 0 ≤ ex) (t1 : ex < 4) (t2 : 0 ≤ bts) (t3 : bts < 65) (t4 : -65 < reg) (f5 : ¬ reg < 65) :
    Calls Tryd.prog 20 #[.int .i64 wd, .agg #[.int .i64 reg, .int .i64 ex, .int .u64 fr, .int .i64 bts]] w fun r w' => r = .returned (.tuple #[.int .u64 0, .int .i64 1]) ∧ Below w.heap.size w w' := by
  have fb : decide (reg < 65) = false := by simp; omega
  have hmf : ∀ (fn : Fn) (first cap : Array Value) (w : World), (Instr.makeFunc fn first cap).run Tryd.prog w = .ok (.func fn first cap) w := fun _ _ _ _ => rfl
  go_enter_defers Tryd.func20, Tryd.ntmps20
  go_wp2_with fail
  refine (wide_ok _ _ h1 h2).mono ?_; rintro r w1 ⟨rfl, rfl⟩
  go_wp2_with fail
  refine (must_no _ _).mono ?_; rintro r w1 ⟨rfl, rfl⟩
  go_wp2_with fail
  refine leaves_cons (f := 22) (args := #[.pointer (some ⟨w.heap.size + 1 + 1, 0, none⟩)]) (by simp) (by simp [go_sem]) ?_
  refine (caught_panicking _ 0 1 [] _ (by simp [go_sem]) (by simp [go_sem]) (by simp)).mono ?_
  rintro e u' w'' ⟨rfl, rfl, rfl⟩
  refine leaves_cons (f := 33) (args := #[.pointer (some ⟨w.heap.size + 1 + 1, 0, none⟩), .pointer (some ⟨w.heap.size + 1, 0, none⟩)]) (by simp [settle]) (by simp [go_sem]) ?_
  refine (fix_err _ _ _ 1 (.int .u64 0) (by simp [go_sem]) (by decide) (by simp [go_sem]) (by simp [go_sem]) (by simp [go_sem]) (by simp [go_sem]) (by simp [go_sem])).mono ?_
  rintro e u' w'' ⟨rfl, rfl, rfl⟩
  refine leaves_ret (v := .tuple #[.int .u64 0, .int .i64 1]) ?_ ⟨rfl, ?_⟩
  · simp [results, Tryd.results20, go_sem]
  · exact jbelow ((((Below.refl _ _).alloc (Nat.le_refl _) _).alloc (by simp) _).alloc (by simp; omega) _)
theorem Join_bits (wd reg ex bts : Int) (fr : Nat) (w : World) (h1 : 3 ≤ wd) (h2 : wd ≤ 65) (t0 : 0 ≤ ex) (t1 : ex < 4) (t2 : 0 ≤ bts) (t3 : bts < 65) (t4 : -65 < reg) (t5 : reg < 65) (f6 : 62 < bts) :
    Calls Tryd.prog 20 #[.int .i64 wd, .agg #[.int .i64 reg, .int .i64 ex, .int .u64 fr, .int .i64 bts]] w fun r w' => r = .returned (.tuple #[.int .u64 0, .int .i64 1]) ∧ Below w.heap.size w w' := by
  have fb : decide (bts + 2 ≤ 64) = false := by simp; omega
  have hmf : ∀ (fn : Fn) (first cap : Array Value) (w : World), (Instr.makeFunc fn first cap).run Tryd.prog w = .ok (.func fn first cap) w := fun _ _ _ _ => rfl
  go_enter_defers Tryd.func20, Tryd.ntmps20
  go_wp2_with fail
  refine (wide_ok _ _ h1 h2).mono ?_; rintro r w1 ⟨rfl, rfl⟩
  go_wp2_with fail
  refine (must_ok _ _).mono ?_; rintro r w1 ⟨rfl, rfl⟩
  go_wp2_with fail
  refine (must_no _ _).mono ?_; rintro r w1 ⟨rfl, rfl⟩
  go_wp2_with fail
  refine leaves_cons (f := 22) (args := #[.pointer (some ⟨w.heap.size + 1 + 1, 0, none⟩)]) (by simp) (by simp [go_sem]) ?_
  refine (caught_panicking _ 0 1 [] _ (by simp [go_sem]) (by simp [go_sem]) (by simp)).mono ?_
  rintro e u' w'' ⟨rfl, rfl, rfl⟩
  refine leaves_cons (f := 33) (args := #[.pointer (some ⟨w.heap.size + 1 + 1, 0, none⟩), .pointer (some ⟨w.heap.size + 1, 0, none⟩)]) (by simp [settle]) (by simp [go_sem]) ?_
  refine (fix_err _ _ _ 1 (.int .u64 0) (by simp [go_sem]) (by decide) (by simp [go_sem]) (by simp [go_sem]) (by simp [go_sem]) (by simp [go_sem]) (by simp [go_sem])).mono ?_
  rintro e u' w'' ⟨rfl, rfl, rfl⟩
  refine leaves_ret (v := .tuple #[.int .u64 0, .int .i64 1]) ?_ ⟨rfl, ?_⟩
  · simp [results, Tryd.results20, go_sem]
  · exact jbelow ((((Below.refl _ _).alloc (Nat.le_refl _) _).alloc (by simp) _).alloc (by simp; omega) _)
theorem Join_frac (wd reg ex : Int) (bts fr : Nat) (w : World) (h1 : 3 ≤ wd) (h2 : wd ≤ 65) (t0 : 0 ≤ ex) (t1 : ex < 4) (t3 : bts ≤ 62) (t4 : -65 < reg) (t5 : reg < 65) (f6 : ((fr : Int) / 2 ^ bts == 0) = false) :
    Calls Tryd.prog 20 #[.int .i64 wd, .agg #[.int .i64 reg, .int .i64 ex, .int .u64 fr, .int .i64 bts]] w fun r w' => r = .returned (.tuple #[.int .u64 0, .int .i64 1]) ∧ Below w.heap.size w w' := by
  have fb : decide ((bts : Int) + 2 ≤ 64) = true := by simp; omega
  have hmf : ∀ (fn : Fn) (first cap : Array Value) (w : World), (Instr.makeFunc fn first cap).run Tryd.prog w = .ok (.func fn first cap) w := fun _ _ _ _ => rfl
  go_enter_defers Tryd.func20, Tryd.ntmps20
  go_wp2_with fail
  refine (wide_ok _ _ h1 h2).mono ?_; rintro r w1 ⟨rfl, rfl⟩
  go_wp2_with fail
  refine (must_ok _ _).mono ?_; rintro r w1 ⟨rfl, rfl⟩
  go_wp2_with fail
  refine (must_no _ _).mono ?_; rintro r w1 ⟨rfl, rfl⟩
  go_wp2_with fail
  refine leaves_cons (f := 22) (args := #[.pointer (some ⟨w.heap.size + 1 + 1, 0, none⟩)]) (by simp) (by simp [go_sem]) ?_
  refine (caught_panicking _ 0 1 [] _ (by simp [go_sem]) (by simp [go_sem]) (by simp)).mono ?_
  rintro e u' w'' ⟨rfl, rfl, rfl⟩
  refine leaves_cons (f := 33) (args := #[.pointer (some ⟨w.heap.size + 1 + 1, 0, none⟩), .pointer (some ⟨w.heap.size + 1, 0, none⟩)]) (by simp [settle]) (by simp [go_sem]) ?_
  refine (fix_err _ _ _ 1 (.int .u64 0) (by simp [go_sem]) (by decide) (by simp [go_sem]) (by simp [go_sem]) (by simp [go_sem]) (by simp [go_sem]) (by simp [go_sem])).mono ?_
  rintro e u' w'' ⟨rfl, rfl, rfl⟩
  refine leaves_ret (v := .tuple #[.int .u64 0, .int .i64 1]) ?_ ⟨rfl, ?_⟩
  · simp [results, Tryd.results20, go_sem]
  · exact jbelow ((((Below.refl _ _).alloc (Nat.le_refl _) _).alloc (by simp) _).alloc (by simp; omega) _)
theorem Join_none (wd reg : Int) (ex fr bts rest key : Nat) (w : World) (h1 : 3 ≤ wd) (h2 : wd ≤ 65) (r1 : -65 < reg) (r2 : reg < 65) (he : ex ≤ 3) (hb : bts ≤ 62)
    (hfr : ((fr : Int) / 2 ^ bts == 0) = true) (hor : bits .or .u64 (IntKind.u64.wrap ((ex : Int) * 2 ^ bts)) fr = (rest : Int))
    (J : ∀ w, Calls Tryd.prog 31 #[.int .i64 wd, .int .i64 reg, .int .u64 rest, .int .i64 ((bts : Int) + 2)] w fun r w' => r = .panicked [{ v := ref 8, recovered := false }] ∧ w = w') :
    Calls Tryd.prog 20 #[.int .i64 wd, .agg #[.int .i64 reg, .int .i64 ex, .int .u64 fr, .int .i64 bts]] w fun r w' => r = .returned (.tuple #[.int .u64 0, .int .i64 1]) ∧ Below w.heap.size w w' := by
  have hmf : ∀ (fn : Fn) (first cap : Array Value) (w : World), (Instr.makeFunc fn first cap).run Tryd.prog w = .ok (.func fn first cap) w := fun _ _ _ _ => rfl
  have hd : decide ((bts : Int) + 2 ≤ 64) = true := by simp; omega
  have hx2 : IntKind.u64.wrap (ex : Int) = (ex : Int) := wrap_u64_nat ex (by omega)
  have J' := Lib.hid J
  clear J
  go_enter_defers Tryd.func20, Tryd.ntmps20
  go_wp2_with fail
  refine (wide_ok _ _ h1 h2).mono ?_; rintro r w1 ⟨rfl, rfl⟩
  go_wp2_with fail
  refine (must_ok _ _).mono ?_; rintro r w1 ⟨rfl, rfl⟩
  go_wp2_with fail
  refine (must_ok _ _).mono ?_; rintro r w1 ⟨rfl, rfl⟩
  go_wp2_with fail
  refine wp_region_still_tail 15 (by kernel_rfl) (by kernel_rfl) ?_
  simp only [List.take_succ_cons, List.take_zero, List.drop_succ_cons, List.drop_zero]
  change wpStill _ _ ((((w.alloc (Obj.cells #[Value.int .i64 reg, Value.int .i64 ex, Value.int .u64 fr, Value.int .i64 bts] 25)).alloc (Obj.cells #[Value.int .u64 0] 22)).alloc (Obj.cells #[Value.int .i64 0] 26)).drew) (fun a' => wpList _ _ _ _ a' ((((w.alloc (Obj.cells #[Value.int .i64 reg, Value.int .i64 ex, Value.int .u64 fr, Value.int .i64 bts] 25)).alloc (Obj.cells #[Value.int .u64 0] 22)).alloc (Obj.cells #[Value.int .i64 0] 26)).drew)) _ _
  repeat still_step
  refine wpStill_nil ?_
  go_wp2_with fail
  refine (J'.out _).mono ?_; rintro r w1 ⟨rfl, rfl⟩
  go_wp2_with fail
  refine leaves_cons (f := 22) (args := #[.pointer (some ⟨w.heap.size + 1 + 1, 0, none⟩)]) (by simp) (by simp [go_sem]) ?_
  refine (caught_panicking _ 0 8 [] _ (by simp [go_sem]) (by simp [go_sem]) (by simp)).mono ?_
  rintro e u' w'' ⟨rfl, rfl, rfl⟩
  refine leaves_cons (f := 33) (args := #[.pointer (some ⟨w.heap.size + 1 + 1, 0, none⟩), .pointer (some ⟨w.heap.size + 1, 0, none⟩)]) (by simp [settle]) (by simp [go_sem]) ?_
  refine (fix_err _ _ _ 8 (.int .u64 0) (by simp [go_sem]) (by decide) (by simp [go_sem]) (by simp [go_sem]) (by simp [go_sem]) (by simp [go_sem]) (by simp [go_sem])).mono ?_
  rintro e u' w'' ⟨rfl, rfl, rfl⟩
  refine leaves_ret (v := .tuple #[.int .u64 0, .int .i64 1]) ?_ ⟨rfl, ?_⟩
  · simp [results, Tryd.results20, go_sem]
  · exact jbelow ((((Below.refl _ _).alloc (Nat.le_refl _) _).alloc (by simp) _).alloc (by simp; omega) _).drew
end Go.Proofs.YtfmecakoccnblaaDoor

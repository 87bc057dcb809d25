/- posit.Key walked, by cases. Conditions: as each theorem names them. -/
import Derived.Test.YtfmecakoccnblaaDoorPositJoins
import Derived.Test.YtfmecakoccnblaaDoorPositValue
import Derived.StillTailTactics
set_option linter.unusedVariables false
namespace Go.Proofs.YtfmecakoccnblaaDoor
open Go.RowKit

theorem len_any (x : Nat) (w : World) (h1 : x < 18446744073709551616) (n : Nat) (hn : Lib.bitLen x = n) :
    Calls Tryd.prog 30 #[.int .u64 x] w fun e w' => e = .returned (.int .i64 n) ∧ w = w' :=
  (Tryd.bits_Len64 x w (by omega) (by omega)).mono fun e w' ⟨h, hw⟩ => ⟨by rw [h, Int.toNat_natCast, hn], hw.symm⟩

theorem key_width (wd e : Int) (m : Nat) (w : World) (h : ¬ (3 ≤ wd ∧ wd ≤ 65)) :
    Calls Tryd.prog 16 #[.int .i64 wd, .int .u64 m, .int .i64 e] w fun r w' => r = .returned (.tuple #[.int .u64 0, .int .i64 1]) ∧ Below w.heap.size w w' := by
  go_enter_defers Tryd.func16, Tryd.ntmps16
  go_wp2_with fail
  refine (wide_no _ _ h).mono ?_; rintro r w1 ⟨rfl, rfl⟩
  go_wp2_with fail
  refine leaves_cons (f := 22) (args := #[.pointer (some ⟨w.heap.size, 0, none⟩)]) (by simp) (by simp [go_sem]) ?_
  refine (caught_panicking _ 0 1 [] _ (by simp [go_sem]) (by simp [go_sem]) (by simp)).mono ?_
  rintro e u' w'' ⟨rfl, rfl, rfl⟩
  refine leaves_rec (v := .tuple #[.int .u64 0, .int .i64 1]) ?_ ⟨rfl, ?_⟩
  · simp [results, Tryd.results16, go_sem]
  · refine Below.setCell ?_ (by simp) _
    exact ((Below.refl _ _).alloc (Nat.le_refl _) _).alloc (by simp) _

theorem key_zero (wd e : Int) (m : Nat) (w : World) (h1 : 3 ≤ wd) (h2 : wd ≤ 65) (hm : ((m : Int) != 0) = false) :
    Calls Tryd.prog 16 #[.int .i64 wd, .int .u64 m, .int .i64 e] w fun r w' => r = .returned (.tuple #[.int .u64 0, .int .i64 1]) ∧ Below w.heap.size w w' := by
  go_enter_defers Tryd.func16, Tryd.ntmps16
  go_wp2_with fail
  refine (wide_ok _ _ h1 h2).mono ?_; rintro r w1 ⟨rfl, rfl⟩
  go_wp2_with fail
  refine (must_no _ _).mono ?_; rintro r w1 ⟨rfl, rfl⟩
  go_wp2_with fail
  refine leaves_cons (f := 22) (args := #[.pointer (some ⟨w.heap.size, 0, none⟩)]) (by simp) (by simp [go_sem]) ?_
  refine (caught_panicking _ 0 1 [] _ (by simp [go_sem]) (by simp [go_sem]) (by simp)).mono ?_
  rintro e u' w'' ⟨rfl, rfl, rfl⟩
  refine leaves_rec (v := .tuple #[.int .u64 0, .int .i64 1]) ?_ ⟨rfl, ?_⟩
  · simp [results, Tryd.results16, go_sem]
  · refine Below.setCell ?_ (by simp) _
    exact ((Below.refl _ _).alloc (Nat.le_refl _) _).alloc (by simp) _

theorem key_far (wd e : Int) (m : Nat) (w : World) (h1 : 3 ≤ wd) (h2 : wd ≤ 65) (hm : ((m : Int) != 0) = true) (he : ¬ (-1000 < e ∧ e < 1000)) :
    Calls Tryd.prog 16 #[.int .i64 wd, .int .u64 m, .int .i64 e] w fun r w' => r = .returned (.tuple #[.int .u64 0, .int .i64 8]) ∧ Below w.heap.size w w' := by
  by_cases he1 : -1000 < e
  · have he2 : decide (e < 1000) = false := by simp; omega
    have he3 : 1000 ≤ e := by omega
    clear he
    go_enter_defers Tryd.func16, Tryd.ntmps16
    go_wp2_with fail
    refine (wide_ok _ _ h1 h2).mono ?_; rintro r w1 ⟨rfl, rfl⟩
    go_wp2_with fail
    refine (must_ok _ _).mono ?_; rintro r w1 ⟨rfl, rfl⟩
    go_wp2_with fail
    refine (must_no _ _).mono ?_; rintro r w1 ⟨rfl, rfl⟩
    go_wp2_with fail
    refine leaves_cons (f := 22) (args := #[.pointer (some ⟨w.heap.size, 0, none⟩)]) (by simp) (by simp [go_sem]) ?_
    refine (caught_panicking _ 0 8 [] _ (by simp [go_sem]) (by simp [go_sem]) (by simp)).mono ?_
    rintro e u' w'' ⟨rfl, rfl, rfl⟩
    refine leaves_rec (v := .tuple #[.int .u64 0, .int .i64 8]) ?_ ⟨rfl, ?_⟩
    · simp [results, Tryd.results16, go_sem]
    · refine Below.setCell ?_ (by simp) _
      exact ((Below.refl _ _).alloc (Nat.le_refl _) _).alloc (by simp) _
  · have he2 : decide (-1000 < e) = false := by simp; omega
    have he3 : e ≤ -1000 := by omega
    clear he he1
    go_enter_defers Tryd.func16, Tryd.ntmps16
    go_wp2_with fail
    refine (wide_ok _ _ h1 h2).mono ?_; rintro r w1 ⟨rfl, rfl⟩
    go_wp2_with fail
    refine (must_ok _ _).mono ?_; rintro r w1 ⟨rfl, rfl⟩
    go_wp2_with fail
    refine (must_no _ _).mono ?_; rintro r w1 ⟨rfl, rfl⟩
    go_wp2_with fail
    refine leaves_cons (f := 22) (args := #[.pointer (some ⟨w.heap.size, 0, none⟩)]) (by simp) (by simp [go_sem]) ?_
    refine (caught_panicking _ 0 8 [] _ (by simp [go_sem]) (by simp [go_sem]) (by simp)).mono ?_
    rintro e u' w'' ⟨rfl, rfl, rfl⟩
    refine leaves_rec (v := .tuple #[.int .u64 0, .int .i64 8]) ?_ ⟨rfl, ?_⟩
    · simp [results, Tryd.results16, go_sem]
    · refine Below.setCell ?_ (by simp) _
      exact ((Below.refl _ _).alloc (Nat.le_refl _) _).alloc (by simp) _

theorem key_big (wd e e1 : Int) (m m1 size : Nat) (w : World) (hT : Tab w) (h1 : 3 ≤ wd) (h2 : wd ≤ 65) (hm : ((m : Int) != 0) = true) (he1 : -1000 < e) (he2 : e < 1000)
    (O : ∀ w, Tab w → Calls Tryd.prog 29 #[.int .u64 m, .int .i64 e] w fun r w' => r = .returned (.tuple #[.int .u64 m1, .int .i64 e1]) ∧ w' = w)
    (L : ∀ w, Calls Tryd.prog 30 #[.int .u64 m1] w fun r w' => r = .returned (.int .i64 ((size + 1 : Nat) : Int)) ∧ w = w') (hs : size = 63) :
    Calls Tryd.prog 16 #[.int .i64 wd, .int .u64 m, .int .i64 e] w fun r w' => r = .returned (.tuple #[.int .u64 0, .int .i64 8]) ∧ Below w.heap.size w w' := by
  have hd : decide ((size : Int) + 2 ≤ 64) = false := by simp; omega
  have O' := Lib.hid O
  have L' := Lib.hid L
  have hTab := Lib.hid hT
  have HS := Lib.hid hs
  have hs2 : size ≤ 63 := by omega
  clear O L hT hs
  go_enter_defers Tryd.func16, Tryd.ntmps16
  go_wp2_with fail
  refine (wide_ok _ _ h1 h2).mono ?_; rintro r w1 ⟨rfl, rfl⟩
  go_wp2_with fail
  refine (must_ok _ _).mono ?_; rintro r w1 ⟨rfl, rfl⟩
  go_wp2_with fail
  refine (must_ok _ _).mono ?_; rintro r w1 ⟨rfl, rfl⟩
  go_wp2_with fail
  refine (O'.out _ (hTab.out.alloc _)).mono ?_; rintro r w1 ⟨rfl, rfl⟩
  go_wp2_with fail
  refine (L'.out _).mono ?_; rintro r w1 ⟨rfl, rfl⟩
  go_wp2_with fail
  refine (must_no _ _).mono ?_; rintro r w1 ⟨rfl, rfl⟩
  go_wp2_with fail
  refine leaves_cons (f := 22) (args := #[.pointer (some ⟨w.heap.size, 0, none⟩)]) (by simp) (by simp [go_sem]) ?_
  refine (caught_panicking _ 0 8 [] _ (by simp [go_sem]) (by simp [go_sem]) (by simp)).mono ?_
  rintro e u' w'' ⟨rfl, rfl, rfl⟩
  refine leaves_rec (v := .tuple #[.int .u64 0, .int .i64 8]) ?_ ⟨rfl, ?_⟩
  · simp [results, Tryd.results16, go_sem]
  · refine Below.setCell ?_ (by simp) _
    exact ((Below.refl _ _).alloc (Nat.le_refl _) _).alloc (by simp) _

theorem key_walk_yes (wd e e1 sc q : Int) (m m1 size x rest key : Nat) (w : World) (hT : Tab w) (h1 : 3 ≤ wd) (h2 : wd ≤ 65) (hm : ((m : Int) != 0) = true) (he1 : -1000 < e) (he2 : e < 1000)
    (O : ∀ w, Tab w → Calls Tryd.prog 29 #[.int .u64 m, .int .i64 e] w fun r w' => r = .returned (.tuple #[.int .u64 m1, .int .i64 e1]) ∧ w' = w)
    (L : ∀ w, Calls Tryd.prog 30 #[.int .u64 m1] w fun r w' => r = .returned (.int .i64 ((size + 1 : Nat) : Int)) ∧ w = w') (hs : size ≤ 62) (hsc : e1 + size = sc) (b1 : -2000 ≤ sc) (b2 : sc ≤ 2000)
    (hq : sc / 4 = q) (hx : bits .and .i64 sc 3 = (x : Int)) (hx3 : x ≤ 3)
    (hrest : bits .or .u64 (IntKind.u64.wrap ((x : Int) * 2 ^ size)) (bits .andNot .u64 m1 (IntKind.u64.wrap (2 ^ size))) = (rest : Int))
    (J : ∀ w, Calls Tryd.prog 31 #[.int .i64 wd, .int .i64 q, .int .u64 rest, .int .i64 ((size : Int) + 2)] w fun r w' => r = .returned (.int .u64 key) ∧ w = w') :
    Calls Tryd.prog 16 #[.int .i64 wd, .int .u64 m, .int .i64 e] w fun r w' => r = .returned (.tuple #[.int .u64 key, .int .i64 0]) ∧ Below w.heap.size w w' := by
  have hx2 : IntKind.u64.wrap (x : Int) = (x : Int) := wrap_u64_nat x (by omega)
  have hd : decide ((size : Int) + 2 ≤ 64) = true := by simp; omega
  have O' := Lib.hid O
  have L' := Lib.hid L
  have J' := Lib.hid J
  have hTab := Lib.hid hT
  clear O L J hT
  go_enter_defers Tryd.func16, Tryd.ntmps16
  go_wp2_with fail
  refine (wide_ok _ _ h1 h2).mono ?_; rintro r w1 ⟨rfl, rfl⟩
  go_wp2_with fail
  refine (must_ok _ _).mono ?_; rintro r w1 ⟨rfl, rfl⟩
  go_wp2_with fail
  refine (must_ok _ _).mono ?_; rintro r w1 ⟨rfl, rfl⟩
  go_wp2_with fail
  refine (O'.out _ (hTab.out.alloc _)).mono ?_; rintro r w1 ⟨rfl, rfl⟩
  go_wp2_with fail
  refine (L'.out _).mono ?_; rintro r w1 ⟨rfl, rfl⟩
  go_wp2_with fail
  refine (must_ok _ _).mono ?_; rintro r w1 ⟨rfl, rfl⟩
  go_wp2_with fail
  go_still_tail 15, (by kernel_rfl)
  change wpList _ _ _ _ _ (w.alloc (Obj.cells #[Value.int IntKind.i64 0] 26)).drew
  go_wp2_with fail
  refine (J'.out _).mono ?_; rintro r w1 ⟨rfl, rfl⟩
  go_wp2_with fail
  refine leaves_cons (f := 22) (args := #[.pointer (some ⟨w.heap.size, 0, none⟩)]) (by simp) (by simp [go_sem]) ?_
  refine (caught_idle _ _).mono ?_
  rintro e u' w'' ⟨rfl, rfl, rfl⟩
  refine leaves_ret (v := .tuple #[.int .u64 key, .int .i64 0]) ?_ ⟨rfl, ?_⟩
  · simp [results, Tryd.results16, go_sem]
  · exact ((Below.refl _ _).alloc (Nat.le_refl _) _).drew

theorem key_walk_no (wd e e1 sc q : Int) (m m1 size x rest key : Nat) (w : World) (hT : Tab w) (h1 : 3 ≤ wd) (h2 : wd ≤ 65) (hm : ((m : Int) != 0) = true) (he1 : -1000 < e) (he2 : e < 1000)
    (O : ∀ w, Tab w → Calls Tryd.prog 29 #[.int .u64 m, .int .i64 e] w fun r w' => r = .returned (.tuple #[.int .u64 m1, .int .i64 e1]) ∧ w' = w)
    (L : ∀ w, Calls Tryd.prog 30 #[.int .u64 m1] w fun r w' => r = .returned (.int .i64 ((size + 1 : Nat) : Int)) ∧ w = w') (hs : size ≤ 62) (hsc : e1 + size = sc) (b1 : -2000 ≤ sc) (b2 : sc ≤ 2000)
    (hq : sc / 4 = q) (hx : bits .and .i64 sc 3 = (x : Int)) (hx3 : x ≤ 3)
    (hrest : bits .or .u64 (IntKind.u64.wrap ((x : Int) * 2 ^ size)) (bits .andNot .u64 m1 (IntKind.u64.wrap (2 ^ size))) = (rest : Int))
    (J : ∀ w, Calls Tryd.prog 31 #[.int .i64 wd, .int .i64 q, .int .u64 rest, .int .i64 ((size : Int) + 2)] w fun r w' => r = .panicked [{ v := ref 8, recovered := false }] ∧ w = w') :
    Calls Tryd.prog 16 #[.int .i64 wd, .int .u64 m, .int .i64 e] w fun r w' => r = .returned (.tuple #[.int .u64 0, .int .i64 8]) ∧ Below w.heap.size w w' := by
  have hx2 : IntKind.u64.wrap (x : Int) = (x : Int) := wrap_u64_nat x (by omega)
  have hd : decide ((size : Int) + 2 ≤ 64) = true := by simp; omega
  have O' := Lib.hid O
  have L' := Lib.hid L
  have J' := Lib.hid J
  have hTab := Lib.hid hT
  clear O L J hT
  go_enter_defers Tryd.func16, Tryd.ntmps16
  go_wp2_with fail
  refine (wide_ok _ _ h1 h2).mono ?_; rintro r w1 ⟨rfl, rfl⟩
  go_wp2_with fail
  refine (must_ok _ _).mono ?_; rintro r w1 ⟨rfl, rfl⟩
  go_wp2_with fail
  refine (must_ok _ _).mono ?_; rintro r w1 ⟨rfl, rfl⟩
  go_wp2_with fail
  refine (O'.out _ (hTab.out.alloc _)).mono ?_; rintro r w1 ⟨rfl, rfl⟩
  go_wp2_with fail
  refine (L'.out _).mono ?_; rintro r w1 ⟨rfl, rfl⟩
  go_wp2_with fail
  refine (must_ok _ _).mono ?_; rintro r w1 ⟨rfl, rfl⟩
  go_wp2_with fail
  go_still_tail 15, (by kernel_rfl)
  change wpList _ _ _ _ _ (w.alloc (Obj.cells #[Value.int IntKind.i64 0] 26)).drew
  go_wp2_with fail
  refine (J'.out _).mono ?_; rintro r w1 ⟨rfl, rfl⟩
  go_wp2_with fail
  refine leaves_cons (f := 22) (args := #[.pointer (some ⟨w.heap.size, 0, none⟩)]) (by simp) (by simp [go_sem]) ?_
  refine (caught_panicking _ 0 8 [] _ (by simp [go_sem]) (by simp [go_sem]) (by simp)).mono ?_
  rintro e u' w'' ⟨rfl, rfl, rfl⟩
  refine leaves_rec (v := .tuple #[.int .u64 0, .int .i64 8]) ?_ ⟨rfl, ?_⟩
  · simp [results, Tryd.results16, go_sem]
  · refine Below.setCell ?_ (by simp) _
    exact (((Below.refl _ _).alloc (Nat.le_refl _) _).alloc (by simp) _).drew

end Go.Proofs.YtfmecakoccnblaaDoor

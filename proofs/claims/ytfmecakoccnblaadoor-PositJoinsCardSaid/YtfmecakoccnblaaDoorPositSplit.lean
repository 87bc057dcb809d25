/- posit.split walked: a magnitude's fields, by cases of what is left behind the run. Conditions: as each theorem names them. -/
import Derived.Test.YtfmecakoccnblaaDoorPositLow
set_option linter.unusedVariables false
namespace Go.Proofs.YtfmecakoccnblaaDoor
open Go.RowKit

theorem u64_and_zero (x : Nat) (hx : x < 18446744073709551616) : bits .and .u64 (x : Int) 0 = 0 := by
  have := bits_and_u64_nat x 0 hx (by decide)
  simpa using this

set_option maxHeartbeats 1000000 in
theorem split_walk_neg_many (wd : Int) (key n hi r : Nat) (left rest bts ex fr : Nat) (w : World) (hn : wd - 1 = (n : Int)) (h1 : 3 ≤ wd) (h2 : wd ≤ 65) (hn64 : n ≤ 64) (hk : key < 18446744073709551616)
    (k0 : ((key : Int) != 0) = true) (kz : ((key : Int) / 2 ^ (n - 1) / 2 == 0) = true) (hhi : IntKind.u64.wrap ((key : Int) * 2 ^ (64 - n)) = (hi : Int))
    (L : ∀ w, Calls Tryd.prog 34 #[.int .u64 hi] w fun e w' => e = .returned (.int .i64 r) ∧ w = w') (hr0 : ((r : Int) == 0) = false)
    (hr : r ≤ 64) (hleft : (n : Int) - r - 1 = (left : Int)) (hl2 : 2 ≤ left) (hl64 : left ≤ 62) (hb64 : bts ≤ 60)
    (hrest : bits .and .u64 key (IntKind.u64.wrap (IntKind.u64.wrap (2 ^ left) - 1)) = (rest : Int)) (hrest64 : rest < 18446744073709551616)
    (hbts : (left : Int) - 2 = (bts : Int)) (hex : (rest : Int) / 2 ^ bts = (ex : Int)) (hex3 : ex ≤ 3)
    (hfr : bits .and .u64 rest (IntKind.u64.wrap (IntKind.u64.wrap (2 ^ bts) - 1)) = (fr : Int)) :
    Calls Tryd.prog 23 #[.int .i64 wd, .int .u64 key] w fun e w' => e = .returned (.agg #[.int .i64 (-(r : Int)), .int .i64 ex, .int .u64 fr, .int .i64 bts]) ∧ w.alloc (.cells #[.int .i64 (-(r : Int)), .int .i64 ex, .int .u64 fr, .int .i64 bts] 25) = w' := by
  have he1 : IntKind.u64.wrap (ex : Int) = (ex : Int) := wrap_u64_nat ex (by omega)
  have he2 : wrap64 (ex : Int) = (ex : Int) := IntWalk.wrap64_in _ (by omega)
  have L' := Lib.hid L
  clear L
  go_enter Tryd.func23, Tryd.ntmps23
  go_wp2_with fail
  refine (wide_ok _ _ h1 h2).mono ?_; rintro e w' ⟨rfl, rfl⟩
  go_wp2_with fail
  refine (must_ok _ _).mono ?_; rintro e w' ⟨rfl, rfl⟩
  go_wp2_with fail
  refine (L'.out _).mono ?_; rintro e w' ⟨rfl, rfl⟩
  go_wp2_with fail
  all_goals
    refine bodyPost_ret (v := .agg #[.int .i64 (-(r : Int)), .int .i64 ex, .int .u64 fr, .int .i64 bts]) (by simp [results, Tryd.results23, go_sem]) rfl ⟨rfl, rfl⟩

set_option maxHeartbeats 1000000 in
theorem split_walk_neg_one (wd : Int) (key n hi r : Nat) (left rest bts ex fr : Nat) (w : World) (hn : wd - 1 = (n : Int)) (h1 : 3 ≤ wd) (h2 : wd ≤ 65) (hn64 : n ≤ 64) (hk : key < 18446744073709551616)
    (k0 : ((key : Int) != 0) = true) (kz : ((key : Int) / 2 ^ (n - 1) / 2 == 0) = true) (hhi : IntKind.u64.wrap ((key : Int) * 2 ^ (64 - n)) = (hi : Int))
    (L : ∀ w, Calls Tryd.prog 34 #[.int .u64 hi] w fun e w' => e = .returned (.int .i64 r) ∧ w = w') (hr0 : ((r : Int) == 0) = false)
    (hr : r ≤ 64) (hleft : (n : Int) - r - 1 = 1)
    (hrest : bits .and .u64 key 1 = (rest : Int)) (hrest1 : rest ≤ 1) :
    Calls Tryd.prog 23 #[.int .i64 wd, .int .u64 key] w fun e w' => e = .returned (.agg #[.int .i64 (-(r : Int)), .int .i64 (rest * 2), .int .u64 0, .int .i64 0]) ∧ w.alloc (.cells #[.int .i64 (-(r : Int)), .int .i64 (rest * 2), .int .u64 0, .int .i64 0] 25) = w' := by
  have z1 : bits .and .u64 (rest : Int) 0 = 0 := u64_and_zero rest (by omega)
  have L' := Lib.hid L
  clear L
  go_enter Tryd.func23, Tryd.ntmps23
  go_wp2_with fail
  refine (wide_ok _ _ h1 h2).mono ?_; rintro e w' ⟨rfl, rfl⟩
  go_wp2_with fail
  refine (must_ok _ _).mono ?_; rintro e w' ⟨rfl, rfl⟩
  go_wp2_with fail
  refine (L'.out _).mono ?_; rintro e w' ⟨rfl, rfl⟩
  go_wp2_with fail
  refine bodyPost_ret (v := .agg #[.int .i64 (-(r : Int)), .int .i64 (rest * 2), .int .u64 0, .int .i64 0]) (by simp [results, Tryd.results23, go_sem]) rfl ⟨rfl, rfl⟩

set_option maxHeartbeats 1000000 in
theorem split_walk_neg_none (wd : Int) (key n hi r : Nat) (left rest bts ex fr : Nat) (w : World) (hn : wd - 1 = (n : Int)) (h1 : 3 ≤ wd) (h2 : wd ≤ 65) (hn64 : n ≤ 64) (hk : key < 18446744073709551616)
    (k0 : ((key : Int) != 0) = true) (kz : ((key : Int) / 2 ^ (n - 1) / 2 == 0) = true) (hhi : IntKind.u64.wrap ((key : Int) * 2 ^ (64 - n)) = (hi : Int))
    (L : ∀ w, Calls Tryd.prog 34 #[.int .u64 hi] w fun e w' => e = .returned (.int .i64 r) ∧ w = w') (hr0 : ((r : Int) == 0) = false)
    (hr : r ≤ 64) (hleft : (n : Int) - r - 1 = 0)
    (hrest : bits .and .u64 key 0 = 0) :
    Calls Tryd.prog 23 #[.int .i64 wd, .int .u64 key] w fun e w' => e = .returned (.agg #[.int .i64 (-(r : Int)), .int .i64 0, .int .u64 0, .int .i64 0]) ∧ w.alloc (.cells #[.int .i64 (-(r : Int)), .int .i64 0, .int .u64 0, .int .i64 0] 25) = w' := by
  have z0 : bits .and .u64 0 0 = 0 := by decide
  have L' := Lib.hid L
  clear L
  go_enter Tryd.func23, Tryd.ntmps23
  go_wp2_with fail
  refine (wide_ok _ _ h1 h2).mono ?_; rintro e w' ⟨rfl, rfl⟩
  go_wp2_with fail
  refine (must_ok _ _).mono ?_; rintro e w' ⟨rfl, rfl⟩
  go_wp2_with fail
  refine (L'.out _).mono ?_; rintro e w' ⟨rfl, rfl⟩
  go_wp2_with fail
  refine bodyPost_ret (v := .agg #[.int .i64 (-(r : Int)), .int .i64 0, .int .u64 0, .int .i64 0]) (by simp [results, Tryd.results23, go_sem]) rfl ⟨rfl, rfl⟩

set_option maxHeartbeats 1000000 in
theorem split_walk_pos_many (wd : Int) (key n hi r : Nat) (left rest bts ex fr : Nat) (w : World) (hn : wd - 1 = (n : Int)) (h1 : 3 ≤ wd) (h2 : wd ≤ 65) (hn64 : n ≤ 64) (hk : key < 18446744073709551616)
    (k0 : ((key : Int) != 0) = true) (kz : ((key : Int) / 2 ^ (n - 1) / 2 == 0) = true) (hhi : IntKind.u64.wrap ((key : Int) * 2 ^ (64 - n)) = (hi : Int))
    (L0 : ∀ w, Calls Tryd.prog 34 #[.int .u64 hi] w fun e w' => e = .returned (.int .i64 0) ∧ w = w') (cm : Nat) (hcm : bits .xor .u64 IntKind.u64.max hi = (cm : Int))
    (L : ∀ w, Calls Tryd.prog 34 #[.int .u64 cm] w fun e w' => e = .returned (.int .i64 r) ∧ w = w') (hrn : r < n)
    (hr : r ≤ 64) (hleft : (n : Int) - r - 1 = (left : Int)) (hl2 : 2 ≤ left) (hl64 : left ≤ 62) (hb64 : bts ≤ 60)
    (hrest : bits .and .u64 key (IntKind.u64.wrap (IntKind.u64.wrap (2 ^ left) - 1)) = (rest : Int)) (hrest64 : rest < 18446744073709551616)
    (hbts : (left : Int) - 2 = (bts : Int)) (hex : (rest : Int) / 2 ^ bts = (ex : Int)) (hex3 : ex ≤ 3)
    (hfr : bits .and .u64 rest (IntKind.u64.wrap (IntKind.u64.wrap (2 ^ bts) - 1)) = (fr : Int)) :
    Calls Tryd.prog 23 #[.int .i64 wd, .int .u64 key] w fun e w' => e = .returned (.agg #[.int .i64 ((r : Int) - 1), .int .i64 ex, .int .u64 fr, .int .i64 bts]) ∧ w.alloc (.cells #[.int .i64 ((r : Int) - 1), .int .i64 ex, .int .u64 fr, .int .i64 bts] 25) = w' := by
  have he1 : IntKind.u64.wrap (ex : Int) = (ex : Int) := wrap_u64_nat ex (by omega)
  have he2 : wrap64 (ex : Int) = (ex : Int) := IntWalk.wrap64_in _ (by omega)
  have L' := Lib.hid L
  clear L
  have L0' := Lib.hid L0
  clear L0
  go_enter Tryd.func23, Tryd.ntmps23
  go_wp2_with fail
  refine (wide_ok _ _ h1 h2).mono ?_; rintro e w' ⟨rfl, rfl⟩
  go_wp2_with fail
  refine (must_ok _ _).mono ?_; rintro e w' ⟨rfl, rfl⟩
  go_wp2_with fail
  refine (L0'.out _).mono ?_; rintro e w' ⟨rfl, rfl⟩
  go_wp2_with fail
  refine (L'.out _).mono ?_; rintro e w' ⟨rfl, rfl⟩
  go_wp2_with fail
  all_goals
    refine bodyPost_ret (v := .agg #[.int .i64 ((r : Int) - 1), .int .i64 ex, .int .u64 fr, .int .i64 bts]) (by simp [results, Tryd.results23, go_sem]) rfl ⟨rfl, rfl⟩

set_option maxHeartbeats 1000000 in
theorem split_walk_pos_one (wd : Int) (key n hi r : Nat) (left rest bts ex fr : Nat) (w : World) (hn : wd - 1 = (n : Int)) (h1 : 3 ≤ wd) (h2 : wd ≤ 65) (hn64 : n ≤ 64) (hk : key < 18446744073709551616)
    (k0 : ((key : Int) != 0) = true) (kz : ((key : Int) / 2 ^ (n - 1) / 2 == 0) = true) (hhi : IntKind.u64.wrap ((key : Int) * 2 ^ (64 - n)) = (hi : Int))
    (L0 : ∀ w, Calls Tryd.prog 34 #[.int .u64 hi] w fun e w' => e = .returned (.int .i64 0) ∧ w = w') (cm : Nat) (hcm : bits .xor .u64 IntKind.u64.max hi = (cm : Int))
    (L : ∀ w, Calls Tryd.prog 34 #[.int .u64 cm] w fun e w' => e = .returned (.int .i64 r) ∧ w = w') (hrn : r < n)
    (hr : r ≤ 64) (hleft : (n : Int) - r - 1 = 1)
    (hrest : bits .and .u64 key 1 = (rest : Int)) (hrest1 : rest ≤ 1) :
    Calls Tryd.prog 23 #[.int .i64 wd, .int .u64 key] w fun e w' => e = .returned (.agg #[.int .i64 ((r : Int) - 1), .int .i64 (rest * 2), .int .u64 0, .int .i64 0]) ∧ w.alloc (.cells #[.int .i64 ((r : Int) - 1), .int .i64 (rest * 2), .int .u64 0, .int .i64 0] 25) = w' := by
  have z1 : bits .and .u64 (rest : Int) 0 = 0 := u64_and_zero rest (by omega)
  have L' := Lib.hid L
  clear L
  have L0' := Lib.hid L0
  clear L0
  go_enter Tryd.func23, Tryd.ntmps23
  go_wp2_with fail
  refine (wide_ok _ _ h1 h2).mono ?_; rintro e w' ⟨rfl, rfl⟩
  go_wp2_with fail
  refine (must_ok _ _).mono ?_; rintro e w' ⟨rfl, rfl⟩
  go_wp2_with fail
  refine (L0'.out _).mono ?_; rintro e w' ⟨rfl, rfl⟩
  go_wp2_with fail
  refine (L'.out _).mono ?_; rintro e w' ⟨rfl, rfl⟩
  go_wp2_with fail
  refine bodyPost_ret (v := .agg #[.int .i64 ((r : Int) - 1), .int .i64 (rest * 2), .int .u64 0, .int .i64 0]) (by simp [results, Tryd.results23, go_sem]) rfl ⟨rfl, rfl⟩

set_option maxHeartbeats 1000000 in
theorem split_walk_pos_none (wd : Int) (key n hi r : Nat) (left rest bts ex fr : Nat) (w : World) (hn : wd - 1 = (n : Int)) (h1 : 3 ≤ wd) (h2 : wd ≤ 65) (hn64 : n ≤ 64) (hk : key < 18446744073709551616)
    (k0 : ((key : Int) != 0) = true) (kz : ((key : Int) / 2 ^ (n - 1) / 2 == 0) = true) (hhi : IntKind.u64.wrap ((key : Int) * 2 ^ (64 - n)) = (hi : Int))
    (L0 : ∀ w, Calls Tryd.prog 34 #[.int .u64 hi] w fun e w' => e = .returned (.int .i64 0) ∧ w = w') (cm : Nat) (hcm : bits .xor .u64 IntKind.u64.max hi = (cm : Int))
    (L : ∀ w, Calls Tryd.prog 34 #[.int .u64 cm] w fun e w' => e = .returned (.int .i64 r) ∧ w = w') (hrn : r < n)
    (hr : r ≤ 64) (hleft : (n : Int) - r - 1 = 0)
    (hrest : bits .and .u64 key 0 = 0) :
    Calls Tryd.prog 23 #[.int .i64 wd, .int .u64 key] w fun e w' => e = .returned (.agg #[.int .i64 ((r : Int) - 1), .int .i64 0, .int .u64 0, .int .i64 0]) ∧ w.alloc (.cells #[.int .i64 ((r : Int) - 1), .int .i64 0, .int .u64 0, .int .i64 0] 25) = w' := by
  have z0 : bits .and .u64 0 0 = 0 := by decide
  have L' := Lib.hid L
  clear L
  have L0' := Lib.hid L0
  clear L0
  go_enter Tryd.func23, Tryd.ntmps23
  go_wp2_with fail
  refine (wide_ok _ _ h1 h2).mono ?_; rintro e w' ⟨rfl, rfl⟩
  go_wp2_with fail
  refine (must_ok _ _).mono ?_; rintro e w' ⟨rfl, rfl⟩
  go_wp2_with fail
  refine (L0'.out _).mono ?_; rintro e w' ⟨rfl, rfl⟩
  go_wp2_with fail
  refine (L'.out _).mono ?_; rintro e w' ⟨rfl, rfl⟩
  go_wp2_with fail
  refine bodyPost_ret (v := .agg #[.int .i64 ((r : Int) - 1), .int .i64 0, .int .u64 0, .int .i64 0]) (by simp [results, Tryd.results23, go_sem]) rfl ⟨rfl, rfl⟩

set_option maxHeartbeats 1000000 in
theorem split_walk_pos_all (wd : Int) (key n hi : Nat) (left rest bts ex fr : Nat) (w : World) (hn : wd - 1 = (n : Int)) (h1 : 3 ≤ wd) (h2 : wd ≤ 65) (hn64 : n ≤ 64) (hk : key < 18446744073709551616)
    (k0 : ((key : Int) != 0) = true) (kz : ((key : Int) / 2 ^ (n - 1) / 2 == 0) = true) (hhi : IntKind.u64.wrap ((key : Int) * 2 ^ (64 - n)) = (hi : Int))
    (L0 : ∀ w, Calls Tryd.prog 34 #[.int .u64 hi] w fun e w' => e = .returned (.int .i64 0) ∧ w = w') (cm : Nat) (hcm : bits .xor .u64 IntKind.u64.max hi = (cm : Int))
    (L : ∀ w, Calls Tryd.prog 34 #[.int .u64 cm] w fun e w' => e = .returned (.int .i64 n) ∧ w = w')
    (hleft : (n : Int) - n - 1 = -1)
    (hrest : bits .and .u64 key 0 = 0) :
    Calls Tryd.prog 23 #[.int .i64 wd, .int .u64 key] w fun e w' => e = .returned (.agg #[.int .i64 ((n : Int) - 1), .int .i64 0, .int .u64 0, .int .i64 0]) ∧ w.alloc (.cells #[.int .i64 ((n : Int) - 1), .int .i64 0, .int .u64 0, .int .i64 0] 25) = w' := by
  have z0 : bits .and .u64 0 0 = 0 := by decide
  have L' := Lib.hid L
  clear L
  have L0' := Lib.hid L0
  clear L0
  go_enter Tryd.func23, Tryd.ntmps23
  go_wp2_with fail
  refine (wide_ok _ _ h1 h2).mono ?_; rintro e w' ⟨rfl, rfl⟩
  go_wp2_with fail
  refine (must_ok _ _).mono ?_; rintro e w' ⟨rfl, rfl⟩
  go_wp2_with fail
  refine (L0'.out _).mono ?_; rintro e w' ⟨rfl, rfl⟩
  go_wp2_with fail
  refine (L'.out _).mono ?_; rintro e w' ⟨rfl, rfl⟩
  go_wp2_with fail
  refine bodyPost_ret (v := .agg #[.int .i64 ((n : Int) - 1), .int .i64 0, .int .u64 0, .int .i64 0]) (by simp [results, Tryd.results23, go_sem]) rfl ⟨rfl, rfl⟩

end Go.Proofs.YtfmecakoccnblaaDoor

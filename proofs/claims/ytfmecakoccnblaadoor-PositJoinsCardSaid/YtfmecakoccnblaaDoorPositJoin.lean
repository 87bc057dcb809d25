/- posit.join walked, by cases. Conditions: as each theorem names them. -/
import Derived.Test.YtfmecakoccnblaaDoorPositLow
set_option linter.unusedVariables false
namespace Go.Proofs.YtfmecakoccnblaaDoor
open Go.RowKit

theorem join_ones_far (wd regime : Int) (n run left rest size : Nat) (w : World) (hn : wd - 1 = (n : Int)) (h1 : 3 ≤ wd) (h2 : wd ≤ 65) (hr64 : rest < 18446744073709551616) (hs64 : size ≤ 64) 
    (hrun : regime + 1 = (run : Int)) (hreg : 0 ≤ regime) (hregb : regime ≤ 10000) (hfar : n < run) :
    Calls Tryd.prog 31 #[.int .i64 wd, .int .i64 regime, .int .u64 rest, .int .i64 size] w fun e w' => e = .panicked [{ v := ref 8, recovered := false }] ∧ w = w' := by
  have hle : decide (run ≤ n) = false := by simp; omega
  go_enter Tryd.func31, Tryd.ntmps31
  go_wp2_with fail
  refine (must_no _ _).mono ?_; rintro e w' ⟨rfl, rfl⟩
  go_wp2_with fail
  exact ⟨rfl, rfl, rfl⟩

theorem join_ones_some_lost (wd regime : Int) (n run left rest size : Nat) (w : World) (hn : wd - 1 = (n : Int)) (h1 : 3 ≤ wd) (h2 : wd ≤ 65) (hr64 : rest < 18446744073709551616) (hs64 : size ≤ 64) 
    (hrun : regime + 1 = (run : Int)) (hreg : 0 ≤ regime) (hregb : regime ≤ 10000) (hrn : run < n) (hleft : (n : Int) - run - 1 = (left : Int)) (d z : Nat) (hd : (size : Int) - (left : Int) = (d : Int)) (hd1 : 1 ≤ d) (hd2 : d ≤ 64)
    (hand : bits .and .u64 rest (IntKind.u64.wrap (IntKind.u64.wrap (2 ^ d) - 1)) = (z : Int)) (hz : ((z : Int) == 0) = false) :
    Calls Tryd.prog 31 #[.int .i64 wd, .int .i64 regime, .int .u64 rest, .int .i64 size] w fun e w' => e = .panicked [{ v := ref 8, recovered := false }] ∧ w = w' := by
  have hle : decide (run ≤ n) = true := by simp; omega
  have hsl2 : decide (size ≤ left) = false := by simp; omega
  go_enter Tryd.func31, Tryd.ntmps31
  go_wp2_with fail
  refine (must_ok _ _).mono ?_; rintro e w' ⟨rfl, rfl⟩
  go_wp2_with fail
  refine (must_no _ _).mono ?_; rintro e w' ⟨rfl, rfl⟩
  go_wp2_with fail
  exact ⟨rfl, rfl, rfl⟩

theorem join_ones_some_down (wd regime : Int) (n run left rest size : Nat) (w : World) (hn : wd - 1 = (n : Int)) (h1 : 3 ≤ wd) (h2 : wd ≤ 65) (hr64 : rest < 18446744073709551616) (hs64 : size ≤ 64) 
    (hrun : regime + 1 = (run : Int)) (hreg : 0 ≤ regime) (hregb : regime ≤ 10000) (hrn : run < n) (hleft : (n : Int) - run - 1 = (left : Int)) (d : Nat) (hd : (size : Int) - (left : Int) = (d : Int)) (hd1 : 1 ≤ d) (hd2 : d ≤ 64)
    (hand : bits .and .u64 rest (IntKind.u64.wrap (IntKind.u64.wrap (2 ^ d) - 1)) = 0)  (rs t key : Nat) (hrs : (rest : Int) / 2 ^ d = (rs : Int)) (hn64 : n ≤ 64) (hrun64 : run ≤ 64)
    (ht : IntKind.u64.wrap (IntKind.u64.wrap (IntKind.u64.wrap (2 ^ run) - 1) * 2 ^ (n - run)) = (t : Int)) (hkey : bits .or .u64 t rs = (key : Int)) :
    Calls Tryd.prog 31 #[.int .i64 wd, .int .i64 regime, .int .u64 rest, .int .i64 size] w fun e w' => e = .returned (.int .u64 key) ∧ w = w' := by
  have hle : decide (run ≤ n) = true := by simp; omega
  have hsl2 : decide (size ≤ left) = false := by simp; omega
  go_enter Tryd.func31, Tryd.ntmps31
  go_wp2_with fail
  refine (must_ok _ _).mono ?_; rintro e w' ⟨rfl, rfl⟩
  go_wp2_with fail
  refine (must_ok _ _).mono ?_; rintro e w' ⟨rfl, rfl⟩
  go_wp2_with fail
  go_ret
  exact ⟨rfl, rfl⟩

theorem join_ones_some_up (wd regime : Int) (n run left rest size : Nat) (w : World) (hn : wd - 1 = (n : Int)) (h1 : 3 ≤ wd) (h2 : wd ≤ 65) (hr64 : rest < 18446744073709551616) (hs64 : size ≤ 64) 
    (hrun : regime + 1 = (run : Int)) (hreg : 0 ≤ regime) (hregb : regime ≤ 10000) (hrn : run < n) (hleft : (n : Int) - run - 1 = (left : Int)) (d : Nat) (hd : (left : Int) - size = (d : Int)) (hsl : size ≤ left) (hd2 : d ≤ 64)  (rs t key : Nat) (hrs : IntKind.u64.wrap ((rest : Int) * 2 ^ d) = (rs : Int)) (hn64 : n ≤ 64) (hrun64 : run ≤ 64)
    (ht : IntKind.u64.wrap (IntKind.u64.wrap (IntKind.u64.wrap (2 ^ run) - 1) * 2 ^ (n - run)) = (t : Int)) (hkey : bits .or .u64 t rs = (key : Int)) :
    Calls Tryd.prog 31 #[.int .i64 wd, .int .i64 regime, .int .u64 rest, .int .i64 size] w fun e w' => e = .returned (.int .u64 key) ∧ w = w' := by
  have hle : decide (run ≤ n) = true := by simp; omega
  have hsl2 : decide (size ≤ left) = true := by simp; omega
  go_enter Tryd.func31, Tryd.ntmps31
  go_wp2_with fail
  refine (must_ok _ _).mono ?_; rintro e w' ⟨rfl, rfl⟩
  go_wp2_with fail
  refine (must_ok _ _).mono ?_; rintro e w' ⟨rfl, rfl⟩
  go_wp2_with fail
  go_ret
  exact ⟨rfl, rfl⟩

theorem join_ones_full_lost (wd regime : Int) (n run left rest size : Nat) (w : World) (hn : wd - 1 = (n : Int)) (h1 : 3 ≤ wd) (h2 : wd ≤ 65) (hr64 : rest < 18446744073709551616) (hs64 : size ≤ 64) 
    (hrun : regime + 1 = (run : Int)) (hreg : 0 ≤ regime) (hregb : regime ≤ 10000) (hrn : run = n) (hleft : (n : Int) - n - 1 = -1) (d z : Nat) (hd : (size : Int) - 0 = (d : Int)) (hd1 : 1 ≤ d) (hd2 : d ≤ 64)
    (hand : bits .and .u64 rest (IntKind.u64.wrap (IntKind.u64.wrap (2 ^ d) - 1)) = (z : Int)) (hz : ((z : Int) == 0) = false) :
    Calls Tryd.prog 31 #[.int .i64 wd, .int .i64 regime, .int .u64 rest, .int .i64 size] w fun e w' => e = .panicked [{ v := ref 8, recovered := false }] ∧ w = w' := by
  subst hrn
  go_enter Tryd.func31, Tryd.ntmps31
  go_wp2_with fail
  refine (must_ok _ _).mono ?_; rintro e w' ⟨rfl, rfl⟩
  go_wp2_with fail
  refine (must_no _ _).mono ?_; rintro e w' ⟨rfl, rfl⟩
  go_wp2_with fail
  exact ⟨rfl, rfl, rfl⟩

theorem join_ones_full_down (wd regime : Int) (n run left rest size : Nat) (w : World) (hn : wd - 1 = (n : Int)) (h1 : 3 ≤ wd) (h2 : wd ≤ 65) (hr64 : rest < 18446744073709551616) (hs64 : size ≤ 64) 
    (hrun : regime + 1 = (run : Int)) (hreg : 0 ≤ regime) (hregb : regime ≤ 10000) (hrn : run = n) (hleft : (n : Int) - n - 1 = -1) (d : Nat) (hd : (size : Int) - 0 = (d : Int)) (hd1 : 1 ≤ d) (hd2 : d ≤ 64)
    (hand : bits .and .u64 rest (IntKind.u64.wrap (IntKind.u64.wrap (2 ^ d) - 1)) = 0)  (rs t key : Nat) (hrs : (rest : Int) / 2 ^ d = (rs : Int)) (hrun64 : run ≤ 64)
    (ht : IntKind.u64.wrap (IntKind.u64.wrap (2 ^ run) - 1) = (t : Int)) (ht2 : IntKind.u64.wrap (t : Int) = (t : Int)) (hkey : bits .or .u64 t rs = (key : Int)) :
    Calls Tryd.prog 31 #[.int .i64 wd, .int .i64 regime, .int .u64 rest, .int .i64 size] w fun e w' => e = .returned (.int .u64 key) ∧ w = w' := by
  subst hrn
  go_enter Tryd.func31, Tryd.ntmps31
  go_wp2_with fail
  refine (must_ok _ _).mono ?_; rintro e w' ⟨rfl, rfl⟩
  go_wp2_with fail
  refine (must_ok _ _).mono ?_; rintro e w' ⟨rfl, rfl⟩
  go_wp2_with fail
  go_ret
  exact ⟨rfl, rfl⟩

theorem join_zeros_far (wd regime : Int) (n run left rest size : Nat) (w : World) (hn : wd - 1 = (n : Int)) (h1 : 3 ≤ wd) (h2 : wd ≤ 65) (hr64 : rest < 18446744073709551616) (hs64 : size ≤ 64) 
    (hrun : -regime = (run : Int)) (hreg : regime < 0) (hregb : -10000 ≤ regime) (hfar : n < run) :
    Calls Tryd.prog 31 #[.int .i64 wd, .int .i64 regime, .int .u64 rest, .int .i64 size] w fun e w' => e = .panicked [{ v := ref 8, recovered := false }] ∧ w = w' := by
  have hle : decide (run ≤ n) = false := by simp; omega
  go_enter Tryd.func31, Tryd.ntmps31
  go_wp2_with fail
  refine (must_no _ _).mono ?_; rintro e w' ⟨rfl, rfl⟩
  go_wp2_with fail
  exact ⟨rfl, rfl, rfl⟩

theorem join_zeros_some_lost (wd regime : Int) (n run left rest size : Nat) (w : World) (hn : wd - 1 = (n : Int)) (h1 : 3 ≤ wd) (h2 : wd ≤ 65) (hr64 : rest < 18446744073709551616) (hs64 : size ≤ 64) 
    (hrun : -regime = (run : Int)) (hreg : regime < 0) (hregb : -10000 ≤ regime) (hrn : run < n) (hleft : (n : Int) - run - 1 = (left : Int)) (d z : Nat) (hd : (size : Int) - (left : Int) = (d : Int)) (hd1 : 1 ≤ d) (hd2 : d ≤ 64)
    (hand : bits .and .u64 rest (IntKind.u64.wrap (IntKind.u64.wrap (2 ^ d) - 1)) = (z : Int)) (hz : ((z : Int) == 0) = false) :
    Calls Tryd.prog 31 #[.int .i64 wd, .int .i64 regime, .int .u64 rest, .int .i64 size] w fun e w' => e = .panicked [{ v := ref 8, recovered := false }] ∧ w = w' := by
  have hle : decide (run ≤ n) = true := by simp; omega
  have hsl2 : decide (size ≤ left) = false := by simp; omega
  go_enter Tryd.func31, Tryd.ntmps31
  go_wp2_with fail
  refine (must_ok _ _).mono ?_; rintro e w' ⟨rfl, rfl⟩
  go_wp2_with fail
  refine (must_no _ _).mono ?_; rintro e w' ⟨rfl, rfl⟩
  go_wp2_with fail
  exact ⟨rfl, rfl, rfl⟩

theorem join_zeros_some_down (wd regime : Int) (n run left rest size : Nat) (w : World) (hn : wd - 1 = (n : Int)) (h1 : 3 ≤ wd) (h2 : wd ≤ 65) (hr64 : rest < 18446744073709551616) (hs64 : size ≤ 64) 
    (hrun : -regime = (run : Int)) (hreg : regime < 0) (hregb : -10000 ≤ regime) (hrn : run < n) (hleft : (n : Int) - run - 1 = (left : Int)) (d : Nat) (hd : (size : Int) - (left : Int) = (d : Int)) (hd1 : 1 ≤ d) (hd2 : d ≤ 64)
    (hand : bits .and .u64 rest (IntKind.u64.wrap (IntKind.u64.wrap (2 ^ d) - 1)) = 0)  (rs key : Nat) (hrs : (rest : Int) / 2 ^ d = (rs : Int)) (hl64 : left ≤ 63) (hne : ((run : Int) == (n : Int)) = false)
    (hkey : bits .or .u64 (IntKind.u64.wrap (2 ^ left)) rs = (key : Int)) :
    Calls Tryd.prog 31 #[.int .i64 wd, .int .i64 regime, .int .u64 rest, .int .i64 size] w fun e w' => e = .returned (.int .u64 key) ∧ w = w' := by
  have hle : decide (run ≤ n) = true := by simp; omega
  have hsl2 : decide (size ≤ left) = false := by simp; omega
  go_enter Tryd.func31, Tryd.ntmps31
  go_wp2_with fail
  refine (must_ok _ _).mono ?_; rintro e w' ⟨rfl, rfl⟩
  go_wp2_with fail
  refine (must_ok _ _).mono ?_; rintro e w' ⟨rfl, rfl⟩
  go_wp2_with fail
  go_ret
  exact ⟨rfl, rfl⟩

theorem join_zeros_some_up (wd regime : Int) (n run left rest size : Nat) (w : World) (hn : wd - 1 = (n : Int)) (h1 : 3 ≤ wd) (h2 : wd ≤ 65) (hr64 : rest < 18446744073709551616) (hs64 : size ≤ 64) 
    (hrun : -regime = (run : Int)) (hreg : regime < 0) (hregb : -10000 ≤ regime) (hrn : run < n) (hleft : (n : Int) - run - 1 = (left : Int)) (d : Nat) (hd : (left : Int) - size = (d : Int)) (hsl : size ≤ left) (hd2 : d ≤ 64)  (rs key : Nat) (hrs : IntKind.u64.wrap ((rest : Int) * 2 ^ d) = (rs : Int)) (hl64 : left ≤ 63) (hne : ((run : Int) == (n : Int)) = false)
    (hkey : bits .or .u64 (IntKind.u64.wrap (2 ^ left)) rs = (key : Int)) :
    Calls Tryd.prog 31 #[.int .i64 wd, .int .i64 regime, .int .u64 rest, .int .i64 size] w fun e w' => e = .returned (.int .u64 key) ∧ w = w' := by
  have hle : decide (run ≤ n) = true := by simp; omega
  have hsl2 : decide (size ≤ left) = true := by simp; omega
  go_enter Tryd.func31, Tryd.ntmps31
  go_wp2_with fail
  refine (must_ok _ _).mono ?_; rintro e w' ⟨rfl, rfl⟩
  go_wp2_with fail
  refine (must_ok _ _).mono ?_; rintro e w' ⟨rfl, rfl⟩
  go_wp2_with fail
  go_ret
  exact ⟨rfl, rfl⟩

theorem join_zeros_full_lost (wd regime : Int) (n run left rest size : Nat) (w : World) (hn : wd - 1 = (n : Int)) (h1 : 3 ≤ wd) (h2 : wd ≤ 65) (hr64 : rest < 18446744073709551616) (hs64 : size ≤ 64) 
    (hrun : -regime = (run : Int)) (hreg : regime < 0) (hregb : -10000 ≤ regime) (hrn : run = n) (hleft : (n : Int) - n - 1 = -1) (d z : Nat) (hd : (size : Int) - 0 = (d : Int)) (hd1 : 1 ≤ d) (hd2 : d ≤ 64)
    (hand : bits .and .u64 rest (IntKind.u64.wrap (IntKind.u64.wrap (2 ^ d) - 1)) = (z : Int)) (hz : ((z : Int) == 0) = false) :
    Calls Tryd.prog 31 #[.int .i64 wd, .int .i64 regime, .int .u64 rest, .int .i64 size] w fun e w' => e = .panicked [{ v := ref 8, recovered := false }] ∧ w = w' := by
  subst hrn
  go_enter Tryd.func31, Tryd.ntmps31
  go_wp2_with fail
  refine (must_ok _ _).mono ?_; rintro e w' ⟨rfl, rfl⟩
  go_wp2_with fail
  refine (must_no _ _).mono ?_; rintro e w' ⟨rfl, rfl⟩
  go_wp2_with fail
  exact ⟨rfl, rfl, rfl⟩

theorem join_zeros_full_none (wd regime : Int) (n run left rest size : Nat) (w : World) (hn : wd - 1 = (n : Int)) (h1 : 3 ≤ wd) (h2 : wd ≤ 65) (hr64 : rest < 18446744073709551616) (hs64 : size ≤ 64) 
    (hrun : -regime = (run : Int)) (hreg : regime < 0) (hregb : -10000 ≤ regime) (hrn : run = n) (hleft : (n : Int) - n - 1 = -1) (d : Nat) (hd : (size : Int) - 0 = (d : Int)) (hd1 : 1 ≤ d) (hd2 : d ≤ 64)
    (hand : bits .and .u64 rest (IntKind.u64.wrap (IntKind.u64.wrap (2 ^ d) - 1)) = 0)  :
    Calls Tryd.prog 31 #[.int .i64 wd, .int .i64 regime, .int .u64 rest, .int .i64 size] w fun e w' => e = .panicked [{ v := ref 8, recovered := false }] ∧ w = w' := by
  subst hrn
  go_enter Tryd.func31, Tryd.ntmps31
  go_wp2_with fail
  refine (must_ok _ _).mono ?_; rintro e w' ⟨rfl, rfl⟩
  go_wp2_with fail
  refine (must_ok _ _).mono ?_; rintro e w' ⟨rfl, rfl⟩
  go_wp2_with fail
  refine (must_no _ _).mono ?_; rintro e w' ⟨rfl, rfl⟩
  go_wp2_with fail
  exact ⟨rfl, rfl, rfl⟩

end Go.Proofs.YtfmecakoccnblaaDoor

/- The form of four bits: its sixteen patterns, printed, and parsed from their texts. Conditions: as each theorem names them. -/
import Derived.Test.YtlmeobokpibifaaGreatDoorG20
import Derived.Test.YtlmeobokpibifaaGreatDoorG16
section
set_option linter.unusedSimpArgs false
set_option linter.unusedVariables false
set_option linter.unusedVariables false
namespace Go.Proofs.YtlmeobokpibifaaGreatDoor
open Go.RowKit

theorem sf_four : SF 4 1 1 7 := ⟨by decide, by decide, by decide, by decide, by decide, by decide, by decide, by decide, by decide⟩
abbrev QW (w : World) (m : Nat) : Prop := SW w 9 4 1 1 7 0 0 m
theorem wi_low {D key : Nat} {k : Int} {r : Bool} (hk : -3 ≤ k ∧ k ≤ 0) (h : wi 1 (D * 5 ^ (k + (5 : Nat)).toNat * 2 ^ (k + (5 : Nat)).toNat) (5 ^ 5 * 2 ^ (-1 - (1 : Nat) + (5 : Nat) : Int).toNat) key = r) : wi 1 (vx D k k) (unit 1 1) key = r :=
  wi_at 5 (by decide) (by decide) (by decide) (by omega) (by omega) (by omega) h
/-- a pattern of the form of four bits, by its sign and magnitude -/
def pat (neg : Bool) (key : Nat) : Nat := if neg then key + 8 else key
theorem four_pt0 : PT 4 0 0 15 7 8 false := ⟨by decide, by decide, by decide, by decide, fun _ => ⟨by decide, rfl⟩, fun h => (nomatch h)⟩
theorem four_pt8 : PT 4 8 0 15 7 8 true := ⟨by decide, by decide, by decide, by decide, fun h => (nomatch h), fun _ => ⟨8, by decide, by decide, by decide⟩⟩
theorem four_pt1 : PT 4 1 1 15 7 8 false := ⟨by decide, by decide, by decide, by decide, fun _ => ⟨by decide, rfl⟩, fun h => (nomatch h)⟩
theorem four_pt9 : PT 4 9 1 15 7 8 true := ⟨by decide, by decide, by decide, by decide, fun h => (nomatch h), fun _ => ⟨8, by decide, by decide, by decide⟩⟩
theorem four_pt2 : PT 4 2 2 15 7 8 false := ⟨by decide, by decide, by decide, by decide, fun _ => ⟨by decide, rfl⟩, fun h => (nomatch h)⟩
theorem four_pt10 : PT 4 10 2 15 7 8 true := ⟨by decide, by decide, by decide, by decide, fun h => (nomatch h), fun _ => ⟨8, by decide, by decide, by decide⟩⟩
theorem four_pt3 : PT 4 3 3 15 7 8 false := ⟨by decide, by decide, by decide, by decide, fun _ => ⟨by decide, rfl⟩, fun h => (nomatch h)⟩
theorem four_pt11 : PT 4 11 3 15 7 8 true := ⟨by decide, by decide, by decide, by decide, fun h => (nomatch h), fun _ => ⟨8, by decide, by decide, by decide⟩⟩
theorem four_pt4 : PT 4 4 4 15 7 8 false := ⟨by decide, by decide, by decide, by decide, fun _ => ⟨by decide, rfl⟩, fun h => (nomatch h)⟩
theorem four_pt12 : PT 4 12 4 15 7 8 true := ⟨by decide, by decide, by decide, by decide, fun h => (nomatch h), fun _ => ⟨8, by decide, by decide, by decide⟩⟩
theorem four_pt5 : PT 4 5 5 15 7 8 false := ⟨by decide, by decide, by decide, by decide, fun _ => ⟨by decide, rfl⟩, fun h => (nomatch h)⟩
theorem four_pt13 : PT 4 13 5 15 7 8 true := ⟨by decide, by decide, by decide, by decide, fun h => (nomatch h), fun _ => ⟨8, by decide, by decide, by decide⟩⟩
theorem four_pt6 : PT 4 6 6 15 7 8 false := ⟨by decide, by decide, by decide, by decide, fun _ => ⟨by decide, rfl⟩, fun h => (nomatch h)⟩
theorem four_pt14 : PT 4 14 6 15 7 8 true := ⟨by decide, by decide, by decide, by decide, fun h => (nomatch h), fun _ => ⟨8, by decide, by decide, by decide⟩⟩
theorem four_pt7 : PT 4 7 7 15 7 8 false := ⟨by decide, by decide, by decide, by decide, fun _ => ⟨by decide, rfl⟩, fun h => (nomatch h)⟩
theorem four_pt15 : PT 4 15 7 15 7 8 true := ⟨by decide, by decide, by decide, by decide, fun h => (nomatch h), fun _ => ⟨8, by decide, by decide, by decide⟩⟩
theorem four_log1 : Lg 1 (-1) 0 (-1) :=
  lg_of (by decide) (by decide) (by rw [xcmp_of (c := 1) (by decide) (by decide) (by decide) (by decide) (by kernel_rfl)]; decide) (xcmp_of (by decide) (by decide) (by decide) (by decide) (by kernel_rfl))
theorem four_near1 (j : Int) (h1 : -1 ≤ j) (h2 : j ≤ -1) : ∃ D', NRok 1 (-1) j 1 (-2) 3 (-2) false D' (decide (j = -1)) ∧ (j = -1 → D' = 5) := by
  obtain rfl : j = -1 := by omega
  have F := flo_of (M := 1) (s := (-1)) (f := 0) (k := (-1)) (D := 5) (R := 0) (by decide) (by decide) (by decide) (by kernel_rfl) (by kernel_rfl)
  have x1 : xcmp 5 (-1) (-1) 1 (-2) 0 = 1 := xcmp_of (by decide) (by decide) (by decide) (by decide) (by kernel_rfl)
  have x2 : xcmp 5 (-1) (-1) 3 (-2) 0 = (-1) := xcmp_of (by decide) (by decide) (by decide) (by decide) (by kernel_rfl)
  exact ⟨5, ⟨F.1, by unfold hasU; rw [if_neg (by decide), x1, x2]; decide, Or.inl F.2, by decide⟩, fun _ => rfl⟩
theorem four_print1 (m : Nat) (w : World) (h : QW w m) :
    Calls Tryz.prog 7 #[.int .i64 ((9 : Nat) : Int), .int .u64 ((1 : Nat) : Int)] w fun e w' => e = .returned (.tuple #[tv [48, 46, 53], .int .i64 0]) ∧ Below w.heap.size w w' :=
  print_signed sf_four four_pt1 0 1 1 3 5 (-1) (-2) (-2) (-1) (-1) false [48, 46, 53] (by decide) (by decide) (by decide) (by decide) (by decide) (by decide) (by decide) (by decide) (by decide) (by decide) (Or.inl ⟨by decide, by decide, by decide⟩) (by decide) four_log1 (by decide) (by decide) (by decide) (by decide) (by decide) four_near1
    (Lib.hid (fun v w' hi => layout_tenth false v 5 53 w' hi (by decide) (by decide) (by decide) (by kernel_rfl))) w h
theorem four_print9 (m : Nat) (w : World) (h : QW w m) :
    Calls Tryz.prog 7 #[.int .i64 ((9 : Nat) : Int), .int .u64 ((9 : Nat) : Int)] w fun e w' => e = .returned (.tuple #[tv [45, 48, 46, 53], .int .i64 0]) ∧ Below w.heap.size w w' :=
  print_signed sf_four four_pt9 0 1 1 3 5 (-1) (-2) (-2) (-1) (-1) false [45, 48, 46, 53] (by decide) (by decide) (by decide) (by decide) (by decide) (by decide) (by decide) (by decide) (by decide) (by decide) (Or.inl ⟨by decide, by decide, by decide⟩) (by decide) four_log1 (by decide) (by decide) (by decide) (by decide) (by decide) four_near1
    (Lib.hid (fun v w' hi => layout_tenth true v 5 53 w' hi (by decide) (by decide) (by decide) (by kernel_rfl))) w h
theorem four_log2 : Lg 1 0 0 0 :=
  lg_of (by decide) (by decide) (by rw [xcmp_of (c := 0) (by decide) (by decide) (by decide) (by decide) (by kernel_rfl)]; decide) (xcmp_of (by decide) (by decide) (by decide) (by decide) (by kernel_rfl))
theorem four_near2 (j : Int) (h1 : 0 ≤ j) (h2 : j ≤ 0) : ∃ D', NRok 1 0 j 3 (-2) 5 (-2) true D' (decide (j = 0)) ∧ (j = 0 → D' = 1) := by
  obtain rfl : j = 0 := by omega
  have F := flo_of (M := 1) (s := 0) (f := 0) (k := 0) (D := 1) (R := 0) (by decide) (by decide) (by decide) (by kernel_rfl) (by kernel_rfl)
  have x1 : xcmp 1 0 0 3 (-2) 0 = 1 := xcmp_of (by decide) (by decide) (by decide) (by decide) (by kernel_rfl)
  have x2 : xcmp 1 0 0 5 (-2) 0 = (-1) := xcmp_of (by decide) (by decide) (by decide) (by decide) (by kernel_rfl)
  exact ⟨1, ⟨F.1, by unfold hasU; rw [if_neg (by decide), x1, x2]; decide, Or.inl F.2, by decide⟩, fun _ => rfl⟩
theorem four_print2 (m : Nat) (w : World) (h : QW w m) :
    Calls Tryz.prog 7 #[.int .i64 ((9 : Nat) : Int), .int .u64 ((2 : Nat) : Int)] w fun e w' => e = .returned (.tuple #[tv [49], .int .i64 0]) ∧ Below w.heap.size w w' :=
  print_signed sf_four four_pt2 1 1 3 5 1 0 (-2) (-2) 0 0 true [49] (by decide) (by decide) (by decide) (by decide) (by decide) (by decide) (by decide) (by decide) (by decide) (by decide) (Or.inl ⟨by decide, by decide, by decide⟩) (by decide) four_log2 (by decide) (by decide) (by decide) (by decide) (by decide) four_near2
    (Lib.hid (fun v w' hi => layout_one false v 1 49 w' hi (by decide) (by decide) (by decide) (by kernel_rfl))) w h
theorem four_print10 (m : Nat) (w : World) (h : QW w m) :
    Calls Tryz.prog 7 #[.int .i64 ((9 : Nat) : Int), .int .u64 ((10 : Nat) : Int)] w fun e w' => e = .returned (.tuple #[tv [45, 49], .int .i64 0]) ∧ Below w.heap.size w w' :=
  print_signed sf_four four_pt10 1 1 3 5 1 0 (-2) (-2) 0 0 true [45, 49] (by decide) (by decide) (by decide) (by decide) (by decide) (by decide) (by decide) (by decide) (by decide) (by decide) (Or.inl ⟨by decide, by decide, by decide⟩) (by decide) four_log2 (by decide) (by decide) (by decide) (by decide) (by decide) four_near2
    (Lib.hid (fun v w' hi => layout_one true v 1 49 w' hi (by decide) (by decide) (by decide) (by kernel_rfl))) w h
theorem four_log3 : Lg 3 (-1) 0 0 :=
  lg_of (by decide) (by decide) (by rw [xcmp_of (c := 1) (by decide) (by decide) (by decide) (by decide) (by kernel_rfl)]; decide) (xcmp_of (by decide) (by decide) (by decide) (by decide) (by kernel_rfl))
theorem four_near3 (j : Int) (h1 : -1 ≤ j) (h2 : j ≤ 0) : ∃ D', NRok 3 (-1) j 5 (-2) 7 (-2) false D' (decide (j = -1)) ∧ (j = -1 → D' = 15) := by
  have hj : j = -1 ∨ j = 0 := by omega
  rcases hj with rfl | rfl
  · have F := flo_of (M := 3) (s := (-1)) (f := 0) (k := (-1)) (D := 15) (R := 0) (by decide) (by decide) (by decide) (by kernel_rfl) (by kernel_rfl)
    have x1 : xcmp 15 (-1) (-1) 5 (-2) 0 = 1 := xcmp_of (by decide) (by decide) (by decide) (by decide) (by kernel_rfl)
    have x2 : xcmp 15 (-1) (-1) 7 (-2) 0 = (-1) := xcmp_of (by decide) (by decide) (by decide) (by decide) (by kernel_rfl)
    exact ⟨15, ⟨F.1, by unfold hasU; rw [if_neg (by decide), x1, x2]; decide, Or.inl F.2, by decide⟩, fun _ => rfl⟩
  · have F := flo_of (M := 3) (s := (-1)) (f := 0) (k := 0) (D := 1) (R := 2) (by decide) (by decide) (by decide) (by kernel_rfl) (by kernel_rfl)
    have x1 : xcmp 1 0 0 5 (-2) 0 = (-1) := xcmp_of (by decide) (by decide) (by decide) (by decide) (by kernel_rfl)
    have x2 : xcmp 1 0 0 7 (-2) 0 = (-1) := xcmp_of (by decide) (by decide) (by decide) (by decide) (by kernel_rfl)
    have y1 : xcmp 2 0 0 5 (-2) 0 = 1 := xcmp_of (by decide) (by decide) (by decide) (by decide) (by kernel_rfl)
    have y2 : xcmp 2 0 0 7 (-2) 0 = 1 := xcmp_of (by decide) (by decide) (by decide) (by decide) (by kernel_rfl)
    exact ⟨1, ⟨F.1, by unfold hasU; rw [if_neg (by decide), x1, x2]; decide, Or.inr ⟨by rw [F.2]; decide, by unfold hasU; rw [if_neg (by decide), y1, y2]; decide⟩, by decide⟩, fun h => absurd h (by decide)⟩
theorem four_print3 (m : Nat) (w : World) (h : QW w m) :
    Calls Tryz.prog 7 #[.int .i64 ((9 : Nat) : Int), .int .u64 ((3 : Nat) : Int)] w fun e w' => e = .returned (.tuple #[tv [49, 46, 53], .int .i64 0]) ∧ Below w.heap.size w w' :=
  print_signed sf_four four_pt3 0 3 5 7 15 (-1) (-2) (-2) 0 (-1) false [49, 46, 53] (by decide) (by decide) (by decide) (by decide) (by decide) (by decide) (by decide) (by decide) (by decide) (by decide) (Or.inl ⟨by decide, by decide, by decide⟩) (by decide) four_log3 (by decide) (by decide) (by decide) (by decide) (by decide) four_near3
    (Lib.hid (fun v w' hi => layout_two false v 15 49 53 w' hi (by decide) (by decide) (by decide) (by kernel_rfl))) w h
theorem four_print11 (m : Nat) (w : World) (h : QW w m) :
    Calls Tryz.prog 7 #[.int .i64 ((9 : Nat) : Int), .int .u64 ((11 : Nat) : Int)] w fun e w' => e = .returned (.tuple #[tv [45, 49, 46, 53], .int .i64 0]) ∧ Below w.heap.size w w' :=
  print_signed sf_four four_pt11 0 3 5 7 15 (-1) (-2) (-2) 0 (-1) false [45, 49, 46, 53] (by decide) (by decide) (by decide) (by decide) (by decide) (by decide) (by decide) (by decide) (by decide) (by decide) (Or.inl ⟨by decide, by decide, by decide⟩) (by decide) four_log3 (by decide) (by decide) (by decide) (by decide) (by decide) four_near3
    (Lib.hid (fun v w' hi => layout_two true v 15 49 53 w' hi (by decide) (by decide) (by decide) (by kernel_rfl))) w h
theorem four_log4 : Lg 1 1 0 0 :=
  lg_of (by decide) (by decide) (by rw [xcmp_of (c := 1) (by decide) (by decide) (by decide) (by decide) (by kernel_rfl)]; decide) (xcmp_of (by decide) (by decide) (by decide) (by decide) (by kernel_rfl))
theorem four_near4 (j : Int) (h1 : 0 ≤ j) (h2 : j ≤ 0) : ∃ D', NRok 1 1 j 7 (-2) 5 (-1) true D' (decide (j = 0)) ∧ (j = 0 → D' = 2) := by
  obtain rfl : j = 0 := by omega
  have F := flo_of (M := 1) (s := 1) (f := 0) (k := 0) (D := 2) (R := 0) (by decide) (by decide) (by decide) (by kernel_rfl) (by kernel_rfl)
  have x1 : xcmp 2 0 0 7 (-2) 0 = 1 := xcmp_of (by decide) (by decide) (by decide) (by decide) (by kernel_rfl)
  have x2 : xcmp 2 0 0 5 (-1) 0 = (-1) := xcmp_of (by decide) (by decide) (by decide) (by decide) (by kernel_rfl)
  exact ⟨2, ⟨F.1, by unfold hasU; rw [if_neg (by decide), x1, x2]; decide, Or.inl F.2, by decide⟩, fun _ => rfl⟩
theorem four_print4 (m : Nat) (w : World) (h : QW w m) :
    Calls Tryz.prog 7 #[.int .i64 ((9 : Nat) : Int), .int .u64 ((4 : Nat) : Int)] w fun e w' => e = .returned (.tuple #[tv [50], .int .i64 0]) ∧ Below w.heap.size w w' :=
  print_signed sf_four four_pt4 1 1 7 5 2 1 (-2) (-1) 0 0 true [50] (by decide) (by decide) (by decide) (by decide) (by decide) (by decide) (by decide) (by decide) (by decide) (by decide) (Or.inl ⟨by decide, by decide, by decide⟩) (by decide) four_log4 (by decide) (by decide) (by decide) (by decide) (by decide) four_near4
    (Lib.hid (fun v w' hi => layout_one false v 2 50 w' hi (by decide) (by decide) (by decide) (by kernel_rfl))) w h
theorem four_print12 (m : Nat) (w : World) (h : QW w m) :
    Calls Tryz.prog 7 #[.int .i64 ((9 : Nat) : Int), .int .u64 ((12 : Nat) : Int)] w fun e w' => e = .returned (.tuple #[tv [45, 50], .int .i64 0]) ∧ Below w.heap.size w w' :=
  print_signed sf_four four_pt12 1 1 7 5 2 1 (-2) (-1) 0 0 true [45, 50] (by decide) (by decide) (by decide) (by decide) (by decide) (by decide) (by decide) (by decide) (by decide) (by decide) (Or.inl ⟨by decide, by decide, by decide⟩) (by decide) four_log4 (by decide) (by decide) (by decide) (by decide) (by decide) four_near4
    (Lib.hid (fun v w' hi => layout_one true v 2 50 w' hi (by decide) (by decide) (by decide) (by kernel_rfl))) w h
theorem four_log5 : Lg 3 0 0 0 :=
  lg_of (by decide) (by decide) (by rw [xcmp_of (c := 1) (by decide) (by decide) (by decide) (by decide) (by kernel_rfl)]; decide) (xcmp_of (by decide) (by decide) (by decide) (by decide) (by kernel_rfl))
theorem four_near5 (j : Int) (h1 : 0 ≤ j) (h2 : j ≤ 0) : ∃ D', NRok 3 0 j 5 (-1) 7 (-1) false D' (decide (j = 0)) ∧ (j = 0 → D' = 3) := by
  obtain rfl : j = 0 := by omega
  have F := flo_of (M := 3) (s := 0) (f := 0) (k := 0) (D := 3) (R := 0) (by decide) (by decide) (by decide) (by kernel_rfl) (by kernel_rfl)
  have x1 : xcmp 3 0 0 5 (-1) 0 = 1 := xcmp_of (by decide) (by decide) (by decide) (by decide) (by kernel_rfl)
  have x2 : xcmp 3 0 0 7 (-1) 0 = (-1) := xcmp_of (by decide) (by decide) (by decide) (by decide) (by kernel_rfl)
  exact ⟨3, ⟨F.1, by unfold hasU; rw [if_neg (by decide), x1, x2]; decide, Or.inl F.2, by decide⟩, fun _ => rfl⟩
theorem four_print5 (m : Nat) (w : World) (h : QW w m) :
    Calls Tryz.prog 7 #[.int .i64 ((9 : Nat) : Int), .int .u64 ((5 : Nat) : Int)] w fun e w' => e = .returned (.tuple #[tv [51], .int .i64 0]) ∧ Below w.heap.size w w' :=
  print_signed sf_four four_pt5 0 3 5 7 3 0 (-1) (-1) 0 0 false [51] (by decide) (by decide) (by decide) (by decide) (by decide) (by decide) (by decide) (by decide) (by decide) (by decide) (Or.inl ⟨by decide, by decide, by decide⟩) (by decide) four_log5 (by decide) (by decide) (by decide) (by decide) (by decide) four_near5
    (Lib.hid (fun v w' hi => layout_one false v 3 51 w' hi (by decide) (by decide) (by decide) (by kernel_rfl))) w h
theorem four_print13 (m : Nat) (w : World) (h : QW w m) :
    Calls Tryz.prog 7 #[.int .i64 ((9 : Nat) : Int), .int .u64 ((13 : Nat) : Int)] w fun e w' => e = .returned (.tuple #[tv [45, 51], .int .i64 0]) ∧ Below w.heap.size w w' :=
  print_signed sf_four four_pt13 0 3 5 7 3 0 (-1) (-1) 0 0 false [45, 51] (by decide) (by decide) (by decide) (by decide) (by decide) (by decide) (by decide) (by decide) (by decide) (by decide) (Or.inl ⟨by decide, by decide, by decide⟩) (by decide) four_log5 (by decide) (by decide) (by decide) (by decide) (by decide) four_near5
    (Lib.hid (fun v w' hi => layout_one true v 3 51 w' hi (by decide) (by decide) (by decide) (by kernel_rfl))) w h
theorem four_log6 : Lg 1 2 0 0 :=
  lg_of (by decide) (by decide) (by rw [xcmp_of (c := 1) (by decide) (by decide) (by decide) (by decide) (by kernel_rfl)]; decide) (xcmp_of (by decide) (by decide) (by decide) (by decide) (by kernel_rfl))
theorem four_near6 (j : Int) (h1 : 0 ≤ j) (h2 : j ≤ 0) : ∃ D', NRok 1 2 j 7 (-1) 5 0 true D' (decide (j = 0)) ∧ (j = 0 → D' = 4) := by
  obtain rfl : j = 0 := by omega
  have F := flo_of (M := 1) (s := 2) (f := 0) (k := 0) (D := 4) (R := 0) (by decide) (by decide) (by decide) (by kernel_rfl) (by kernel_rfl)
  have x1 : xcmp 4 0 0 7 (-1) 0 = 1 := xcmp_of (by decide) (by decide) (by decide) (by decide) (by kernel_rfl)
  have x2 : xcmp 4 0 0 5 0 0 = (-1) := xcmp_of (by decide) (by decide) (by decide) (by decide) (by kernel_rfl)
  exact ⟨4, ⟨F.1, by unfold hasU; rw [if_neg (by decide), x1, x2]; decide, Or.inl F.2, by decide⟩, fun _ => rfl⟩
theorem four_print6 (m : Nat) (w : World) (h : QW w m) :
    Calls Tryz.prog 7 #[.int .i64 ((9 : Nat) : Int), .int .u64 ((6 : Nat) : Int)] w fun e w' => e = .returned (.tuple #[tv [52], .int .i64 0]) ∧ Below w.heap.size w w' :=
  print_signed sf_four four_pt6 1 1 7 5 4 2 (-1) 0 0 0 true [52] (by decide) (by decide) (by decide) (by decide) (by decide) (by decide) (by decide) (by decide) (by decide) (by decide) (Or.inl ⟨by decide, by decide, by decide⟩) (by decide) four_log6 (by decide) (by decide) (by decide) (by decide) (by decide) four_near6
    (Lib.hid (fun v w' hi => layout_one false v 4 52 w' hi (by decide) (by decide) (by decide) (by kernel_rfl))) w h
theorem four_print14 (m : Nat) (w : World) (h : QW w m) :
    Calls Tryz.prog 7 #[.int .i64 ((9 : Nat) : Int), .int .u64 ((14 : Nat) : Int)] w fun e w' => e = .returned (.tuple #[tv [45, 52], .int .i64 0]) ∧ Below w.heap.size w w' :=
  print_signed sf_four four_pt14 1 1 7 5 4 2 (-1) 0 0 0 true [45, 52] (by decide) (by decide) (by decide) (by decide) (by decide) (by decide) (by decide) (by decide) (by decide) (by decide) (Or.inl ⟨by decide, by decide, by decide⟩) (by decide) four_log6 (by decide) (by decide) (by decide) (by decide) (by decide) four_near6
    (Lib.hid (fun v w' hi => layout_one true v 4 52 w' hi (by decide) (by decide) (by decide) (by kernel_rfl))) w h
theorem four_log7 : Lg 3 1 0 0 :=
  lg_of (by decide) (by decide) (by rw [xcmp_of (c := 1) (by decide) (by decide) (by decide) (by decide) (by kernel_rfl)]; decide) (xcmp_of (by decide) (by decide) (by decide) (by decide) (by kernel_rfl))
theorem four_near7 (j : Int) (h1 : 0 ≤ j) (h2 : j ≤ 0) : ∃ D', NRok 3 1 j 5 0 0 0 false D' (decide (j = 0)) ∧ (j = 0 → D' = 6) := by
  obtain rfl : j = 0 := by omega
  have F := flo_of (M := 3) (s := 1) (f := 0) (k := 0) (D := 6) (R := 0) (by decide) (by decide) (by decide) (by kernel_rfl) (by kernel_rfl)
  have x1 : xcmp 6 0 0 5 0 0 = 1 := xcmp_of (by decide) (by decide) (by decide) (by decide) (by kernel_rfl)
  exact ⟨6, ⟨F.1, by unfold hasU; rw [if_pos rfl, x1]; decide, Or.inl F.2, by decide⟩, fun _ => rfl⟩
theorem four_print7 (m : Nat) (w : World) (h : QW w m) :
    Calls Tryz.prog 7 #[.int .i64 ((9 : Nat) : Int), .int .u64 ((7 : Nat) : Int)] w fun e w' => e = .returned (.tuple #[tv [54], .int .i64 0]) ∧ Below w.heap.size w w' :=
  print_signed sf_four four_pt7 0 3 5 0 6 1 0 0 0 0 false [54] (by decide) (by decide) (by decide) (by decide) (by decide) (by decide) (by decide) (by decide) (by decide) (by decide) (Or.inr ⟨by decide, by decide, by decide, by decide, by decide⟩) (by decide) four_log7 (by decide) (by decide) (by decide) (by decide) (by decide) four_near7
    (Lib.hid (fun v w' hi => layout_one false v 6 54 w' hi (by decide) (by decide) (by decide) (by kernel_rfl))) w h
theorem four_print15 (m : Nat) (w : World) (h : QW w m) :
    Calls Tryz.prog 7 #[.int .i64 ((9 : Nat) : Int), .int .u64 ((15 : Nat) : Int)] w fun e w' => e = .returned (.tuple #[tv [45, 54], .int .i64 0]) ∧ Below w.heap.size w w' :=
  print_signed sf_four four_pt15 0 3 5 0 6 1 0 0 0 0 false [45, 54] (by decide) (by decide) (by decide) (by decide) (by decide) (by decide) (by decide) (by decide) (by decide) (by decide) (Or.inr ⟨by decide, by decide, by decide, by decide, by decide⟩) (by decide) four_log7 (by decide) (by decide) (by decide) (by decide) (by decide) four_near7
    (Lib.hid (fun v w' hi => layout_one true v 6 54 w' hi (by decide) (by decide) (by decide) (by kernel_rfl))) w h
theorem four_print0 (m mw : Nat) (w : World) (h : QW w m) (hW : WordAt w mw) :
    Calls Tryz.prog 7 #[.int .i64 ((9 : Nat) : Int), .int .u64 ((0 : Nat) : Int)] w fun e w' => e = .returned (.tuple #[tv [48], .int .i64 0]) ∧ Below w.heap.size w w' :=
  print_fin 9 0 [48] w (Lib.hid (told_zero 9 0 mw 2 4 1 1 7 0 0 false w (by decide) (by decide) h.form hW (Lib.hid (fun w' hb => decode_none sf_four four_pt0 (by decide) (by decide) w' (h.below hb)))))
theorem four_print8 (m mw : Nat) (w : World) (h : QW w m) (hW : WordAt w mw) :
    Calls Tryz.prog 7 #[.int .i64 ((9 : Nat) : Int), .int .u64 ((8 : Nat) : Int)] w fun e w' => e = .returned (.tuple #[tv [45, 48], .int .i64 0]) ∧ Below w.heap.size w w' :=
  print_fin 9 8 [45, 48] w (Lib.hid (told_zero 9 8 mw 2 4 1 1 7 0 0 true w (by decide) (by decide) h.form hW (Lib.hid (fun w' hb => decode_none sf_four four_pt8 (by decide) (by decide) w' (h.below hb)))))
theorem four_in0 : wi 1 (vx 0 0 0) (unit 1 1) 0 = true := wi_low (by decide) (by kernel_rfl)
theorem four_round0 (m : Nat) (v : Value) (w : World) (h : QW w m) (hx : XOk w v 0 0 0) :
    Calls Tryz.prog 11 #[.int .i64 ((9 : Nat) : Int), .int .i64 2, xv false v 0 0] w fun en w' => en = .returned (.tuple #[.int .u64 ((0 : Nat) : Int), .int .i64 0]) ∧ Below w.heap.size w w' :=
  round_pos sf_four 2 v 0 0 0 0 (by decide) (by decide) (Or.inr rfl) four_in0 (Or.inl rfl) (by decide) (by decide) (by decide) (fit_small (by decide)) w h hx
theorem four_parse0 (m : Nat) (w : World) (h : QW w m) :
    Calls Tryz.prog 8 #[.int .i64 ((9 : Nat) : Int), .int .i64 2, tv [48]] w fun en w' => en = .returned (.tuple #[.int .u64 ((0 : Nat) : Int), .int .i64 0, .int .i64 0]) ∧ Below w.heap.size w w' :=
  parse_of 9 2 2 4 1 1 7 0 0 0 0 false 0 [48] w (by decide) (by decide) h.form (Or.inr rfl) (fit_small (by decide)) (by decide)
    (Lib.hid (fun bk c w' hb hbk hB => scan_bytes [48] [48] false 0 48 0 0 1 0 0 0 bk c w' hbk hB (by decide) (by decide) (by decide) (by decide) (by decide) (by decide) (by decide)
      (Lib.hid (fun w'' => num_d 48 w'' (by decide) (by decide)))
      (Lib.hid (fun w'' => (item_zero [48] w'' (by decide)).mono (fun en w3 hh => ⟨⟨none, 0, 0, hh.1, isN_none _⟩, hh.2⟩)))))
    (Lib.hid (fun A mm c w' hb hi => four_round0 m _ w' (h.below hb) (xok_of hi (by decide) (by decide) (by decide))))
theorem four_round8 (m : Nat) (v : Value) (w : World) (h : QW w m) (hx : XOk w v 0 0 0) :
    Calls Tryz.prog 11 #[.int .i64 ((9 : Nat) : Int), .int .i64 2, xv true v 0 0] w fun en w' => en = .returned (.tuple #[.int .u64 ((8 : Nat) : Int), .int .i64 0]) ∧ Below w.heap.size w w' :=
  round_neg sf_four 2 v 0 0 0 0 15 7 8 8 (by decide) (by decide) (Or.inr rfl) four_in0 (Or.inl rfl) (by decide) (by decide) (by decide) (fit_small (by decide)) (by decide) (by decide) (by decide) (by decide) w h hx
theorem four_parse8 (m : Nat) (w : World) (h : QW w m) :
    Calls Tryz.prog 8 #[.int .i64 ((9 : Nat) : Int), .int .i64 2, tv [45, 48]] w fun en w' => en = .returned (.tuple #[.int .u64 ((8 : Nat) : Int), .int .i64 0, .int .i64 0]) ∧ Below w.heap.size w w' :=
  parse_of 9 2 2 4 1 1 7 0 0 0 8 true 0 [45, 48] w (by decide) (by decide) h.form (Or.inr rfl) (fit_small (by decide)) (by decide)
    (Lib.hid (fun bk c w' hb hbk hB => scan_bytes [45, 48] [48] true 1 48 0 0 2 0 0 0 bk c w' hbk hB (by decide) (by decide) (by decide) (by decide) (by decide) (by decide) (by decide)
      (Lib.hid (fun w'' => num_nd 48 w'' (by decide) (by decide)))
      (Lib.hid (fun w'' => (item_zero [48] w'' (by decide)).mono (fun en w3 hh => ⟨⟨none, 0, 0, hh.1, isN_none _⟩, hh.2⟩)))))
    (Lib.hid (fun A mm c w' hb hi => four_round8 m _ w' (h.below hb) (xok_of hi (by decide) (by decide) (by decide))))
theorem four_in1 : wi 1 (vx 5 (-1) (-1)) (unit 1 1) 1 = true := wi_low (by decide) (by kernel_rfl)
theorem four_out1 : wi 1 (vx 5 (-1) (-1)) (unit 1 1) 0 = false := wi_low (by decide) (by kernel_rfl)
theorem four_round1 (m : Nat) (v : Value) (w : World) (h : QW w m) (hx : XOk w v 5 (-1) (-1)) :
    Calls Tryz.prog 11 #[.int .i64 ((9 : Nat) : Int), .int .i64 2, xv false v (-1) (-1)] w fun en w' => en = .returned (.tuple #[.int .u64 ((1 : Nat) : Int), .int .i64 0]) ∧ Below w.heap.size w w' :=
  round_pos sf_four 2 v (-1) (-1) 5 1 (by decide) (by decide) (Or.inr rfl) four_in1 (Or.inr four_out1) (by decide) (by decide) (by decide) (fit_small (by decide)) w h hx
theorem four_parse1 (m : Nat) (w : World) (h : QW w m) :
    Calls Tryz.prog 8 #[.int .i64 ((9 : Nat) : Int), .int .i64 2, tv [48, 46, 53]] w fun en w' => en = .returned (.tuple #[.int .u64 ((1 : Nat) : Int), .int .i64 0, .int .i64 0]) ∧ Below w.heap.size w w' :=
  parse_of 9 2 2 4 1 1 7 0 0 5 1 false (-1) [48, 46, 53] w (by decide) (by decide) h.form (Or.inr rfl) (fit_small (by decide)) (by decide)
    (Lib.hid (fun bk c w' hb hbk hB => scan_bytes [48, 46, 53] [48, 53] false 0 48 1 0 3 (-1) (-1) 5 bk c w' hbk hB (by decide) (by decide) (by decide) (by decide) (by decide) (by decide) (by decide)
      (Lib.hid (fun w'' => num_de 48 53 w'' (by decide) (by decide) (by decide) (by decide)))
      (Lib.hid (fun w'' => item_num [48, 53] [53] (-1) 5 w'' (by decide) (by decide) (by decide) (by decide) (by decide) (Lib.hid (fun w3 => np_1 53 5 w3 (by decide) (by decide) (by decide) (by decide)))))))
    (Lib.hid (fun A mm c w' hb hi => four_round1 m _ w' (h.below hb) (xok_of hi (by decide) (by decide) (by decide))))
theorem four_round9 (m : Nat) (v : Value) (w : World) (h : QW w m) (hx : XOk w v 5 (-1) (-1)) :
    Calls Tryz.prog 11 #[.int .i64 ((9 : Nat) : Int), .int .i64 2, xv true v (-1) (-1)] w fun en w' => en = .returned (.tuple #[.int .u64 ((9 : Nat) : Int), .int .i64 0]) ∧ Below w.heap.size w w' :=
  round_neg sf_four 2 v (-1) (-1) 5 1 15 7 8 9 (by decide) (by decide) (Or.inr rfl) four_in1 (Or.inr four_out1) (by decide) (by decide) (by decide) (fit_small (by decide)) (by decide) (by decide) (by decide) (by decide) w h hx
theorem four_parse9 (m : Nat) (w : World) (h : QW w m) :
    Calls Tryz.prog 8 #[.int .i64 ((9 : Nat) : Int), .int .i64 2, tv [45, 48, 46, 53]] w fun en w' => en = .returned (.tuple #[.int .u64 ((9 : Nat) : Int), .int .i64 0, .int .i64 0]) ∧ Below w.heap.size w w' :=
  parse_of 9 2 2 4 1 1 7 0 0 5 9 true (-1) [45, 48, 46, 53] w (by decide) (by decide) h.form (Or.inr rfl) (fit_small (by decide)) (by decide)
    (Lib.hid (fun bk c w' hb hbk hB => scan_bytes [45, 48, 46, 53] [48, 53] true 1 48 1 0 4 (-1) (-1) 5 bk c w' hbk hB (by decide) (by decide) (by decide) (by decide) (by decide) (by decide) (by decide)
      (Lib.hid (fun w'' => num_nde 48 53 w'' (by decide) (by decide) (by decide) (by decide)))
      (Lib.hid (fun w'' => item_num [48, 53] [53] (-1) 5 w'' (by decide) (by decide) (by decide) (by decide) (by decide) (Lib.hid (fun w3 => np_1 53 5 w3 (by decide) (by decide) (by decide) (by decide)))))))
    (Lib.hid (fun A mm c w' hb hi => four_round9 m _ w' (h.below hb) (xok_of hi (by decide) (by decide) (by decide))))
theorem four_in2 : wi 1 (vx 1 0 0) (unit 1 1) 2 = true := wi_low (by decide) (by kernel_rfl)
theorem four_out2 : wi 1 (vx 1 0 0) (unit 1 1) 1 = false := wi_low (by decide) (by kernel_rfl)
theorem four_round2 (m : Nat) (v : Value) (w : World) (h : QW w m) (hx : XOk w v 1 0 0) :
    Calls Tryz.prog 11 #[.int .i64 ((9 : Nat) : Int), .int .i64 2, xv false v 0 0] w fun en w' => en = .returned (.tuple #[.int .u64 ((2 : Nat) : Int), .int .i64 0]) ∧ Below w.heap.size w w' :=
  round_pos sf_four 2 v 0 0 1 2 (by decide) (by decide) (Or.inr rfl) four_in2 (Or.inr four_out2) (by decide) (by decide) (by decide) (fit_small (by decide)) w h hx
theorem four_parse2 (m : Nat) (w : World) (h : QW w m) :
    Calls Tryz.prog 8 #[.int .i64 ((9 : Nat) : Int), .int .i64 2, tv [49]] w fun en w' => en = .returned (.tuple #[.int .u64 ((2 : Nat) : Int), .int .i64 0, .int .i64 0]) ∧ Below w.heap.size w w' :=
  parse_of 9 2 2 4 1 1 7 0 0 1 2 false 0 [49] w (by decide) (by decide) h.form (Or.inr rfl) (fit_small (by decide)) (by decide)
    (Lib.hid (fun bk c w' hb hbk hB => scan_bytes [49] [49] false 0 49 0 0 1 0 0 1 bk c w' hbk hB (by decide) (by decide) (by decide) (by decide) (by decide) (by decide) (by decide)
      (Lib.hid (fun w'' => num_d 49 w'' (by decide) (by decide)))
      (Lib.hid (fun w'' => item_num [49] [49] 0 1 w'' (by decide) (by decide) (by decide) (by decide) (by decide) (Lib.hid (fun w3 => np_1 49 1 w3 (by decide) (by decide) (by decide) (by decide)))))))
    (Lib.hid (fun A mm c w' hb hi => four_round2 m _ w' (h.below hb) (xok_of hi (by decide) (by decide) (by decide))))
theorem four_round10 (m : Nat) (v : Value) (w : World) (h : QW w m) (hx : XOk w v 1 0 0) :
    Calls Tryz.prog 11 #[.int .i64 ((9 : Nat) : Int), .int .i64 2, xv true v 0 0] w fun en w' => en = .returned (.tuple #[.int .u64 ((10 : Nat) : Int), .int .i64 0]) ∧ Below w.heap.size w w' :=
  round_neg sf_four 2 v 0 0 1 2 15 7 8 10 (by decide) (by decide) (Or.inr rfl) four_in2 (Or.inr four_out2) (by decide) (by decide) (by decide) (fit_small (by decide)) (by decide) (by decide) (by decide) (by decide) w h hx
theorem four_parse10 (m : Nat) (w : World) (h : QW w m) :
    Calls Tryz.prog 8 #[.int .i64 ((9 : Nat) : Int), .int .i64 2, tv [45, 49]] w fun en w' => en = .returned (.tuple #[.int .u64 ((10 : Nat) : Int), .int .i64 0, .int .i64 0]) ∧ Below w.heap.size w w' :=
  parse_of 9 2 2 4 1 1 7 0 0 1 10 true 0 [45, 49] w (by decide) (by decide) h.form (Or.inr rfl) (fit_small (by decide)) (by decide)
    (Lib.hid (fun bk c w' hb hbk hB => scan_bytes [45, 49] [49] true 1 49 0 0 2 0 0 1 bk c w' hbk hB (by decide) (by decide) (by decide) (by decide) (by decide) (by decide) (by decide)
      (Lib.hid (fun w'' => num_nd 49 w'' (by decide) (by decide)))
      (Lib.hid (fun w'' => item_num [49] [49] 0 1 w'' (by decide) (by decide) (by decide) (by decide) (by decide) (Lib.hid (fun w3 => np_1 49 1 w3 (by decide) (by decide) (by decide) (by decide)))))))
    (Lib.hid (fun A mm c w' hb hi => four_round10 m _ w' (h.below hb) (xok_of hi (by decide) (by decide) (by decide))))
theorem four_in3 : wi 1 (vx 15 (-1) (-1)) (unit 1 1) 3 = true := wi_low (by decide) (by kernel_rfl)
theorem four_out3 : wi 1 (vx 15 (-1) (-1)) (unit 1 1) 2 = false := wi_low (by decide) (by kernel_rfl)
theorem four_round3 (m : Nat) (v : Value) (w : World) (h : QW w m) (hx : XOk w v 15 (-1) (-1)) :
    Calls Tryz.prog 11 #[.int .i64 ((9 : Nat) : Int), .int .i64 2, xv false v (-1) (-1)] w fun en w' => en = .returned (.tuple #[.int .u64 ((3 : Nat) : Int), .int .i64 0]) ∧ Below w.heap.size w w' :=
  round_pos sf_four 2 v (-1) (-1) 15 3 (by decide) (by decide) (Or.inr rfl) four_in3 (Or.inr four_out3) (by decide) (by decide) (by decide) (fit_small (by decide)) w h hx
theorem four_parse3 (m : Nat) (w : World) (h : QW w m) :
    Calls Tryz.prog 8 #[.int .i64 ((9 : Nat) : Int), .int .i64 2, tv [49, 46, 53]] w fun en w' => en = .returned (.tuple #[.int .u64 ((3 : Nat) : Int), .int .i64 0, .int .i64 0]) ∧ Below w.heap.size w w' :=
  parse_of 9 2 2 4 1 1 7 0 0 15 3 false (-1) [49, 46, 53] w (by decide) (by decide) h.form (Or.inr rfl) (fit_small (by decide)) (by decide)
    (Lib.hid (fun bk c w' hb hbk hB => scan_bytes [49, 46, 53] [49, 53] false 0 49 1 0 3 (-1) (-1) 15 bk c w' hbk hB (by decide) (by decide) (by decide) (by decide) (by decide) (by decide) (by decide)
      (Lib.hid (fun w'' => num_de 49 53 w'' (by decide) (by decide) (by decide) (by decide)))
      (Lib.hid (fun w'' => item_num [49, 53] [49, 53] (-1) 15 w'' (by decide) (by decide) (by decide) (by decide) (by decide) (Lib.hid (fun w3 => np_2 49 53 15 w3 (by decide) (by decide) (by decide) (by decide)))))))
    (Lib.hid (fun A mm c w' hb hi => four_round3 m _ w' (h.below hb) (xok_of hi (by decide) (by decide) (by decide))))
theorem four_round11 (m : Nat) (v : Value) (w : World) (h : QW w m) (hx : XOk w v 15 (-1) (-1)) :
    Calls Tryz.prog 11 #[.int .i64 ((9 : Nat) : Int), .int .i64 2, xv true v (-1) (-1)] w fun en w' => en = .returned (.tuple #[.int .u64 ((11 : Nat) : Int), .int .i64 0]) ∧ Below w.heap.size w w' :=
  round_neg sf_four 2 v (-1) (-1) 15 3 15 7 8 11 (by decide) (by decide) (Or.inr rfl) four_in3 (Or.inr four_out3) (by decide) (by decide) (by decide) (fit_small (by decide)) (by decide) (by decide) (by decide) (by decide) w h hx
theorem four_parse11 (m : Nat) (w : World) (h : QW w m) :
    Calls Tryz.prog 8 #[.int .i64 ((9 : Nat) : Int), .int .i64 2, tv [45, 49, 46, 53]] w fun en w' => en = .returned (.tuple #[.int .u64 ((11 : Nat) : Int), .int .i64 0, .int .i64 0]) ∧ Below w.heap.size w w' :=
  parse_of 9 2 2 4 1 1 7 0 0 15 11 true (-1) [45, 49, 46, 53] w (by decide) (by decide) h.form (Or.inr rfl) (fit_small (by decide)) (by decide)
    (Lib.hid (fun bk c w' hb hbk hB => scan_bytes [45, 49, 46, 53] [49, 53] true 1 49 1 0 4 (-1) (-1) 15 bk c w' hbk hB (by decide) (by decide) (by decide) (by decide) (by decide) (by decide) (by decide)
      (Lib.hid (fun w'' => num_nde 49 53 w'' (by decide) (by decide) (by decide) (by decide)))
      (Lib.hid (fun w'' => item_num [49, 53] [49, 53] (-1) 15 w'' (by decide) (by decide) (by decide) (by decide) (by decide) (Lib.hid (fun w3 => np_2 49 53 15 w3 (by decide) (by decide) (by decide) (by decide)))))))
    (Lib.hid (fun A mm c w' hb hi => four_round11 m _ w' (h.below hb) (xok_of hi (by decide) (by decide) (by decide))))
theorem four_in4 : wi 1 (vx 2 0 0) (unit 1 1) 4 = true := wi_low (by decide) (by kernel_rfl)
theorem four_out4 : wi 1 (vx 2 0 0) (unit 1 1) 3 = false := wi_low (by decide) (by kernel_rfl)
theorem four_round4 (m : Nat) (v : Value) (w : World) (h : QW w m) (hx : XOk w v 2 0 0) :
    Calls Tryz.prog 11 #[.int .i64 ((9 : Nat) : Int), .int .i64 2, xv false v 0 0] w fun en w' => en = .returned (.tuple #[.int .u64 ((4 : Nat) : Int), .int .i64 0]) ∧ Below w.heap.size w w' :=
  round_pos sf_four 2 v 0 0 2 4 (by decide) (by decide) (Or.inr rfl) four_in4 (Or.inr four_out4) (by decide) (by decide) (by decide) (fit_small (by decide)) w h hx
theorem four_parse4 (m : Nat) (w : World) (h : QW w m) :
    Calls Tryz.prog 8 #[.int .i64 ((9 : Nat) : Int), .int .i64 2, tv [50]] w fun en w' => en = .returned (.tuple #[.int .u64 ((4 : Nat) : Int), .int .i64 0, .int .i64 0]) ∧ Below w.heap.size w w' :=
  parse_of 9 2 2 4 1 1 7 0 0 2 4 false 0 [50] w (by decide) (by decide) h.form (Or.inr rfl) (fit_small (by decide)) (by decide)
    (Lib.hid (fun bk c w' hb hbk hB => scan_bytes [50] [50] false 0 50 0 0 1 0 0 2 bk c w' hbk hB (by decide) (by decide) (by decide) (by decide) (by decide) (by decide) (by decide)
      (Lib.hid (fun w'' => num_d 50 w'' (by decide) (by decide)))
      (Lib.hid (fun w'' => item_num [50] [50] 0 2 w'' (by decide) (by decide) (by decide) (by decide) (by decide) (Lib.hid (fun w3 => np_1 50 2 w3 (by decide) (by decide) (by decide) (by decide)))))))
    (Lib.hid (fun A mm c w' hb hi => four_round4 m _ w' (h.below hb) (xok_of hi (by decide) (by decide) (by decide))))
theorem four_round12 (m : Nat) (v : Value) (w : World) (h : QW w m) (hx : XOk w v 2 0 0) :
    Calls Tryz.prog 11 #[.int .i64 ((9 : Nat) : Int), .int .i64 2, xv true v 0 0] w fun en w' => en = .returned (.tuple #[.int .u64 ((12 : Nat) : Int), .int .i64 0]) ∧ Below w.heap.size w w' :=
  round_neg sf_four 2 v 0 0 2 4 15 7 8 12 (by decide) (by decide) (Or.inr rfl) four_in4 (Or.inr four_out4) (by decide) (by decide) (by decide) (fit_small (by decide)) (by decide) (by decide) (by decide) (by decide) w h hx
theorem four_parse12 (m : Nat) (w : World) (h : QW w m) :
    Calls Tryz.prog 8 #[.int .i64 ((9 : Nat) : Int), .int .i64 2, tv [45, 50]] w fun en w' => en = .returned (.tuple #[.int .u64 ((12 : Nat) : Int), .int .i64 0, .int .i64 0]) ∧ Below w.heap.size w w' :=
  parse_of 9 2 2 4 1 1 7 0 0 2 12 true 0 [45, 50] w (by decide) (by decide) h.form (Or.inr rfl) (fit_small (by decide)) (by decide)
    (Lib.hid (fun bk c w' hb hbk hB => scan_bytes [45, 50] [50] true 1 50 0 0 2 0 0 2 bk c w' hbk hB (by decide) (by decide) (by decide) (by decide) (by decide) (by decide) (by decide)
      (Lib.hid (fun w'' => num_nd 50 w'' (by decide) (by decide)))
      (Lib.hid (fun w'' => item_num [50] [50] 0 2 w'' (by decide) (by decide) (by decide) (by decide) (by decide) (Lib.hid (fun w3 => np_1 50 2 w3 (by decide) (by decide) (by decide) (by decide)))))))
    (Lib.hid (fun A mm c w' hb hi => four_round12 m _ w' (h.below hb) (xok_of hi (by decide) (by decide) (by decide))))
theorem four_in5 : wi 1 (vx 3 0 0) (unit 1 1) 5 = true := wi_low (by decide) (by kernel_rfl)
theorem four_out5 : wi 1 (vx 3 0 0) (unit 1 1) 4 = false := wi_low (by decide) (by kernel_rfl)
theorem four_round5 (m : Nat) (v : Value) (w : World) (h : QW w m) (hx : XOk w v 3 0 0) :
    Calls Tryz.prog 11 #[.int .i64 ((9 : Nat) : Int), .int .i64 2, xv false v 0 0] w fun en w' => en = .returned (.tuple #[.int .u64 ((5 : Nat) : Int), .int .i64 0]) ∧ Below w.heap.size w w' :=
  round_pos sf_four 2 v 0 0 3 5 (by decide) (by decide) (Or.inr rfl) four_in5 (Or.inr four_out5) (by decide) (by decide) (by decide) (fit_small (by decide)) w h hx
theorem four_parse5 (m : Nat) (w : World) (h : QW w m) :
    Calls Tryz.prog 8 #[.int .i64 ((9 : Nat) : Int), .int .i64 2, tv [51]] w fun en w' => en = .returned (.tuple #[.int .u64 ((5 : Nat) : Int), .int .i64 0, .int .i64 0]) ∧ Below w.heap.size w w' :=
  parse_of 9 2 2 4 1 1 7 0 0 3 5 false 0 [51] w (by decide) (by decide) h.form (Or.inr rfl) (fit_small (by decide)) (by decide)
    (Lib.hid (fun bk c w' hb hbk hB => scan_bytes [51] [51] false 0 51 0 0 1 0 0 3 bk c w' hbk hB (by decide) (by decide) (by decide) (by decide) (by decide) (by decide) (by decide)
      (Lib.hid (fun w'' => num_d 51 w'' (by decide) (by decide)))
      (Lib.hid (fun w'' => item_num [51] [51] 0 3 w'' (by decide) (by decide) (by decide) (by decide) (by decide) (Lib.hid (fun w3 => np_1 51 3 w3 (by decide) (by decide) (by decide) (by decide)))))))
    (Lib.hid (fun A mm c w' hb hi => four_round5 m _ w' (h.below hb) (xok_of hi (by decide) (by decide) (by decide))))
theorem four_round13 (m : Nat) (v : Value) (w : World) (h : QW w m) (hx : XOk w v 3 0 0) :
    Calls Tryz.prog 11 #[.int .i64 ((9 : Nat) : Int), .int .i64 2, xv true v 0 0] w fun en w' => en = .returned (.tuple #[.int .u64 ((13 : Nat) : Int), .int .i64 0]) ∧ Below w.heap.size w w' :=
  round_neg sf_four 2 v 0 0 3 5 15 7 8 13 (by decide) (by decide) (Or.inr rfl) four_in5 (Or.inr four_out5) (by decide) (by decide) (by decide) (fit_small (by decide)) (by decide) (by decide) (by decide) (by decide) w h hx
theorem four_parse13 (m : Nat) (w : World) (h : QW w m) :
    Calls Tryz.prog 8 #[.int .i64 ((9 : Nat) : Int), .int .i64 2, tv [45, 51]] w fun en w' => en = .returned (.tuple #[.int .u64 ((13 : Nat) : Int), .int .i64 0, .int .i64 0]) ∧ Below w.heap.size w w' :=
  parse_of 9 2 2 4 1 1 7 0 0 3 13 true 0 [45, 51] w (by decide) (by decide) h.form (Or.inr rfl) (fit_small (by decide)) (by decide)
    (Lib.hid (fun bk c w' hb hbk hB => scan_bytes [45, 51] [51] true 1 51 0 0 2 0 0 3 bk c w' hbk hB (by decide) (by decide) (by decide) (by decide) (by decide) (by decide) (by decide)
      (Lib.hid (fun w'' => num_nd 51 w'' (by decide) (by decide)))
      (Lib.hid (fun w'' => item_num [51] [51] 0 3 w'' (by decide) (by decide) (by decide) (by decide) (by decide) (Lib.hid (fun w3 => np_1 51 3 w3 (by decide) (by decide) (by decide) (by decide)))))))
    (Lib.hid (fun A mm c w' hb hi => four_round13 m _ w' (h.below hb) (xok_of hi (by decide) (by decide) (by decide))))
theorem four_in6 : wi 1 (vx 4 0 0) (unit 1 1) 6 = true := wi_low (by decide) (by kernel_rfl)
theorem four_out6 : wi 1 (vx 4 0 0) (unit 1 1) 5 = false := wi_low (by decide) (by kernel_rfl)
theorem four_round6 (m : Nat) (v : Value) (w : World) (h : QW w m) (hx : XOk w v 4 0 0) :
    Calls Tryz.prog 11 #[.int .i64 ((9 : Nat) : Int), .int .i64 2, xv false v 0 0] w fun en w' => en = .returned (.tuple #[.int .u64 ((6 : Nat) : Int), .int .i64 0]) ∧ Below w.heap.size w w' :=
  round_pos sf_four 2 v 0 0 4 6 (by decide) (by decide) (Or.inr rfl) four_in6 (Or.inr four_out6) (by decide) (by decide) (by decide) (fit_small (by decide)) w h hx
theorem four_parse6 (m : Nat) (w : World) (h : QW w m) :
    Calls Tryz.prog 8 #[.int .i64 ((9 : Nat) : Int), .int .i64 2, tv [52]] w fun en w' => en = .returned (.tuple #[.int .u64 ((6 : Nat) : Int), .int .i64 0, .int .i64 0]) ∧ Below w.heap.size w w' :=
  parse_of 9 2 2 4 1 1 7 0 0 4 6 false 0 [52] w (by decide) (by decide) h.form (Or.inr rfl) (fit_small (by decide)) (by decide)
    (Lib.hid (fun bk c w' hb hbk hB => scan_bytes [52] [52] false 0 52 0 0 1 0 0 4 bk c w' hbk hB (by decide) (by decide) (by decide) (by decide) (by decide) (by decide) (by decide)
      (Lib.hid (fun w'' => num_d 52 w'' (by decide) (by decide)))
      (Lib.hid (fun w'' => item_num [52] [52] 0 4 w'' (by decide) (by decide) (by decide) (by decide) (by decide) (Lib.hid (fun w3 => np_1 52 4 w3 (by decide) (by decide) (by decide) (by decide)))))))
    (Lib.hid (fun A mm c w' hb hi => four_round6 m _ w' (h.below hb) (xok_of hi (by decide) (by decide) (by decide))))
theorem four_round14 (m : Nat) (v : Value) (w : World) (h : QW w m) (hx : XOk w v 4 0 0) :
    Calls Tryz.prog 11 #[.int .i64 ((9 : Nat) : Int), .int .i64 2, xv true v 0 0] w fun en w' => en = .returned (.tuple #[.int .u64 ((14 : Nat) : Int), .int .i64 0]) ∧ Below w.heap.size w w' :=
  round_neg sf_four 2 v 0 0 4 6 15 7 8 14 (by decide) (by decide) (Or.inr rfl) four_in6 (Or.inr four_out6) (by decide) (by decide) (by decide) (fit_small (by decide)) (by decide) (by decide) (by decide) (by decide) w h hx
theorem four_parse14 (m : Nat) (w : World) (h : QW w m) :
    Calls Tryz.prog 8 #[.int .i64 ((9 : Nat) : Int), .int .i64 2, tv [45, 52]] w fun en w' => en = .returned (.tuple #[.int .u64 ((14 : Nat) : Int), .int .i64 0, .int .i64 0]) ∧ Below w.heap.size w w' :=
  parse_of 9 2 2 4 1 1 7 0 0 4 14 true 0 [45, 52] w (by decide) (by decide) h.form (Or.inr rfl) (fit_small (by decide)) (by decide)
    (Lib.hid (fun bk c w' hb hbk hB => scan_bytes [45, 52] [52] true 1 52 0 0 2 0 0 4 bk c w' hbk hB (by decide) (by decide) (by decide) (by decide) (by decide) (by decide) (by decide)
      (Lib.hid (fun w'' => num_nd 52 w'' (by decide) (by decide)))
      (Lib.hid (fun w'' => item_num [52] [52] 0 4 w'' (by decide) (by decide) (by decide) (by decide) (by decide) (Lib.hid (fun w3 => np_1 52 4 w3 (by decide) (by decide) (by decide) (by decide)))))))
    (Lib.hid (fun A mm c w' hb hi => four_round14 m _ w' (h.below hb) (xok_of hi (by decide) (by decide) (by decide))))
theorem four_in7 : wi 1 (vx 6 0 0) (unit 1 1) 7 = true := wi_low (by decide) (by kernel_rfl)
theorem four_out7 : wi 1 (vx 6 0 0) (unit 1 1) 6 = false := wi_low (by decide) (by kernel_rfl)
theorem four_round7 (m : Nat) (v : Value) (w : World) (h : QW w m) (hx : XOk w v 6 0 0) :
    Calls Tryz.prog 11 #[.int .i64 ((9 : Nat) : Int), .int .i64 2, xv false v 0 0] w fun en w' => en = .returned (.tuple #[.int .u64 ((7 : Nat) : Int), .int .i64 0]) ∧ Below w.heap.size w w' :=
  round_pos sf_four 2 v 0 0 6 7 (by decide) (by decide) (Or.inr rfl) four_in7 (Or.inr four_out7) (by decide) (by decide) (by decide) (fit_small (by decide)) w h hx
theorem four_parse7 (m : Nat) (w : World) (h : QW w m) :
    Calls Tryz.prog 8 #[.int .i64 ((9 : Nat) : Int), .int .i64 2, tv [54]] w fun en w' => en = .returned (.tuple #[.int .u64 ((7 : Nat) : Int), .int .i64 0, .int .i64 0]) ∧ Below w.heap.size w w' :=
  parse_of 9 2 2 4 1 1 7 0 0 6 7 false 0 [54] w (by decide) (by decide) h.form (Or.inr rfl) (fit_small (by decide)) (by decide)
    (Lib.hid (fun bk c w' hb hbk hB => scan_bytes [54] [54] false 0 54 0 0 1 0 0 6 bk c w' hbk hB (by decide) (by decide) (by decide) (by decide) (by decide) (by decide) (by decide)
      (Lib.hid (fun w'' => num_d 54 w'' (by decide) (by decide)))
      (Lib.hid (fun w'' => item_num [54] [54] 0 6 w'' (by decide) (by decide) (by decide) (by decide) (by decide) (Lib.hid (fun w3 => np_1 54 6 w3 (by decide) (by decide) (by decide) (by decide)))))))
    (Lib.hid (fun A mm c w' hb hi => four_round7 m _ w' (h.below hb) (xok_of hi (by decide) (by decide) (by decide))))
theorem four_round15 (m : Nat) (v : Value) (w : World) (h : QW w m) (hx : XOk w v 6 0 0) :
    Calls Tryz.prog 11 #[.int .i64 ((9 : Nat) : Int), .int .i64 2, xv true v 0 0] w fun en w' => en = .returned (.tuple #[.int .u64 ((15 : Nat) : Int), .int .i64 0]) ∧ Below w.heap.size w w' :=
  round_neg sf_four 2 v 0 0 6 7 15 7 8 15 (by decide) (by decide) (Or.inr rfl) four_in7 (Or.inr four_out7) (by decide) (by decide) (by decide) (fit_small (by decide)) (by decide) (by decide) (by decide) (by decide) w h hx
theorem four_parse15 (m : Nat) (w : World) (h : QW w m) :
    Calls Tryz.prog 8 #[.int .i64 ((9 : Nat) : Int), .int .i64 2, tv [45, 54]] w fun en w' => en = .returned (.tuple #[.int .u64 ((15 : Nat) : Int), .int .i64 0, .int .i64 0]) ∧ Below w.heap.size w w' :=
  parse_of 9 2 2 4 1 1 7 0 0 6 15 true 0 [45, 54] w (by decide) (by decide) h.form (Or.inr rfl) (fit_small (by decide)) (by decide)
    (Lib.hid (fun bk c w' hb hbk hB => scan_bytes [45, 54] [54] true 1 54 0 0 2 0 0 6 bk c w' hbk hB (by decide) (by decide) (by decide) (by decide) (by decide) (by decide) (by decide)
      (Lib.hid (fun w'' => num_nd 54 w'' (by decide) (by decide)))
      (Lib.hid (fun w'' => item_num [54] [54] 0 6 w'' (by decide) (by decide) (by decide) (by decide) (by decide) (Lib.hid (fun w3 => np_1 54 6 w3 (by decide) (by decide) (by decide) (by decide)))))))
    (Lib.hid (fun A mm c w' hb hi => four_round15 m _ w' (h.below hb) (xok_of hi (by decide) (by decide) (by decide))))
/-- the text of a pattern -/
def txt : Nat → List UInt8
  | 0 => [48]
  | 1 => [48, 46, 53]
  | 2 => [49]
  | 3 => [49, 46, 53]
  | 4 => [50]
  | 5 => [51]
  | 6 => [52]
  | 7 => [54]
  | 8 => [45, 48]
  | 9 => [45, 48, 46, 53]
  | 10 => [45, 49]
  | 11 => [45, 49, 46, 53]
  | 12 => [45, 50]
  | 13 => [45, 51]
  | 14 => [45, 52]
  | 15 => [45, 54]
  | _ => []
theorem four_print (p m mw : Nat) (hp : p < 16) (w : World) (h : QW w m) (hW : WordAt w mw) :
    Calls Tryz.prog 7 #[.int .i64 ((9 : Nat) : Int), .int .u64 (p : Int)] w fun e w' => e = .returned (.tuple #[tv (txt p), .int .i64 0]) ∧ Below w.heap.size w w' := by
  have hc : p = 0 ∨ p = 1 ∨ p = 2 ∨ p = 3 ∨ p = 4 ∨ p = 5 ∨ p = 6 ∨ p = 7 ∨ p = 8 ∨ p = 9 ∨ p = 10 ∨ p = 11 ∨ p = 12 ∨ p = 13 ∨ p = 14 ∨ p = 15 := by omega
  rcases hc with rfl | rfl | rfl | rfl | rfl | rfl | rfl | rfl | rfl | rfl | rfl | rfl | rfl | rfl | rfl | rfl
  · exact four_print0 m mw w h hW
  · exact four_print1 m w h
  · exact four_print2 m w h
  · exact four_print3 m w h
  · exact four_print4 m w h
  · exact four_print5 m w h
  · exact four_print6 m w h
  · exact four_print7 m w h
  · exact four_print8 m mw w h hW
  · exact four_print9 m w h
  · exact four_print10 m w h
  · exact four_print11 m w h
  · exact four_print12 m w h
  · exact four_print13 m w h
  · exact four_print14 m w h
  · exact four_print15 m w h
theorem four_parse (p m : Nat) (hp : p < 16) (w : World) (h : QW w m) :
    Calls Tryz.prog 8 #[.int .i64 ((9 : Nat) : Int), .int .i64 2, tv (txt p)] w fun en w' => en = .returned (.tuple #[.int .u64 (p : Int), .int .i64 0, .int .i64 0]) ∧ Below w.heap.size w w' := by
  have hc : p = 0 ∨ p = 1 ∨ p = 2 ∨ p = 3 ∨ p = 4 ∨ p = 5 ∨ p = 6 ∨ p = 7 ∨ p = 8 ∨ p = 9 ∨ p = 10 ∨ p = 11 ∨ p = 12 ∨ p = 13 ∨ p = 14 ∨ p = 15 := by omega
  rcases hc with rfl | rfl | rfl | rfl | rfl | rfl | rfl | rfl | rfl | rfl | rfl | rfl | rfl | rfl | rfl | rfl
  · exact four_parse0 m w h
  · exact four_parse1 m w h
  · exact four_parse2 m w h
  · exact four_parse3 m w h
  · exact four_parse4 m w h
  · exact four_parse5 m w h
  · exact four_parse6 m w h
  · exact four_parse7 m w h
  · exact four_parse8 m w h
  · exact four_parse9 m w h
  · exact four_parse10 m w h
  · exact four_parse11 m w h
  · exact four_parse12 m w h
  · exact four_parse13 m w h
  · exact four_parse14 m w h
  · exact four_parse15 m w h
end Go.Proofs.YtlmeobokpibifaaGreatDoor
end

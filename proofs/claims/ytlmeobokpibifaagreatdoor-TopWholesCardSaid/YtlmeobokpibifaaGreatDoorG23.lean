/- calipertop's TopWholes, walked. Conditions: as each theorem names them. A world that the rows' condition lets in: what the program's own start leaves, and the listed table of package utf8 laid beside it. Conditions: none. -/
import Derived.Test.YtlmeobokpibifaaGreatDoorG22
import Derived.Laws.Externs
import Derived.Test.YtlmeobokpibifaaGreatDoorRows
import Derived.Lay
import Derived.LaidMore
import Derived.WalkKit
import Derived.ProofKit
import Derived.Stop.Joined
section
set_option linter.unusedSimpArgs false
set_option linter.unusedVariables false
set_option linter.unusedVariables false
set_option linter.unusedSimpArgs false
namespace Go.Proofs.YtlmeobokpibifaaGreatDoor
open Go.RowKit

theorem float_lt (z : Int) (hz : -9007199254740992 ≤ z ∧ z ≤ 9007199254740992) : floatOfInt .f32 z < 4294967296 := by
  have hN : z.natAbs < 2 ^ 54 := by have : (2 : Nat) ^ 54 = 18014398509481984 := by decide
                                    omega
  have := nearest_lt bf_single (decide (z < 0)) z.natAbs hN
  rw [bits_of]
  have e : Ieee.single.signWeight = 2147483648 := by decide
  have e2 : FloatKind.f32.format = Ieee.single := rfl
  rw [e2]
  omega
theorem f64bits (x : Nat) (w : World) : (callFunc 12 #[.float .f64 x]).run Tryz.prog w = .ok (.value (.int .u64 x)) w := by
  rw [run_callFunc_extern Tryz.func12 (by kernel_rfl) (by kernel_rfl) (by kernel_rfl) (e := Extern.MathFloatBits.float64bits) (by kernel_rfl)]
  rfl
theorem f32bits (x : Nat) (w : World) : (callFunc 13 #[.float .f32 x]).run Tryz.prog w = .ok (.value (.int .u32 x)) w := by
  rw [run_callFunc_extern Tryz.func13 (by kernel_rfl) (by kernel_rfl) (by kernel_rfl) (e := Extern.MathFloatBits.float32bits) (by kernel_rfl)]
  rfl
set_option maxRecDepth 20000 in
set_option maxHeartbeats 2000000 in
theorem walk_TopWholes (a : Int) (wa : (Lit.int .i64 a).wf = true) (m mw : Nat) (w : World) (h : AW w m mw) :
    Calls Tryz.prog 5 #[.int .i64 a] w fun en w' => en = .returned (.bool true) ∧ Below w.heap.size w w' := by
  have WK := Lib.hid (works_true m w h.ww.tw)
  have H := Lib.hid h.ww
  have ba := bounds_i64 wa
  obtain ⟨z, hz⟩ : ∃ z, a / 1024 = z := ⟨_, rfl⟩
  have hb : -9007199254740992 ≤ z ∧ z ≤ 9007199254740992 := by omega
  have FL := Lib.hid (float_lt z hb)
  have RD := Lib.hid (fun v w' h1 h2 => round_d z hb v m w' h1 h2)
  have RF := Lib.hid (fun v w' h1 h2 => round_f z hb v m w' h1 h2)
  clear h ba wa
  rcases (show (∃ N : Nat, 0 < N ∧ z = (N : Int) ∧ N < 9223372036854775808) ∨ z = 0 ∨ (∃ N : Nat, 0 < N ∧ z = -(N : Int) ∧ N < 9223372036854775808) from by
    rcases Int.lt_trichotomy z 0 with h | h | h
    · exact Or.inr (Or.inr ⟨z.natAbs, by omega, by omega, by omega⟩)
    · exact Or.inr (Or.inl h)
    · exact Or.inl ⟨z.natAbs, by omega, by omega, by omega⟩) with ⟨N, h0, rfl, hN⟩ | rfl | ⟨N, h0, rfl, hN⟩
  · have d2 : decide ((N : Int) < 0) = false := by simp
    have na : Int.natAbs (N : Int) = N := by simp
    rw [d2, na] at RD RF
    have d1 : decide (0 < (N : Int)) = true := by simp; omega
    have wu : IntKind.u64.wrap (N : Int) = (N : Int) := IntWalk.u64_in _ (by omega)
    have wi : wrap64 (N : Int) = (N : Int) := IntWalk.wrap64_in _ ⟨by omega, by omega⟩
    obtain ⟨x, hx⟩ : ∃ x, floatOfInt .f64 (N : Int) = x := ⟨_, rfl⟩
    obtain ⟨y, hy⟩ : ∃ y, floatOfInt .f32 (N : Int) = y := ⟨_, rfl⟩
    rw [hx] at RD
    rw [hy] at RF FL
    have wy : IntKind.u64.wrap (y : Int) = (y : Int) := IntWalk.u64_in _ (by have := FL.out; omega)
    have wy2 : IntKind.u32.wrap (y : Int) = (y : Int) := IntWalk.u32_in _ (by have := FL.out; omega)
    clear FL hb
    unfold xv at *
    go_enter Tryz.func5, Tryz.ntmps5
    go_wp2_with fail
    with_reducible (refine WK.out.mono ?_)
    rintro e w1 ⟨rfl, b1⟩
    have HB1 := Lib.hid b1
    have H1 := Lib.hid (H.out.below b1)
    clear b1
    go_wp2_with fail
    have HA := Lib.hid (bgrow (bgrow HB1.out (.cells #[.bool false, .slice (some { block := w1.heap.size + 1, off := 0 }) 1 1, .int .i64 0, .int .i64 0] 41)) (.cells #[.int .u64 (N : Int)] 22))
    have H2 := Lib.hid (H1.out.below (bgrow (bgrow (Below.refl w1.heap.size w1) (.cells #[.bool false, .slice (some { block := w1.heap.size + 1, off := 0 }) 1 1, .int .i64 0, .int .i64 0] 41)) (.cells #[.int .u64 (N : Int)] 22)))
    have BX : Hid (((w1.alloc (.cells #[.bool false, .slice (some { block := w1.heap.size + 1, off := 0 }) 1 1, .int .i64 0, .int .i64 0] 41)).alloc (.cells #[.int .u64 (N : Int)] 22)).heap[w1.heap.size]? = some (.cells #[.bool false, .slice (some { block := w1.heap.size + 1, off := 0 }) 1 1, .int .i64 0, .int .i64 0] 41 (0, 0))) := Lib.hid (al2 w1 _ _).1
    have HX := Lib.hid (isn_word (al2 w1 (.cells #[.bool false, .slice (some { block := w1.heap.size + 1, off := 0 }) 1 1, .int .i64 0, .int .i64 0] 41) (.cells #[.int .u64 (N : Int)] 22)).2 h0 (by omega))
    generalize ((w1.alloc (.cells #[.bool false, .slice (some { block := w1.heap.size + 1, off := 0 }) 1 1, .int .i64 0, .int .i64 0] 41)).alloc (.cells #[.int .u64 (N : Int)] 22)) = WB at HA H2 BX HX ⊢
    with_reducible (refine (RD.out _ _ H2.out.tw.dw HX.out).mono ?_)
    rintro e w2 ⟨rfl, b2⟩
    have HB2 := Lib.hid (bthen HA.out b2)
    have H3 := Lib.hid (H2.out.below b2)
    have BX2 := Lib.hid ((b2.block _ (blk_lt BX.out)).trans BX.out)
    have HX2 := Lib.hid (HX.out.below b2)
    clear b2 BX HX H2 HA
    obtain ⟨g0, g1, g2, g3, -⟩ := four_free BX2.out
    go_wp2_with fail
    with_reducible (refine (RF.out _ _ H3.out.fw HX2.out).mono ?_)
    rintro e w3 ⟨rfl, b3⟩
    have HB3 := Lib.hid (bthen HB2.out b3)
    clear b3 g0 g1 g2 g3
    have FB := f64bits x w3
    have GB := f32bits y w3
    go_wp2_with fail
    go_ret
    exact ⟨rfl, HB3.out⟩
  · have d2 : decide ((0 : Int) < 0) = false := by simp
    have na : Int.natAbs (0 : Int) = 0 := by rfl
    rw [d2, na] at RD RF
    obtain ⟨x, hx⟩ : ∃ x, floatOfInt .f64 (0 : Int) = x := ⟨_, rfl⟩
    obtain ⟨y, hy⟩ : ∃ y, floatOfInt .f32 (0 : Int) = y := ⟨_, rfl⟩
    rw [hx] at RD
    rw [hy] at RF FL
    have wy : IntKind.u64.wrap (y : Int) = (y : Int) := IntWalk.u64_in _ (by have := FL.out; omega)
    have wy2 : IntKind.u32.wrap (y : Int) = (y : Int) := IntWalk.u32_in _ (by have := FL.out; omega)
    clear FL hb
    unfold xv at *
    go_enter Tryz.func5, Tryz.ntmps5
    go_wp2_with fail
    with_reducible (refine WK.out.mono ?_)
    rintro e w1 ⟨rfl, b1⟩
    have HB1 := Lib.hid b1
    have H1 := Lib.hid (H.out.below b1)
    clear b1
    go_wp2_with fail
    have HA := Lib.hid (bgrow HB1.out (.cells #[.bool false, .slice none 0 0, .int .i64 0, .int .i64 0] 41))
    have H2 := Lib.hid (H1.out.below (bgrow (Below.refl w1.heap.size w1) (.cells #[.bool false, .slice none 0 0, .int .i64 0, .int .i64 0] 41)))
    have BX : Hid ((w1.alloc (.cells #[.bool false, .slice none 0 0, .int .i64 0, .int .i64 0] 41)).heap[w1.heap.size]? = some (.cells #[.bool false, .slice none 0 0, .int .i64 0, .int .i64 0] 41 (0, 0))) := Lib.hid (Deep.blk_alloc_new _ _)
    have HX := Lib.hid (isN_none (w1.alloc (.cells #[.bool false, .slice none 0 0, .int .i64 0, .int .i64 0] 41)))
    generalize (w1.alloc (.cells #[.bool false, .slice none 0 0, .int .i64 0, .int .i64 0] 41)) = WB at HA H2 BX HX ⊢
    with_reducible (refine (RD.out _ _ H2.out.tw.dw HX.out).mono ?_)
    rintro e w2 ⟨rfl, b2⟩
    have HB2 := Lib.hid (bthen HA.out b2)
    have H3 := Lib.hid (H2.out.below b2)
    have BX2 := Lib.hid ((b2.block _ (blk_lt BX.out)).trans BX.out)
    have HX2 := Lib.hid (HX.out.below b2)
    clear b2 BX HX H2 HA
    obtain ⟨g0, g1, g2, g3, -⟩ := four_free BX2.out
    go_wp2_with fail
    with_reducible (refine (RF.out _ _ H3.out.fw HX2.out).mono ?_)
    rintro e w3 ⟨rfl, b3⟩
    have HB3 := Lib.hid (bthen HB2.out b3)
    clear b3 g0 g1 g2 g3
    have FB := f64bits x w3
    have GB := f32bits y w3
    go_wp2_with fail
    go_ret
    exact ⟨rfl, HB3.out⟩
  · have d2 : decide ((-(N : Int)) < 0) = true := decide_eq_true (by omega)
    have na : Int.natAbs (-(N : Int)) = N := by simp
    rw [d2, na] at RD RF
    have d1 : decide (0 < (-(N : Int))) = false := decide_eq_false (by omega)
    have wu : IntKind.u64.wrap (N : Int) = (N : Int) := IntWalk.u64_in _ (by omega)
    have wi : wrap64 (N : Int) = (N : Int) := IntWalk.wrap64_in _ ⟨by omega, by omega⟩
    obtain ⟨x, hx⟩ : ∃ x, floatOfInt .f64 (-(N : Int)) = x := ⟨_, rfl⟩
    obtain ⟨y, hy⟩ : ∃ y, floatOfInt .f32 (-(N : Int)) = y := ⟨_, rfl⟩
    rw [hx] at RD
    rw [hy] at RF FL
    have wy : IntKind.u64.wrap (y : Int) = (y : Int) := IntWalk.u64_in _ (by have := FL.out; omega)
    have wy2 : IntKind.u32.wrap (y : Int) = (y : Int) := IntWalk.u32_in _ (by have := FL.out; omega)
    clear FL hb
    unfold xv at *
    go_enter Tryz.func5, Tryz.ntmps5
    go_wp2_with fail
    with_reducible (refine WK.out.mono ?_)
    rintro e w1 ⟨rfl, b1⟩
    have HB1 := Lib.hid b1
    have H1 := Lib.hid (H.out.below b1)
    clear b1
    go_wp2_with fail
    have HA := Lib.hid (bgrow (bgrow HB1.out (.cells #[.bool true, .slice (some { block := w1.heap.size + 1, off := 0 }) 1 1, .int .i64 0, .int .i64 0] 41)) (.cells #[.int .u64 (N : Int)] 22))
    have H2 := Lib.hid (H1.out.below (bgrow (bgrow (Below.refl w1.heap.size w1) (.cells #[.bool true, .slice (some { block := w1.heap.size + 1, off := 0 }) 1 1, .int .i64 0, .int .i64 0] 41)) (.cells #[.int .u64 (N : Int)] 22)))
    have BX : Hid (((w1.alloc (.cells #[.bool true, .slice (some { block := w1.heap.size + 1, off := 0 }) 1 1, .int .i64 0, .int .i64 0] 41)).alloc (.cells #[.int .u64 (N : Int)] 22)).heap[w1.heap.size]? = some (.cells #[.bool true, .slice (some { block := w1.heap.size + 1, off := 0 }) 1 1, .int .i64 0, .int .i64 0] 41 (0, 0))) := Lib.hid (al2 w1 _ _).1
    have HX := Lib.hid (isn_word (al2 w1 (.cells #[.bool true, .slice (some { block := w1.heap.size + 1, off := 0 }) 1 1, .int .i64 0, .int .i64 0] 41) (.cells #[.int .u64 (N : Int)] 22)).2 h0 (by omega))
    generalize ((w1.alloc (.cells #[.bool true, .slice (some { block := w1.heap.size + 1, off := 0 }) 1 1, .int .i64 0, .int .i64 0] 41)).alloc (.cells #[.int .u64 (N : Int)] 22)) = WB at HA H2 BX HX ⊢
    with_reducible (refine (RD.out _ _ H2.out.tw.dw HX.out).mono ?_)
    rintro e w2 ⟨rfl, b2⟩
    have HB2 := Lib.hid (bthen HA.out b2)
    have H3 := Lib.hid (H2.out.below b2)
    have BX2 := Lib.hid ((b2.block _ (blk_lt BX.out)).trans BX.out)
    have HX2 := Lib.hid (HX.out.below b2)
    clear b2 BX HX H2 HA
    obtain ⟨g0, g1, g2, g3, -⟩ := four_free BX2.out
    go_wp2_with fail
    with_reducible (refine (RF.out _ _ H3.out.fw HX2.out).mono ?_)
    rintro e w3 ⟨rfl, b3⟩
    have HB3 := Lib.hid (bthen HB2.out b3)
    clear b3 g0 g1 g2 g3
    have FB := f64bits x w3
    have GB := f32bits y w3
    go_wp2_with fail
    go_ret
    exact ⟨rfl, HB3.out⟩
end Go.Proofs.YtlmeobokpibifaaGreatDoor
end

section
set_option linter.unusedSimpArgs false
set_option linter.unusedVariables false
namespace Go.Proofs.YtlmeobokpibifaaGreatDoor
open Go.RowKit

set_option maxRecDepth 100000
noncomputable def start (os : Os) : World := (World.doorLaid Tryz.prog 136 os).layVars Tryz.prog [("unicode/utf8.first", Rows.laid_unicode_utf8_first)]
theorem start_os (os : Os) : (start os).os = os := World.layVars_os _ _ _
theorem start_shaped (os : Os) (args : Array Value) : ((start os).forCall (fun _ _ => 0) ⟨#[], args, []⟩).Shaped Tryz.prog := World.shaped_of_ZipB (by kernel_rfl) (by kernel_rfl)
theorem start_met (os : Os) (args : Array Value) : laidMetH Tryz.prog Rows.topNamesRow.laid ((start os).forCall (fun _ _ => 0) ⟨#[], args, []⟩).memory :=
  laidMetH_of_parts3 (fuel := 8) (laidMet_of_run' 8 (by kernel_rfl) (by kernel_rfl)) (by kernel_rfl) (by kernel_rfl)
end Go.Proofs.YtlmeobokpibifaaGreatDoor
end

/- package caliperlaw02's shown: what must be in any case. Conditions: as each theorem names them. -/
import Derived.Test.YteiajccjlbghoaaXsh1
import Derived.Test.YteiajccjlbghoaaXred
import Derived.Deep.RegionHeld3
set_option linter.unusedVariables false
namespace Go.Proofs.Yteiajccjlbghoaa
open Go.RowKit

set_option maxRecDepth 100000 in
set_option maxHeartbeats 16000000 in
theorem shown_true (w : World) :
    Calls Try.prog 11 #[] w fun e w' => e = .returned (.bool true) ∧ Below w.heap.size w w' := by
  go_enter Try.func11, Try.ntmps11
  go_wp2_with fail
  refine at_world ?_
  intro W1 hW1
  have G0 := Lib.hid (show Below w.heap.size w W1 from by rw [hW1]; repeat (first | exact Below.refl _ _ | refine bgrow ?_ _))
  have L1 := Lib.hid (show W1.cell? { block := w.heap.size, off := 0 } = some (.int .u64 ((5 : Nat) : Int)) from by rw [hW1]; simp [go_sem])
  have X0 := Lib.hid (show Bx W1 (w.heap.size + 1) false (.slice (some { block := w.heap.size, off := 0 }) 1 1) (-2) 0 from by rw [hW1]; unfold Bx; refine ⟨?_, ?_, ?_, ?_⟩ <;> simp [go_sem])
  have O0 := Lib.hid (show XOk W1 (.slice (some { block := w.heap.size, off := 0 }) 1 1) 5 (-2) 0 from ⟨lit_N L1.out (by decide) (by decide), by decide, by decide, by decide, by decide, by decide⟩)
  clear hW1 L1
  have C1 := Lib.hid (floor_X false (.slice (some { block := w.heap.size, off := 0 }) 1 1) (-2) 0 0 5 W1 O0.out (by decide))
  rw [sh_floor.1, sh_floor.2] at C1
  unfold xv at C1
  with_reducible (refine C1.out.mono ?_)
  rintro e w1 ⟨⟨qA, qn, qc, rfl, j1⟩, b1⟩
  have G1 := Lib.hid (bthen G0.out b1)
  have X1 := Lib.hid (X0.out.below b1)
  have O1 := Lib.hid (O0.out.below b1)
  clear G0 X0 O0
  have Q1 := Lib.hid j1
  clear b1 j1 C1
  go_wp2_with fail
  refine at_world ?_
  intro W2 hW2
  have gW2 : Below w1.heap.size w1 W2 := by rw [hW2]; repeat (first | exact Below.refl _ _ | refine bgrow ?_ _)
  have G2 := Lib.hid (bthen G1.out gW2)
  have X2 := Lib.hid (X1.out.below gW2)
  have O2 := Lib.hid (O1.out.below gW2)
  have Q2 := Lib.hid (Q1.out.below gW2)
  clear G1 X1 O1 Q1
  clear hW2 gW2
  have C2 := Lib.hid (show Calls Try.prog 21 #[.agg #[.int .i64 2, .bool true, .int .u64 5, .int .i64 (-2)]] W2 _ from of_X 2 true 5 (-2) W2 (by decide))
  with_reducible (refine C2.out.mono ?_)
  rintro e w2 ⟨⟨r, rfl, hr⟩, b2⟩
  obtain ⟨yv, hy, rfl⟩ : ∃ v, IsN w2 v 5 ∧ r = .tuple #[xv true v (-2) 0, .bool true] := by
    rcases hr with ⟨h, _⟩ | ⟨_, _, v, h1, h2⟩ | ⟨_, h, _⟩
    · exact absurd h (by decide)
    · exact ⟨v, h1, h2⟩
    · exact absurd ⟨rfl, by decide⟩ h
  obtain ⟨yA, yn, yc, rfl, -⟩ := nlen hy
  have G3 := Lib.hid (bthen G2.out b2)
  have X3 := Lib.hid (X2.out.below b2)
  have O3 := Lib.hid (O2.out.below b2)
  have Q3 := Lib.hid (Q2.out.below b2)
  clear G2 X2 O2 Q2
  have P2 := Lib.hid (show XOk w2 (.slice yA yn yc) 5 (-2) 0 from ⟨hy, by decide, by decide, by decide, by decide, by decide⟩)
  clear hr hy b2 C2
  unfold xv
  go_wp2_with fail
  refine at_world ?_
  intro W3 hW3
  have gW3 : Below w2.heap.size w2 W3 := by rw [hW3]; repeat (first | exact Below.refl _ _ | refine bgrow ?_ _)
  have G4 := Lib.hid (bthen G3.out gW3)
  have X4 := Lib.hid (X3.out.below gW3)
  have O4 := Lib.hid (O3.out.below gW3)
  have Q4 := Lib.hid (Q3.out.below gW3)
  have P4 := Lib.hid (P2.out.below gW3)
  clear G3 X3 O3 Q3 P2
  have Y4 := Lib.hid (show Bx W3 w2.heap.size true (.slice yA yn yc) (-2) 0 from by rw [hW3]; unfold Bx; refine ⟨?_, ?_, ?_, ?_⟩ <;> simp [go_sem])
  clear hW3 gW3
  have C3 := Lib.hid (show Calls Try.prog 21 #[.agg #[.int .i64 1, .bool true, .int .u64 0, .int .i64 0]] W3 _ from of_X 1 true 0 0 W3 (by decide))
  with_reducible (refine C3.out.mono ?_)
  rintro e w3 ⟨⟨r, rfl, hr⟩, b3⟩
  obtain rfl : r = .tuple #[xv true (.slice none 0 0) 0 0, .bool true] := by
    rcases hr with ⟨_, h⟩ | ⟨h, _⟩ | ⟨h, _⟩
    · exact h
    · exact absurd h (by decide)
    · exact absurd rfl h
  have G5 := Lib.hid (bthen G4.out b3)
  have X5 := Lib.hid (X4.out.below b3)
  have O5 := Lib.hid (O4.out.below b3)
  have Q5 := Lib.hid (Q4.out.below b3)
  have P5 := Lib.hid (P4.out.below b3)
  have Y5 := Lib.hid (Y4.out.below b3)
  clear G4 X4 O4 Q4 P4 Y4
  clear hr b3 C3
  unfold xv
  go_wp2_with fail
  refine at_world ?_
  intro W4 hW4
  have gW4 : Below w3.heap.size w3 W4 := by rw [hW4]; repeat (first | exact Below.refl _ _ | refine bgrow ?_ _)
  have G6 := Lib.hid (bthen G5.out gW4)
  have X6 := Lib.hid (X5.out.below gW4)
  have O6 := Lib.hid (O5.out.below gW4)
  have Q6 := Lib.hid (Q5.out.below gW4)
  have P6 := Lib.hid (P5.out.below gW4)
  have Y6 := Lib.hid (Y5.out.below gW4)
  clear G5 X5 O5 Q5 P5 Y5
  have Z6 := Lib.hid (show Bx W4 w3.heap.size true (.slice none 0 0) 0 0 from by rw [hW4]; unfold Bx; refine ⟨?_, ?_, ?_, ?_⟩ <;> simp [go_sem])
  clear hW4 gW4
  have C4 := Lib.hid (show Calls Try.prog 21 #[.agg #[.int .i64 4, .bool false, .int .u64 0, .int .i64 0]] W4 _ from of_X 4 false 0 0 W4 (by decide))
  with_reducible (refine C4.out.mono ?_)
  rintro e w4 ⟨⟨r, rfl, hr⟩, b4⟩
  obtain rfl : r = .tuple #[xv false (.slice none 0 0) 0 0, .bool false] := by
    rcases hr with ⟨h, _⟩ | ⟨h, _⟩ | ⟨_, _, h⟩
    · exact absurd h (by decide)
    · exact absurd h (by decide)
    · exact h
  have G7 := Lib.hid (bthen G6.out b4)
  have X7 := Lib.hid (X6.out.below b4)
  have O7 := Lib.hid (O6.out.below b4)
  have Q7 := Lib.hid (Q6.out.below b4)
  have P7 := Lib.hid (P6.out.below b4)
  have Y7 := Lib.hid (Y6.out.below b4)
  have Z7 := Lib.hid (Z6.out.below b4)
  clear G6 X6 O6 Q6 P6 Y6 Z6
  clear hr b4 C4
  unfold xv
  go_wp2_with fail
  refine at_world ?_
  intro W5 hW5
  have gW5 : Below w4.heap.size w4 W5 := by rw [hW5]; repeat (first | exact Below.refl _ _ | refine bgrow ?_ _)
  have G8 := Lib.hid (bthen G7.out gW5)
  have X8 := Lib.hid (X7.out.below gW5)
  have O8 := Lib.hid (O7.out.below gW5)
  have Q8 := Lib.hid (Q7.out.below gW5)
  have P8 := Lib.hid (P7.out.below gW5)
  have Y8 := Lib.hid (Y7.out.below gW5)
  have Z8 := Lib.hid (Z7.out.below gW5)
  clear G7 X7 O7 Q7 P7 Y7 Z7
  have L5 := Lib.hid (show W5.cell? { block := (w4.heap.size + 1), off := 0 } = some (.int .u64 ((125 : Nat) : Int)) from by rw [hW5]; simp [go_sem])
  clear hW5 gW5
  have C5 := Lib.hid (dec_any false _ 1 1 _ (-2) W5 (lit_rd L5.out (by decide)))
  with_reducible (refine C5.out.mono ?_)
  rintro e w5 ⟨⟨r, rfl, hr⟩, b5⟩
  have s5 : S (fun _ => 125) 1 = 125 := by rw [S_succ, S_zero]; simp
  rw [s5] at hr
  obtain ⟨dA, dn, dc, hd, rfl⟩ : ∃ A n c, IsN w5 (.slice A n c) 125 ∧ r = .tuple #[xv false (.slice A n c) (-2) (-2), .bool true] := by
    rcases hr with ⟨_, A, n, c, h1, h2⟩ | ⟨h, _⟩
    · exact ⟨A, n, c, h1.isn, h2⟩
    · rw [fit_small (by decide)] at h; exact absurd h (by decide)
  have G9 := Lib.hid (bthen G8.out b5)
  have X9 := Lib.hid (X8.out.below b5)
  have O9 := Lib.hid (O8.out.below b5)
  have Q9 := Lib.hid (Q8.out.below b5)
  have P9 := Lib.hid (P8.out.below b5)
  have Y9 := Lib.hid (Y8.out.below b5)
  have Z9 := Lib.hid (Z8.out.below b5)
  clear G8 X8 O8 Q8 P8 Y8 Z8
  have D5 := Lib.hid (show XOk w5 (.slice dA dn dc) 125 (-2) (-2) from ⟨hd, by decide, by decide, by decide, by decide, by decide⟩)
  clear hr hd b5 C5 s5 L5
  unfold xv
  go_wp2_with fail
  refine at_world ?_
  intro W6 hW6
  have gW6 : Below w5.heap.size w5 W6 := by rw [hW6]; repeat (first | exact Below.refl _ _ | refine bgrow ?_ _)
  have G10 := Lib.hid (bthen G9.out gW6)
  have X10 := Lib.hid (X9.out.below gW6)
  have O10 := Lib.hid (O9.out.below gW6)
  have Q10 := Lib.hid (Q9.out.below gW6)
  have P10 := Lib.hid (P9.out.below gW6)
  have Y10 := Lib.hid (Y9.out.below gW6)
  have Z10 := Lib.hid (Z9.out.below gW6)
  have D10 := Lib.hid (D5.out.below gW6)
  clear G9 X9 O9 Q9 P9 Y9 Z9 D5
  have E10 := Lib.hid (show Bx W6 w5.heap.size false (.slice dA dn dc) (-2) (-2) from by rw [hW6]; unfold Bx; refine ⟨?_, ?_, ?_, ?_⟩ <;> simp [go_sem])
  have L6 := Lib.hid (show W6.cell? { block := (w5.heap.size + 1), off := 0 } = some (.int .u64 ((1 : Nat) : Int)) from by rw [hW6]; simp [go_sem])
  clear hW6 gW6
  have C6 := Lib.hid (dec_any false _ 1 1 _ 5001 W6 (lit_rd L6.out (by decide)))
  with_reducible (refine C6.out.mono ?_)
  rintro e w6 ⟨⟨r, rfl, hr⟩, b6⟩
  obtain rfl : r = .tuple #[xv false (.slice none 0 0) 0 0, .bool false] := by
    rcases hr with ⟨h, _⟩ | ⟨_, h⟩
    · rw [show inB 5001 = false by decide, Bool.and_false] at h; exact absurd h (by decide)
    · exact h
  have G11 := Lib.hid (bthen G10.out b6)
  have X11 := Lib.hid (X10.out.below b6)
  have O11 := Lib.hid (O10.out.below b6)
  have Q11 := Lib.hid (Q10.out.below b6)
  have P11 := Lib.hid (P10.out.below b6)
  have Y11 := Lib.hid (Y10.out.below b6)
  have Z11 := Lib.hid (Z10.out.below b6)
  have D11 := Lib.hid (D10.out.below b6)
  have E11 := Lib.hid (E10.out.below b6)
  clear G10 X10 O10 Q10 P10 Y10 Z10 D10 E10
  clear hr b6 C6 L6
  unfold xv
  have e6 := E11.out
  unfold Bx at e6
  obtain ⟨e61, e62, e63, e64⟩ := e6
  have lt6 : w5.heap.size < w6.heap.size := World.block_lt_of_cell? w6 _ e61
  have ne6 : w5.heap.size ≠ w6.heap.size := Nat.ne_of_lt lt6
  go_wp2_with fail
  refine at_world ?_
  intro W7 hW7
  have gW7 : Below w6.heap.size w6 W7 := by rw [hW7]; repeat (first | exact Below.refl _ _ | refine bgrow ?_ _)
  have G12 := Lib.hid (bthen G11.out gW7)
  have X12 := Lib.hid (X11.out.below gW7)
  have O12 := Lib.hid (O11.out.below gW7)
  have Q12 := Lib.hid (Q11.out.below gW7)
  have P12 := Lib.hid (P11.out.below gW7)
  have Y12 := Lib.hid (Y11.out.below gW7)
  have Z12 := Lib.hid (Z11.out.below gW7)
  have D12 := Lib.hid (D11.out.below gW7)
  have E12 := Lib.hid (E11.out.below gW7)
  clear G11 X11 O11 Q11 P11 Y11 Z11 D11 E11
  clear hW7 gW7 e61 e62 e63 e64 lt6 ne6
  have C7 := Lib.hid (red_pos false (.slice dA dn dc) (-2) (-2) 125 W7 D12.out (by decide))
  unfold xv at C7
  with_reducible (refine C7.out.mono ?_)
  rintro e w7 ⟨⟨rA, rn, rc, tt, gg, N, rfl, hr, hb⟩, b7⟩
  obtain ⟨rfl, rfl, rfl⟩ := hb.uniq sh_bare (by decide) (by decide) (by decide) (by decide) rfl
  have G13 := Lib.hid (bthen G12.out b7)
  have X13 := Lib.hid (X12.out.below b7)
  have O13 := Lib.hid (O12.out.below b7)
  have Q13 := Lib.hid (Q12.out.below b7)
  have P13 := Lib.hid (P12.out.below b7)
  have Y13 := Lib.hid (Y12.out.below b7)
  have Z13 := Lib.hid (Z12.out.below b7)
  have D13 := Lib.hid (D12.out.below b7)
  have E13 := Lib.hid (E12.out.below b7)
  clear G12 X12 O12 Q12 P12 Y12 Z12 D12 E12
  have R7 := Lib.hid hr
  clear hr hb b7 C7
  have q1 := X13.out
  unfold Bx at q1
  have q1l : (w.heap.size + 1) < w7.heap.size := World.block_lt_of_cell? w7 _ q1.1
  have q1n : (w.heap.size + 1) ≠ w7.heap.size := Nat.ne_of_lt q1l
  obtain ⟨q1a, q1b, q1c, q1d⟩ := q1
  have q2 := Y13.out
  unfold Bx at q2
  have q2l : w2.heap.size < w7.heap.size := World.block_lt_of_cell? w7 _ q2.1
  have q2n : w2.heap.size ≠ w7.heap.size := Nat.ne_of_lt q2l
  obtain ⟨q2a, q2b, q2c, q2d⟩ := q2
  have q3 := Z13.out
  unfold Bx at q3
  have q3l : w3.heap.size < w7.heap.size := World.block_lt_of_cell? w7 _ q3.1
  have q3n : w3.heap.size ≠ w7.heap.size := Nat.ne_of_lt q3l
  obtain ⟨q3a, q3b, q3c, q3d⟩ := q3
  have q4 := E13.out
  unfold Bx at q4
  have q4l : w5.heap.size < w7.heap.size := World.block_lt_of_cell? w7 _ q4.1
  have q4n : w5.heap.size ≠ w7.heap.size := Nat.ne_of_lt q4l
  obtain ⟨q4a, q4b, q4c, q4d⟩ := q4
  go_wp2_with fail
  refine at_world ?_
  intro W8 hW8
  have gW8 : Below w7.heap.size w7 W8 := by rw [hW8]; repeat (first | exact Below.refl _ _ | refine bgrow ?_ _)
  have G14 := Lib.hid (bthen G13.out gW8)
  have X14 := Lib.hid (X13.out.below gW8)
  have O14 := Lib.hid (O13.out.below gW8)
  have Q14 := Lib.hid (Q13.out.below gW8)
  have P14 := Lib.hid (P13.out.below gW8)
  have Y14 := Lib.hid (Y13.out.below gW8)
  have Z14 := Lib.hid (Z13.out.below gW8)
  have D14 := Lib.hid (D13.out.below gW8)
  have E14 := Lib.hid (E13.out.below gW8)
  have R14 := Lib.hid (R7.out.below gW8)
  clear G13 X13 O13 Q13 P13 Y13 Z13 D13 E13 R7
  have T14 := Lib.hid (show Bx W8 w7.heap.size false (.slice rA rn rc) (-2) 1 from by rw [hW8]; unfold Bx; refine ⟨?_, ?_, ?_, ?_⟩ <;> simp [go_sem])
  have L8 := Lib.hid (show W8.cell? { block := (w7.heap.size + 1), off := 0 } = some (.int .u64 ((1 : Nat) : Int)) from by rw [hW8]; simp [go_sem])
  clear hW8 gW8 q1l q1n q1a q1b q1c q1d q2l q2n q2a q2b q2c q2d q3l q3n q3a q3b q3c q3d q4l q4n q4a q4b q4c q4d
  have C8 := Lib.hid (cmpB (.slice qA qn qc) (.slice (some { block := w7.heap.size + 1, off := 0 }) 1 1) 1 1 0 W8 Q14.out (lit_N L8.out (by decide) (by decide)) (by decide))
  skip
  with_reducible (refine C8.out.mono ?_)
  rintro e w8 ⟨rfl, b8⟩
  have G15 := Lib.hid (bthen G14.out b8)
  have X15 := Lib.hid (X14.out.below b8)
  have O15 := Lib.hid (O14.out.below b8)
  have Q15 := Lib.hid (Q14.out.below b8)
  have P15 := Lib.hid (P14.out.below b8)
  have Y15 := Lib.hid (Y14.out.below b8)
  have Z15 := Lib.hid (Z14.out.below b8)
  have D15 := Lib.hid (D14.out.below b8)
  have E15 := Lib.hid (E14.out.below b8)
  have R15 := Lib.hid (R14.out.below b8)
  have T15 := Lib.hid (T14.out.below b8)
  clear G14 X14 O14 Q14 P14 Y14 Z14 D14 E14 R14 T14
  clear b8 C8
  have q5 := X15.out
  unfold Bx at q5
  have q5l : (w.heap.size + 1) < w8.heap.size := World.block_lt_of_cell? w8 _ q5.1
  have q5n : (w.heap.size + 1) ≠ w8.heap.size := Nat.ne_of_lt q5l
  obtain ⟨q5a, q5b, q5c, q5d⟩ := q5
  have q6 := Y15.out
  unfold Bx at q6
  have q6l : w2.heap.size < w8.heap.size := World.block_lt_of_cell? w8 _ q6.1
  have q6n : w2.heap.size ≠ w8.heap.size := Nat.ne_of_lt q6l
  obtain ⟨q6a, q6b, q6c, q6d⟩ := q6
  have q7 := Z15.out
  unfold Bx at q7
  have q7l : w3.heap.size < w8.heap.size := World.block_lt_of_cell? w8 _ q7.1
  have q7n : w3.heap.size ≠ w8.heap.size := Nat.ne_of_lt q7l
  obtain ⟨q7a, q7b, q7c, q7d⟩ := q7
  have q8 := E15.out
  unfold Bx at q8
  have q8l : w5.heap.size < w8.heap.size := World.block_lt_of_cell? w8 _ q8.1
  have q8n : w5.heap.size ≠ w8.heap.size := Nat.ne_of_lt q8l
  obtain ⟨q8a, q8b, q8c, q8d⟩ := q8
  have q9 := T15.out
  unfold Bx at q9
  have q9l : w7.heap.size < w8.heap.size := World.block_lt_of_cell? w8 _ q9.1
  have q9n : w7.heap.size ≠ w8.heap.size := Nat.ne_of_lt q9l
  obtain ⟨q9a, q9b, q9c, q9d⟩ := q9
  go_wp2_with fail
  refine at_world ?_
  intro W9 hW9
  have gW9 : Below w8.heap.size w8 W9 := by rw [hW9]; repeat (first | exact Below.refl _ _ | refine bgrow ?_ _)
  have G16 := Lib.hid (bthen G15.out gW9)
  have X16 := Lib.hid (X15.out.below gW9)
  have O16 := Lib.hid (O15.out.below gW9)
  have Q16 := Lib.hid (Q15.out.below gW9)
  have P16 := Lib.hid (P15.out.below gW9)
  have Y16 := Lib.hid (Y15.out.below gW9)
  have Z16 := Lib.hid (Z15.out.below gW9)
  have D16 := Lib.hid (D15.out.below gW9)
  have E16 := Lib.hid (E15.out.below gW9)
  have R16 := Lib.hid (R15.out.below gW9)
  have T16 := Lib.hid (T15.out.below gW9)
  clear G15 X15 O15 Q15 P15 Y15 Z15 D15 E15 R15 T15
  clear hW9 gW9 q5l q5n q5a q5b q5c q5d q6l q6n q6a q6b q6c q6d q7l q7n q7a q7b q7c q7d q8l q8n q8a q8b q8c q8d q9l q9n q9a q9b q9c q9d
  have C9 := Lib.hid (cmp_X false true (.slice (some { block := w.heap.size, off := 0 }) 1 1) (.slice yA yn yc) (-2) 0 (-2) 0 5 5 0 W9 O16.out P16.out (xcmp_self _ _ _))
  unfold xv at C9
  with_reducible (refine C9.out.mono ?_)
  rintro e w9 ⟨rfl, b9⟩
  have G17 := Lib.hid (bthen G16.out b9)
  have X17 := Lib.hid (X16.out.below b9)
  have O17 := Lib.hid (O16.out.below b9)
  have Q17 := Lib.hid (Q16.out.below b9)
  have P17 := Lib.hid (P16.out.below b9)
  have Y17 := Lib.hid (Y16.out.below b9)
  have Z17 := Lib.hid (Z16.out.below b9)
  have D17 := Lib.hid (D16.out.below b9)
  have E17 := Lib.hid (E16.out.below b9)
  have R17 := Lib.hid (R16.out.below b9)
  have T17 := Lib.hid (T16.out.below b9)
  clear G16 X16 O16 Q16 P16 Y16 Z16 D16 E16 R16 T16
  clear b9 C9
  have q10 := X17.out
  unfold Bx at q10
  have q10l : (w.heap.size + 1) < w9.heap.size := World.block_lt_of_cell? w9 _ q10.1
  have q10n : (w.heap.size + 1) ≠ w9.heap.size := Nat.ne_of_lt q10l
  obtain ⟨q10a, q10b, q10c, q10d⟩ := q10
  have q11 := Y17.out
  unfold Bx at q11
  have q11l : w2.heap.size < w9.heap.size := World.block_lt_of_cell? w9 _ q11.1
  have q11n : w2.heap.size ≠ w9.heap.size := Nat.ne_of_lt q11l
  obtain ⟨q11a, q11b, q11c, q11d⟩ := q11
  have q12 := Z17.out
  unfold Bx at q12
  have q12l : w3.heap.size < w9.heap.size := World.block_lt_of_cell? w9 _ q12.1
  have q12n : w3.heap.size ≠ w9.heap.size := Nat.ne_of_lt q12l
  obtain ⟨q12a, q12b, q12c, q12d⟩ := q12
  have q13 := E17.out
  unfold Bx at q13
  have q13l : w5.heap.size < w9.heap.size := World.block_lt_of_cell? w9 _ q13.1
  have q13n : w5.heap.size ≠ w9.heap.size := Nat.ne_of_lt q13l
  obtain ⟨q13a, q13b, q13c, q13d⟩ := q13
  have q14 := T17.out
  unfold Bx at q14
  have q14l : w7.heap.size < w9.heap.size := World.block_lt_of_cell? w9 _ q14.1
  have q14n : w7.heap.size ≠ w9.heap.size := Nat.ne_of_lt q14l
  obtain ⟨q14a, q14b, q14c, q14d⟩ := q14
  go_wp2_with fail
  refine at_world ?_
  intro W10 hW10
  have gW10 : Below w9.heap.size w9 W10 := by rw [hW10]; repeat (first | exact Below.refl _ _ | refine bgrow ?_ _)
  have G18 := Lib.hid (bthen G17.out gW10)
  have X18 := Lib.hid (X17.out.below gW10)
  have O18 := Lib.hid (O17.out.below gW10)
  have Q18 := Lib.hid (Q17.out.below gW10)
  have P18 := Lib.hid (P17.out.below gW10)
  have Y18 := Lib.hid (Y17.out.below gW10)
  have Z18 := Lib.hid (Z17.out.below gW10)
  have D18 := Lib.hid (D17.out.below gW10)
  have E18 := Lib.hid (E17.out.below gW10)
  have R18 := Lib.hid (R17.out.below gW10)
  have T18 := Lib.hid (T17.out.below gW10)
  clear G17 X17 O17 Q17 P17 Y17 Z17 D17 E17 R17 T17
  clear hW10 gW10 q10l q10n q10a q10b q10c q10d q11l q11n q11a q11b q11c q11d q12l q12n q12a q12b q12c q12d q13l q13n q13a q13b q13c q13d q14l q14n q14a q14b q14c q14d
  have C10 := Lib.hid (sgn_X false true (.slice (some { block := w.heap.size, off := 0 }) 1 1) (.slice yA yn yc) (-2) 0 (-2) 0 5 5 1 W10 O18.out P18.out sh_sgn)
  unfold xv at C10
  with_reducible (refine C10.out.mono ?_)
  rintro e w10 ⟨rfl, b10⟩
  have G19 := Lib.hid (bthen G18.out b10)
  have X19 := Lib.hid (X18.out.below b10)
  have O19 := Lib.hid (O18.out.below b10)
  have Q19 := Lib.hid (Q18.out.below b10)
  have P19 := Lib.hid (P18.out.below b10)
  have Y19 := Lib.hid (Y18.out.below b10)
  have Z19 := Lib.hid (Z18.out.below b10)
  have D19 := Lib.hid (D18.out.below b10)
  have E19 := Lib.hid (E18.out.below b10)
  have R19 := Lib.hid (R18.out.below b10)
  have T19 := Lib.hid (T18.out.below b10)
  clear G18 X18 O18 Q18 P18 Y18 Z18 D18 E18 R18 T18
  clear b10 C10
  have q15 := X19.out
  unfold Bx at q15
  have q15l : (w.heap.size + 1) < w10.heap.size := World.block_lt_of_cell? w10 _ q15.1
  have q15n : (w.heap.size + 1) ≠ w10.heap.size := Nat.ne_of_lt q15l
  obtain ⟨q15a, q15b, q15c, q15d⟩ := q15
  have q16 := Y19.out
  unfold Bx at q16
  have q16l : w2.heap.size < w10.heap.size := World.block_lt_of_cell? w10 _ q16.1
  have q16n : w2.heap.size ≠ w10.heap.size := Nat.ne_of_lt q16l
  obtain ⟨q16a, q16b, q16c, q16d⟩ := q16
  have q17 := Z19.out
  unfold Bx at q17
  have q17l : w3.heap.size < w10.heap.size := World.block_lt_of_cell? w10 _ q17.1
  have q17n : w3.heap.size ≠ w10.heap.size := Nat.ne_of_lt q17l
  obtain ⟨q17a, q17b, q17c, q17d⟩ := q17
  have q18 := E19.out
  unfold Bx at q18
  have q18l : w5.heap.size < w10.heap.size := World.block_lt_of_cell? w10 _ q18.1
  have q18n : w5.heap.size ≠ w10.heap.size := Nat.ne_of_lt q18l
  obtain ⟨q18a, q18b, q18c, q18d⟩ := q18
  have q19 := T19.out
  unfold Bx at q19
  have q19l : w7.heap.size < w10.heap.size := World.block_lt_of_cell? w10 _ q19.1
  have q19n : w7.heap.size ≠ w10.heap.size := Nat.ne_of_lt q19l
  obtain ⟨q19a, q19b, q19c, q19d⟩ := q19
  go_wp2_with fail
  refine at_world ?_
  intro W11 hW11
  have gW11 : Below w10.heap.size w10 W11 := by rw [hW11]; repeat (first | exact Below.refl _ _ | refine bgrow ?_ _)
  have G20 := Lib.hid (bthen G19.out gW11)
  have X20 := Lib.hid (X19.out.below gW11)
  have O20 := Lib.hid (O19.out.below gW11)
  have Q20 := Lib.hid (Q19.out.below gW11)
  have P20 := Lib.hid (P19.out.below gW11)
  have Y20 := Lib.hid (Y19.out.below gW11)
  have Z20 := Lib.hid (Z19.out.below gW11)
  have D20 := Lib.hid (D19.out.below gW11)
  have E20 := Lib.hid (E19.out.below gW11)
  have R20 := Lib.hid (R19.out.below gW11)
  have T20 := Lib.hid (T19.out.below gW11)
  clear G19 X19 O19 Q19 P19 Y19 Z19 D19 E19 R19 T19
  clear hW11 gW11 q15l q15n q15a q15b q15c q15d q16l q16n q16a q16b q16c q16d q17l q17n q17a q17b q17c q17d q18l q18n q18a q18b q18c q18d q19l q19n q19a q19b q19c q19d
  have C11 := Lib.hid (sgn_X true false (.slice none 0 0) (.slice none 0 0) 0 0 0 0 0 0 0 W11 (xok_none _) (xok_none _) (sh_nil _ _ _))
  unfold xv at C11
  with_reducible (refine C11.out.mono ?_)
  rintro e w11 ⟨rfl, b11⟩
  have G21 := Lib.hid (bthen G20.out b11)
  have X21 := Lib.hid (X20.out.below b11)
  have O21 := Lib.hid (O20.out.below b11)
  have Q21 := Lib.hid (Q20.out.below b11)
  have P21 := Lib.hid (P20.out.below b11)
  have Y21 := Lib.hid (Y20.out.below b11)
  have Z21 := Lib.hid (Z20.out.below b11)
  have D21 := Lib.hid (D20.out.below b11)
  have E21 := Lib.hid (E20.out.below b11)
  have R21 := Lib.hid (R20.out.below b11)
  have T21 := Lib.hid (T20.out.below b11)
  clear G20 X20 O20 Q20 P20 Y20 Z20 D20 E20 R20 T20
  clear b11 C11
  have q20 := X21.out
  unfold Bx at q20
  have q20l : (w.heap.size + 1) < w11.heap.size := World.block_lt_of_cell? w11 _ q20.1
  have q20n : (w.heap.size + 1) ≠ w11.heap.size := Nat.ne_of_lt q20l
  obtain ⟨q20a, q20b, q20c, q20d⟩ := q20
  have q21 := Y21.out
  unfold Bx at q21
  have q21l : w2.heap.size < w11.heap.size := World.block_lt_of_cell? w11 _ q21.1
  have q21n : w2.heap.size ≠ w11.heap.size := Nat.ne_of_lt q21l
  obtain ⟨q21a, q21b, q21c, q21d⟩ := q21
  have q22 := Z21.out
  unfold Bx at q22
  have q22l : w3.heap.size < w11.heap.size := World.block_lt_of_cell? w11 _ q22.1
  have q22n : w3.heap.size ≠ w11.heap.size := Nat.ne_of_lt q22l
  obtain ⟨q22a, q22b, q22c, q22d⟩ := q22
  have q23 := E21.out
  unfold Bx at q23
  have q23l : w5.heap.size < w11.heap.size := World.block_lt_of_cell? w11 _ q23.1
  have q23n : w5.heap.size ≠ w11.heap.size := Nat.ne_of_lt q23l
  obtain ⟨q23a, q23b, q23c, q23d⟩ := q23
  have q24 := T21.out
  unfold Bx at q24
  have q24l : w7.heap.size < w11.heap.size := World.block_lt_of_cell? w11 _ q24.1
  have q24n : w7.heap.size ≠ w11.heap.size := Nat.ne_of_lt q24l
  obtain ⟨q24a, q24b, q24c, q24d⟩ := q24
  go_wp2_with fail
  refine at_world ?_
  intro W12 hW12
  have gW12 : Below w11.heap.size w11 W12 := by rw [hW12]; repeat (first | exact Below.refl _ _ | refine bgrow ?_ _)
  have G22 := Lib.hid (bthen G21.out gW12)
  have X22 := Lib.hid (X21.out.below gW12)
  have O22 := Lib.hid (O21.out.below gW12)
  have Q22 := Lib.hid (Q21.out.below gW12)
  have P22 := Lib.hid (P21.out.below gW12)
  have Y22 := Lib.hid (Y21.out.below gW12)
  have Z22 := Lib.hid (Z21.out.below gW12)
  have D22 := Lib.hid (D21.out.below gW12)
  have E22 := Lib.hid (E21.out.below gW12)
  have R22 := Lib.hid (R21.out.below gW12)
  have T22 := Lib.hid (T21.out.below gW12)
  clear G21 X21 O21 Q21 P21 Y21 Z21 D21 E21 R21 T21
  clear hW12 gW12 q20l q20n q20a q20b q20c q20d q21l q21n q21a q21b q21c q21d q22l q22n q22a q22b q22c q22d q23l q23n q23a q23b q23c q23d q24l q24n q24a q24b q24c q24d
  have C12 := Lib.hid (cmp_X false false (.slice dA dn dc) (.slice (some { block := w.heap.size, off := 0 }) 1 1) (-2) (-2) (-2) 0 125 5 0 W12 D22.out O22.out sh_cmp)
  unfold xv at C12
  with_reducible (refine C12.out.mono ?_)
  rintro e w12 ⟨rfl, b12⟩
  have G23 := Lib.hid (bthen G22.out b12)
  have X23 := Lib.hid (X22.out.below b12)
  have O23 := Lib.hid (O22.out.below b12)
  have Q23 := Lib.hid (Q22.out.below b12)
  have P23 := Lib.hid (P22.out.below b12)
  have Y23 := Lib.hid (Y22.out.below b12)
  have Z23 := Lib.hid (Z22.out.below b12)
  have D23 := Lib.hid (D22.out.below b12)
  have E23 := Lib.hid (E22.out.below b12)
  have R23 := Lib.hid (R22.out.below b12)
  have T23 := Lib.hid (T22.out.below b12)
  clear G22 X22 O22 Q22 P22 Y22 Z22 D22 E22 R22 T22
  clear b12 C12
  have q25 := X23.out
  unfold Bx at q25
  have q25l : (w.heap.size + 1) < w12.heap.size := World.block_lt_of_cell? w12 _ q25.1
  have q25n : (w.heap.size + 1) ≠ w12.heap.size := Nat.ne_of_lt q25l
  obtain ⟨q25a, q25b, q25c, q25d⟩ := q25
  have q26 := Y23.out
  unfold Bx at q26
  have q26l : w2.heap.size < w12.heap.size := World.block_lt_of_cell? w12 _ q26.1
  have q26n : w2.heap.size ≠ w12.heap.size := Nat.ne_of_lt q26l
  obtain ⟨q26a, q26b, q26c, q26d⟩ := q26
  have q27 := Z23.out
  unfold Bx at q27
  have q27l : w3.heap.size < w12.heap.size := World.block_lt_of_cell? w12 _ q27.1
  have q27n : w3.heap.size ≠ w12.heap.size := Nat.ne_of_lt q27l
  obtain ⟨q27a, q27b, q27c, q27d⟩ := q27
  have q28 := E23.out
  unfold Bx at q28
  have q28l : w5.heap.size < w12.heap.size := World.block_lt_of_cell? w12 _ q28.1
  have q28n : w5.heap.size ≠ w12.heap.size := Nat.ne_of_lt q28l
  obtain ⟨q28a, q28b, q28c, q28d⟩ := q28
  have q29 := T23.out
  unfold Bx at q29
  have q29l : w7.heap.size < w12.heap.size := World.block_lt_of_cell? w12 _ q29.1
  have q29n : w7.heap.size ≠ w12.heap.size := Nat.ne_of_lt q29l
  obtain ⟨q29a, q29b, q29c, q29d⟩ := q29
  go_wp2_with fail
  refine at_world ?_
  intro W13 hW13
  have gW13 : Below w12.heap.size w12 W13 := by rw [hW13]; repeat (first | exact Below.refl _ _ | refine bgrow ?_ _)
  have G24 := Lib.hid (bthen G23.out gW13)
  have X24 := Lib.hid (X23.out.below gW13)
  have O24 := Lib.hid (O23.out.below gW13)
  have Q24 := Lib.hid (Q23.out.below gW13)
  have P24 := Lib.hid (P23.out.below gW13)
  have Y24 := Lib.hid (Y23.out.below gW13)
  have Z24 := Lib.hid (Z23.out.below gW13)
  have D24 := Lib.hid (D23.out.below gW13)
  have E24 := Lib.hid (E23.out.below gW13)
  have R24 := Lib.hid (R23.out.below gW13)
  have T24 := Lib.hid (T23.out.below gW13)
  clear G23 X23 O23 Q23 P23 Y23 Z23 D23 E23 R23 T23
  have L13 := Lib.hid (show W13.cell? { block := w12.heap.size, off := 0 } = some (.int .u64 ((1 : Nat) : Int)) from by rw [hW13]; simp [go_sem])
  clear hW13 gW13 q25l q25n q25a q25b q25c q25d q26l q26n q26a q26b q26c q26d q27l q27n q27a q27b q27c q27d q28l q28n q28a q28b q28c q28d q29l q29n q29a q29b q29c q29d
  have C13 := Lib.hid (cmpB (.slice rA rn rc) (.slice (some { block := w12.heap.size, off := 0 }) 1 1) 1 1 0 W13 R24.out (lit_N L13.out (by decide) (by decide)) (by decide))
  skip
  with_reducible (refine C13.out.mono ?_)
  rintro e w13 ⟨rfl, b13⟩
  have G25 := Lib.hid (bthen G24.out b13)
  have X25 := Lib.hid (X24.out.below b13)
  have O25 := Lib.hid (O24.out.below b13)
  have Q25 := Lib.hid (Q24.out.below b13)
  have P25 := Lib.hid (P24.out.below b13)
  have Y25 := Lib.hid (Y24.out.below b13)
  have Z25 := Lib.hid (Z24.out.below b13)
  have D25 := Lib.hid (D24.out.below b13)
  have E25 := Lib.hid (E24.out.below b13)
  have R25 := Lib.hid (R24.out.below b13)
  have T25 := Lib.hid (T24.out.below b13)
  clear G24 X24 O24 Q24 P24 Y24 Z24 D24 E24 R24 T24
  clear b13 C13
  have q30 := X25.out
  unfold Bx at q30
  have q30l : (w.heap.size + 1) < w13.heap.size := World.block_lt_of_cell? w13 _ q30.1
  have q30n : (w.heap.size + 1) ≠ w13.heap.size := Nat.ne_of_lt q30l
  obtain ⟨q30a, q30b, q30c, q30d⟩ := q30
  have q31 := Y25.out
  unfold Bx at q31
  have q31l : w2.heap.size < w13.heap.size := World.block_lt_of_cell? w13 _ q31.1
  have q31n : w2.heap.size ≠ w13.heap.size := Nat.ne_of_lt q31l
  obtain ⟨q31a, q31b, q31c, q31d⟩ := q31
  have q32 := Z25.out
  unfold Bx at q32
  have q32l : w3.heap.size < w13.heap.size := World.block_lt_of_cell? w13 _ q32.1
  have q32n : w3.heap.size ≠ w13.heap.size := Nat.ne_of_lt q32l
  obtain ⟨q32a, q32b, q32c, q32d⟩ := q32
  have q33 := E25.out
  unfold Bx at q33
  have q33l : w5.heap.size < w13.heap.size := World.block_lt_of_cell? w13 _ q33.1
  have q33n : w5.heap.size ≠ w13.heap.size := Nat.ne_of_lt q33l
  obtain ⟨q33a, q33b, q33c, q33d⟩ := q33
  have q34 := T25.out
  unfold Bx at q34
  have q34l : w7.heap.size < w13.heap.size := World.block_lt_of_cell? w13 _ q34.1
  have q34n : w7.heap.size ≠ w13.heap.size := Nat.ne_of_lt q34l
  obtain ⟨q34a, q34b, q34c, q34d⟩ := q34
  go_wp2_with fail
  refine at_world ?_
  intro W14 hW14
  have gW14 : Below w13.heap.size w13 W14 := by rw [hW14]; repeat (first | exact Below.refl _ _ | refine bgrow ?_ _)
  have G26 := Lib.hid (bthen G25.out gW14)
  have X26 := Lib.hid (X25.out.below gW14)
  have O26 := Lib.hid (O25.out.below gW14)
  have Q26 := Lib.hid (Q25.out.below gW14)
  have P26 := Lib.hid (P25.out.below gW14)
  have Y26 := Lib.hid (Y25.out.below gW14)
  have Z26 := Lib.hid (Z25.out.below gW14)
  have D26 := Lib.hid (D25.out.below gW14)
  have E26 := Lib.hid (E25.out.below gW14)
  have R26 := Lib.hid (R25.out.below gW14)
  have T26 := Lib.hid (T25.out.below gW14)
  clear G25 X25 O25 Q25 P25 Y25 Z25 D25 E25 R25 T25
  clear hW14 gW14 q30l q30n q30a q30b q30c q30d q31l q31n q31a q31b q31c q31d q32l q32n q32a q32b q32c q32d q33l q33n q33a q33b q33c q33d q34l q34n q34a q34b q34c q34d
  have C14 := Lib.hid (log_is false (.slice (some { block := w.heap.size, off := 0 }) 1 1) (-2) 0 5 0 W14 O26.out (by decide) (by decide) (by decide) (by decide) sh_log)
  unfold xv at C14
  with_reducible (refine C14.out.mono ?_)
  rintro e w14 ⟨rfl, b14⟩
  have G27 := Lib.hid (bthen G26.out b14)
  have X27 := Lib.hid (X26.out.below b14)
  have O27 := Lib.hid (O26.out.below b14)
  have Q27 := Lib.hid (Q26.out.below b14)
  have P27 := Lib.hid (P26.out.below b14)
  have Y27 := Lib.hid (Y26.out.below b14)
  have Z27 := Lib.hid (Z26.out.below b14)
  have D27 := Lib.hid (D26.out.below b14)
  have E27 := Lib.hid (E26.out.below b14)
  have R27 := Lib.hid (R26.out.below b14)
  have T27 := Lib.hid (T26.out.below b14)
  clear G26 X26 O26 Q26 P26 Y26 Z26 D26 E26 R26 T26
  clear b14 C14
  have q35 := X27.out
  unfold Bx at q35
  have q35l : (w.heap.size + 1) < w14.heap.size := World.block_lt_of_cell? w14 _ q35.1
  have q35n : (w.heap.size + 1) ≠ w14.heap.size := Nat.ne_of_lt q35l
  obtain ⟨q35a, q35b, q35c, q35d⟩ := q35
  have q36 := Y27.out
  unfold Bx at q36
  have q36l : w2.heap.size < w14.heap.size := World.block_lt_of_cell? w14 _ q36.1
  have q36n : w2.heap.size ≠ w14.heap.size := Nat.ne_of_lt q36l
  obtain ⟨q36a, q36b, q36c, q36d⟩ := q36
  have q37 := Z27.out
  unfold Bx at q37
  have q37l : w3.heap.size < w14.heap.size := World.block_lt_of_cell? w14 _ q37.1
  have q37n : w3.heap.size ≠ w14.heap.size := Nat.ne_of_lt q37l
  obtain ⟨q37a, q37b, q37c, q37d⟩ := q37
  have q38 := E27.out
  unfold Bx at q38
  have q38l : w5.heap.size < w14.heap.size := World.block_lt_of_cell? w14 _ q38.1
  have q38n : w5.heap.size ≠ w14.heap.size := Nat.ne_of_lt q38l
  obtain ⟨q38a, q38b, q38c, q38d⟩ := q38
  have q39 := T27.out
  unfold Bx at q39
  have q39l : w7.heap.size < w14.heap.size := World.block_lt_of_cell? w14 _ q39.1
  have q39n : w7.heap.size ≠ w14.heap.size := Nat.ne_of_lt q39l
  obtain ⟨q39a, q39b, q39c, q39d⟩ := q39
  go_wp2_with fail
  refine at_world ?_
  intro W15 hW15
  have gW15 : Below w14.heap.size w14 W15 := by rw [hW15]; repeat (first | exact Below.refl _ _ | refine bgrow ?_ _)
  have G28 := Lib.hid (bthen G27.out gW15)
  have X28 := Lib.hid (X27.out.below gW15)
  have O28 := Lib.hid (O27.out.below gW15)
  have Q28 := Lib.hid (Q27.out.below gW15)
  have P28 := Lib.hid (P27.out.below gW15)
  have Y28 := Lib.hid (Y27.out.below gW15)
  have Z28 := Lib.hid (Z27.out.below gW15)
  have D28 := Lib.hid (D27.out.below gW15)
  have E28 := Lib.hid (E27.out.below gW15)
  have R28 := Lib.hid (R27.out.below gW15)
  have T28 := Lib.hid (T27.out.below gW15)
  clear G27 X27 O27 Q27 P27 Y27 Z27 D27 E27 R27 T27
  clear hW15 gW15 q35l q35n q35a q35b q35c q35d q36l q36n q36a q36b q36c q36d q37l q37n q37a q37b q37c q37d q38l q38n q38a q38b q38c q38d q39l q39n q39a q39b q39c q39d
  have C15 := Lib.hid (ten_X (-3) W15 (by decide))
  unfold xv at C15
  with_reducible (refine C15.out.mono ?_)
  rintro e w15 ⟨⟨tA, tm, tc, rfl, j15⟩, b15⟩
  have G29 := Lib.hid (bthen G28.out b15)
  have X29 := Lib.hid (X28.out.below b15)
  have O29 := Lib.hid (O28.out.below b15)
  have Q29 := Lib.hid (Q28.out.below b15)
  have P29 := Lib.hid (P28.out.below b15)
  have Y29 := Lib.hid (Y28.out.below b15)
  have Z29 := Lib.hid (Z28.out.below b15)
  have D29 := Lib.hid (D28.out.below b15)
  have E29 := Lib.hid (E28.out.below b15)
  have R29 := Lib.hid (R28.out.below b15)
  have T29 := Lib.hid (T28.out.below b15)
  clear G28 X28 O28 Q28 P28 Y28 Z28 D28 E28 R28 T28
  clear b15 C15
  have V15 := Lib.hid j15
  clear j15
  have q40 := X29.out
  unfold Bx at q40
  have q40l : (w.heap.size + 1) < w15.heap.size := World.block_lt_of_cell? w15 _ q40.1
  have q40n : (w.heap.size + 1) ≠ w15.heap.size := Nat.ne_of_lt q40l
  obtain ⟨q40a, q40b, q40c, q40d⟩ := q40
  have q41 := Y29.out
  unfold Bx at q41
  have q41l : w2.heap.size < w15.heap.size := World.block_lt_of_cell? w15 _ q41.1
  have q41n : w2.heap.size ≠ w15.heap.size := Nat.ne_of_lt q41l
  obtain ⟨q41a, q41b, q41c, q41d⟩ := q41
  have q42 := Z29.out
  unfold Bx at q42
  have q42l : w3.heap.size < w15.heap.size := World.block_lt_of_cell? w15 _ q42.1
  have q42n : w3.heap.size ≠ w15.heap.size := Nat.ne_of_lt q42l
  obtain ⟨q42a, q42b, q42c, q42d⟩ := q42
  have q43 := E29.out
  unfold Bx at q43
  have q43l : w5.heap.size < w15.heap.size := World.block_lt_of_cell? w15 _ q43.1
  have q43n : w5.heap.size ≠ w15.heap.size := Nat.ne_of_lt q43l
  obtain ⟨q43a, q43b, q43c, q43d⟩ := q43
  have q44 := T29.out
  unfold Bx at q44
  have q44l : w7.heap.size < w15.heap.size := World.block_lt_of_cell? w15 _ q44.1
  have q44n : w7.heap.size ≠ w15.heap.size := Nat.ne_of_lt q44l
  obtain ⟨q44a, q44b, q44c, q44d⟩ := q44
  go_wp2_with fail
  refine at_world ?_
  intro W16 hW16
  have gW16 : Below w15.heap.size w15 W16 := by rw [hW16]; repeat (first | exact Below.refl _ _ | refine bgrow ?_ _)
  have G30 := Lib.hid (bthen G29.out gW16)
  have X30 := Lib.hid (X29.out.below gW16)
  have O30 := Lib.hid (O29.out.below gW16)
  have Q30 := Lib.hid (Q29.out.below gW16)
  have P30 := Lib.hid (P29.out.below gW16)
  have Y30 := Lib.hid (Y29.out.below gW16)
  have Z30 := Lib.hid (Z29.out.below gW16)
  have D30 := Lib.hid (D29.out.below gW16)
  have E30 := Lib.hid (E29.out.below gW16)
  have R30 := Lib.hid (R29.out.below gW16)
  have T30 := Lib.hid (T29.out.below gW16)
  have V30 := Lib.hid (V15.out.below gW16)
  clear G29 X29 O29 Q29 P29 Y29 Z29 D29 E29 R29 T29 V15
  clear hW16 gW16 q40l q40n q40a q40b q40c q40d q41l q41n q41a q41b q41c q41d q42l q42n q42a q42b q42c q42d q43l q43n q43a q43b q43c q43d q44l q44n q44a q44b q44c q44d
  have C16 := Lib.hid (log_is false (.slice tA tm tc) (-3) (-3) 1 (-3) W16 V30.out (by decide) (by decide) (by decide) (by decide) (lg_ten (by decide)))
  unfold xv at C16
  with_reducible (refine C16.out.mono ?_)
  rintro e w16 ⟨rfl, b16⟩
  have G31 := Lib.hid (bthen G30.out b16)
  have X31 := Lib.hid (X30.out.below b16)
  have O31 := Lib.hid (O30.out.below b16)
  have Q31 := Lib.hid (Q30.out.below b16)
  have P31 := Lib.hid (P30.out.below b16)
  have Y31 := Lib.hid (Y30.out.below b16)
  have Z31 := Lib.hid (Z30.out.below b16)
  have D31 := Lib.hid (D30.out.below b16)
  have E31 := Lib.hid (E30.out.below b16)
  have R31 := Lib.hid (R30.out.below b16)
  have T31 := Lib.hid (T30.out.below b16)
  have V31 := Lib.hid (V30.out.below b16)
  clear G30 X30 O30 Q30 P30 Y30 Z30 D30 E30 R30 T30 V30
  clear b16 C16
  have q45 := X31.out
  unfold Bx at q45
  have q45l : (w.heap.size + 1) < w16.heap.size := World.block_lt_of_cell? w16 _ q45.1
  have q45n : (w.heap.size + 1) ≠ w16.heap.size := Nat.ne_of_lt q45l
  obtain ⟨q45a, q45b, q45c, q45d⟩ := q45
  have q46 := Y31.out
  unfold Bx at q46
  have q46l : w2.heap.size < w16.heap.size := World.block_lt_of_cell? w16 _ q46.1
  have q46n : w2.heap.size ≠ w16.heap.size := Nat.ne_of_lt q46l
  obtain ⟨q46a, q46b, q46c, q46d⟩ := q46
  have q47 := Z31.out
  unfold Bx at q47
  have q47l : w3.heap.size < w16.heap.size := World.block_lt_of_cell? w16 _ q47.1
  have q47n : w3.heap.size ≠ w16.heap.size := Nat.ne_of_lt q47l
  obtain ⟨q47a, q47b, q47c, q47d⟩ := q47
  have q48 := E31.out
  unfold Bx at q48
  have q48l : w5.heap.size < w16.heap.size := World.block_lt_of_cell? w16 _ q48.1
  have q48n : w5.heap.size ≠ w16.heap.size := Nat.ne_of_lt q48l
  obtain ⟨q48a, q48b, q48c, q48d⟩ := q48
  have q49 := T31.out
  unfold Bx at q49
  have q49l : w7.heap.size < w16.heap.size := World.block_lt_of_cell? w16 _ q49.1
  have q49n : w7.heap.size ≠ w16.heap.size := Nat.ne_of_lt q49l
  obtain ⟨q49a, q49b, q49c, q49d⟩ := q49
  go_wp2_with fail
  refine at_world ?_
  intro W17 hW17
  have gW17 : Below w16.heap.size w16 W17 := by rw [hW17]; repeat (first | exact Below.refl _ _ | refine bgrow ?_ _)
  have G32 := Lib.hid (bthen G31.out gW17)
  have X32 := Lib.hid (X31.out.below gW17)
  have O32 := Lib.hid (O31.out.below gW17)
  have Q32 := Lib.hid (Q31.out.below gW17)
  have P32 := Lib.hid (P31.out.below gW17)
  have Y32 := Lib.hid (Y31.out.below gW17)
  have Z32 := Lib.hid (Z31.out.below gW17)
  have D32 := Lib.hid (D31.out.below gW17)
  have E32 := Lib.hid (E31.out.below gW17)
  have R32 := Lib.hid (R31.out.below gW17)
  have T32 := Lib.hid (T31.out.below gW17)
  have V32 := Lib.hid (V31.out.below gW17)
  clear G31 X31 O31 Q31 P31 Y31 Z31 D31 E31 R31 T31 V31
  clear hW17 gW17 q45l q45n q45a q45b q45c q45d q46l q46n q46a q46b q46c q46d q47l q47n q47a q47b q47c q47d q48l q48n q48a q48b q48c q48d q49l q49n q49a q49b q49c q49d
  have C17 := Lib.hid (right_N false (.slice (some { block := w.heap.size, off := 0 }) 1 1) 5 (-2) 0 true W17 O32.out.isn (by rw [fit_small (by decide)]; decide))
  unfold xv at C17
  with_reducible (refine C17.out.mono ?_)
  rintro e w17 ⟨rfl, b17⟩
  have G33 := Lib.hid (bthen G32.out b17)
  have X33 := Lib.hid (X32.out.below b17)
  have O33 := Lib.hid (O32.out.below b17)
  have Q33 := Lib.hid (Q32.out.below b17)
  have P33 := Lib.hid (P32.out.below b17)
  have Y33 := Lib.hid (Y32.out.below b17)
  have Z33 := Lib.hid (Z32.out.below b17)
  have D33 := Lib.hid (D32.out.below b17)
  have E33 := Lib.hid (E32.out.below b17)
  have R33 := Lib.hid (R32.out.below b17)
  have T33 := Lib.hid (T32.out.below b17)
  have V33 := Lib.hid (V32.out.below b17)
  clear G32 X32 O32 Q32 P32 Y32 Z32 D32 E32 R32 T32 V32
  clear b17 C17
  have q50 := X33.out
  unfold Bx at q50
  have q50l : (w.heap.size + 1) < w17.heap.size := World.block_lt_of_cell? w17 _ q50.1
  have q50n : (w.heap.size + 1) ≠ w17.heap.size := Nat.ne_of_lt q50l
  obtain ⟨q50a, q50b, q50c, q50d⟩ := q50
  have q51 := Y33.out
  unfold Bx at q51
  have q51l : w2.heap.size < w17.heap.size := World.block_lt_of_cell? w17 _ q51.1
  have q51n : w2.heap.size ≠ w17.heap.size := Nat.ne_of_lt q51l
  obtain ⟨q51a, q51b, q51c, q51d⟩ := q51
  have q52 := Z33.out
  unfold Bx at q52
  have q52l : w3.heap.size < w17.heap.size := World.block_lt_of_cell? w17 _ q52.1
  have q52n : w3.heap.size ≠ w17.heap.size := Nat.ne_of_lt q52l
  obtain ⟨q52a, q52b, q52c, q52d⟩ := q52
  have q53 := E33.out
  unfold Bx at q53
  have q53l : w5.heap.size < w17.heap.size := World.block_lt_of_cell? w17 _ q53.1
  have q53n : w5.heap.size ≠ w17.heap.size := Nat.ne_of_lt q53l
  obtain ⟨q53a, q53b, q53c, q53d⟩ := q53
  have q54 := T33.out
  unfold Bx at q54
  have q54l : w7.heap.size < w17.heap.size := World.block_lt_of_cell? w17 _ q54.1
  have q54n : w7.heap.size ≠ w17.heap.size := Nat.ne_of_lt q54l
  obtain ⟨q54a, q54b, q54c, q54d⟩ := q54
  go_wp2_with fail
  refine at_world ?_
  intro W18 hW18
  have gW18 : Below w17.heap.size w17 W18 := by rw [hW18]; repeat (first | exact Below.refl _ _ | refine bgrow ?_ _)
  have G34 := Lib.hid (bthen G33.out gW18)
  have X34 := Lib.hid (X33.out.below gW18)
  have O34 := Lib.hid (O33.out.below gW18)
  have Q34 := Lib.hid (Q33.out.below gW18)
  have P34 := Lib.hid (P33.out.below gW18)
  have Y34 := Lib.hid (Y33.out.below gW18)
  have Z34 := Lib.hid (Z33.out.below gW18)
  have D34 := Lib.hid (D33.out.below gW18)
  have E34 := Lib.hid (E33.out.below gW18)
  have R34 := Lib.hid (R33.out.below gW18)
  have T34 := Lib.hid (T33.out.below gW18)
  have V34 := Lib.hid (V33.out.below gW18)
  clear G33 X33 O33 Q33 P33 Y33 Z33 D33 E33 R33 T33 V33
  have L18 := Lib.hid (show W18.cell? { block := w17.heap.size, off := 0 } = some (.int .u64 ((0 : Nat) : Int)) from by rw [hW18]; simp [go_sem])
  clear hW18 gW18 q50l q50n q50a q50b q50c q50d q51l q51n q51a q51b q51c q51d q52l q52n q52a q52b q52c q52d q53l q53n q53a q53b q53c q53d q54l q54n q54a q54b q54c q54d
  have C18 := Lib.hid (right_any false (some { block := w17.heap.size, off := 0 }) 1 1 (fun _ => 0) 0 0 false W18 (lit_rd L18.out (by decide)).wide (by decide))
  unfold xv at C18
  with_reducible (refine C18.out.mono ?_)
  rintro e w18 ⟨rfl, b18⟩
  have G35 := Lib.hid (bthen G34.out b18)
  have X35 := Lib.hid (X34.out.below b18)
  have O35 := Lib.hid (O34.out.below b18)
  have Q35 := Lib.hid (Q34.out.below b18)
  have P35 := Lib.hid (P34.out.below b18)
  have Y35 := Lib.hid (Y34.out.below b18)
  have Z35 := Lib.hid (Z34.out.below b18)
  have D35 := Lib.hid (D34.out.below b18)
  have E35 := Lib.hid (E34.out.below b18)
  have R35 := Lib.hid (R34.out.below b18)
  have T35 := Lib.hid (T34.out.below b18)
  have V35 := Lib.hid (V34.out.below b18)
  clear G34 X34 O34 Q34 P34 Y34 Z34 D34 E34 R34 T34 V34
  clear b18 C18
  have q55 := X35.out
  unfold Bx at q55
  have q55l : (w.heap.size + 1) < w18.heap.size := World.block_lt_of_cell? w18 _ q55.1
  have q55n : (w.heap.size + 1) ≠ w18.heap.size := Nat.ne_of_lt q55l
  obtain ⟨q55a, q55b, q55c, q55d⟩ := q55
  have q56 := Y35.out
  unfold Bx at q56
  have q56l : w2.heap.size < w18.heap.size := World.block_lt_of_cell? w18 _ q56.1
  have q56n : w2.heap.size ≠ w18.heap.size := Nat.ne_of_lt q56l
  obtain ⟨q56a, q56b, q56c, q56d⟩ := q56
  have q57 := Z35.out
  unfold Bx at q57
  have q57l : w3.heap.size < w18.heap.size := World.block_lt_of_cell? w18 _ q57.1
  have q57n : w3.heap.size ≠ w18.heap.size := Nat.ne_of_lt q57l
  obtain ⟨q57a, q57b, q57c, q57d⟩ := q57
  have q58 := E35.out
  unfold Bx at q58
  have q58l : w5.heap.size < w18.heap.size := World.block_lt_of_cell? w18 _ q58.1
  have q58n : w5.heap.size ≠ w18.heap.size := Nat.ne_of_lt q58l
  obtain ⟨q58a, q58b, q58c, q58d⟩ := q58
  have q59 := T35.out
  unfold Bx at q59
  have q59l : w7.heap.size < w18.heap.size := World.block_lt_of_cell? w18 _ q59.1
  have q59n : w7.heap.size ≠ w18.heap.size := Nat.ne_of_lt q59l
  obtain ⟨q59a, q59b, q59c, q59d⟩ := q59
  go_wp2_with fail
  refine at_world ?_
  intro W19 hW19
  have gW19 : Below w18.heap.size w18 W19 := by rw [hW19]; repeat (first | exact Below.refl _ _ | refine bgrow ?_ _)
  have G36 := Lib.hid (bthen G35.out gW19)
  have X36 := Lib.hid (X35.out.below gW19)
  have O36 := Lib.hid (O35.out.below gW19)
  have Q36 := Lib.hid (Q35.out.below gW19)
  have P36 := Lib.hid (P35.out.below gW19)
  have Y36 := Lib.hid (Y35.out.below gW19)
  have Z36 := Lib.hid (Z35.out.below gW19)
  have D36 := Lib.hid (D35.out.below gW19)
  have E36 := Lib.hid (E35.out.below gW19)
  have R36 := Lib.hid (R35.out.below gW19)
  have T36 := Lib.hid (T35.out.below gW19)
  have V36 := Lib.hid (V35.out.below gW19)
  clear G35 X35 O35 Q35 P35 Y35 Z35 D35 E35 R35 T35 V35
  clear hW19 gW19 q55l q55n q55a q55b q55c q55d q56l q56n q56a q56b q56c q56d q57l q57n q57a q57b q57c q57d q58l q58n q58a q58b q58c q58d q59l q59n q59a q59b q59c q59d
  have C19 := Lib.hid (ten_X 5000 W19 (by decide))
  unfold xv at C19
  with_reducible (refine C19.out.mono ?_)
  rintro e w19 ⟨⟨uA, un, uc, rfl, j19⟩, b19⟩
  have G37 := Lib.hid (bthen G36.out b19)
  have X37 := Lib.hid (X36.out.below b19)
  have O37 := Lib.hid (O36.out.below b19)
  have Q37 := Lib.hid (Q36.out.below b19)
  have P37 := Lib.hid (P36.out.below b19)
  have Y37 := Lib.hid (Y36.out.below b19)
  have Z37 := Lib.hid (Z36.out.below b19)
  have D37 := Lib.hid (D36.out.below b19)
  have E37 := Lib.hid (E36.out.below b19)
  have R37 := Lib.hid (R36.out.below b19)
  have T37 := Lib.hid (T36.out.below b19)
  have V37 := Lib.hid (V36.out.below b19)
  clear G36 X36 O36 Q36 P36 Y36 Z36 D36 E36 R36 T36 V36
  clear b19 C19
  have U19 := Lib.hid j19
  clear j19
  have q60 := X37.out
  unfold Bx at q60
  have q60l : (w.heap.size + 1) < w19.heap.size := World.block_lt_of_cell? w19 _ q60.1
  have q60n : (w.heap.size + 1) ≠ w19.heap.size := Nat.ne_of_lt q60l
  obtain ⟨q60a, q60b, q60c, q60d⟩ := q60
  have q61 := Y37.out
  unfold Bx at q61
  have q61l : w2.heap.size < w19.heap.size := World.block_lt_of_cell? w19 _ q61.1
  have q61n : w2.heap.size ≠ w19.heap.size := Nat.ne_of_lt q61l
  obtain ⟨q61a, q61b, q61c, q61d⟩ := q61
  have q62 := Z37.out
  unfold Bx at q62
  have q62l : w3.heap.size < w19.heap.size := World.block_lt_of_cell? w19 _ q62.1
  have q62n : w3.heap.size ≠ w19.heap.size := Nat.ne_of_lt q62l
  obtain ⟨q62a, q62b, q62c, q62d⟩ := q62
  have q63 := E37.out
  unfold Bx at q63
  have q63l : w5.heap.size < w19.heap.size := World.block_lt_of_cell? w19 _ q63.1
  have q63n : w5.heap.size ≠ w19.heap.size := Nat.ne_of_lt q63l
  obtain ⟨q63a, q63b, q63c, q63d⟩ := q63
  have q64 := T37.out
  unfold Bx at q64
  have q64l : w7.heap.size < w19.heap.size := World.block_lt_of_cell? w19 _ q64.1
  have q64n : w7.heap.size ≠ w19.heap.size := Nat.ne_of_lt q64l
  obtain ⟨q64a, q64b, q64c, q64d⟩ := q64
  go_wp2_with fail
  refine at_world ?_
  intro W20 hW20
  have gW20 : Below w19.heap.size w19 W20 := by rw [hW20]; repeat (first | exact Below.refl _ _ | refine bgrow ?_ _)
  have G38 := Lib.hid (bthen G37.out gW20)
  have X38 := Lib.hid (X37.out.below gW20)
  have O38 := Lib.hid (O37.out.below gW20)
  have Q38 := Lib.hid (Q37.out.below gW20)
  have P38 := Lib.hid (P37.out.below gW20)
  have Y38 := Lib.hid (Y37.out.below gW20)
  have Z38 := Lib.hid (Z37.out.below gW20)
  have D38 := Lib.hid (D37.out.below gW20)
  have E38 := Lib.hid (E37.out.below gW20)
  have R38 := Lib.hid (R37.out.below gW20)
  have T38 := Lib.hid (T37.out.below gW20)
  have V38 := Lib.hid (V37.out.below gW20)
  have U38 := Lib.hid (U19.out.below gW20)
  clear G37 X37 O37 Q37 P37 Y37 Z37 D37 E37 R37 T37 V37 U19
  clear hW20 gW20 q60l q60n q60a q60b q60c q60d q61l q61n q61a q61b q61c q61d q62l q62n q62a q62b q62c q62d q63l q63n q63a q63b q63c q63d q64l q64n q64a q64b q64c q64d
  have C20 := Lib.hid (ten_X (-5000) W20 (by decide))
  unfold xv at C20
  with_reducible (refine C20.out.mono ?_)
  rintro e w20 ⟨⟨vA, vn, vc, rfl, j20⟩, b20⟩
  have G39 := Lib.hid (bthen G38.out b20)
  have X39 := Lib.hid (X38.out.below b20)
  have O39 := Lib.hid (O38.out.below b20)
  have Q39 := Lib.hid (Q38.out.below b20)
  have P39 := Lib.hid (P38.out.below b20)
  have Y39 := Lib.hid (Y38.out.below b20)
  have Z39 := Lib.hid (Z38.out.below b20)
  have D39 := Lib.hid (D38.out.below b20)
  have E39 := Lib.hid (E38.out.below b20)
  have R39 := Lib.hid (R38.out.below b20)
  have T39 := Lib.hid (T38.out.below b20)
  have V39 := Lib.hid (V38.out.below b20)
  have U39 := Lib.hid (U38.out.below b20)
  clear G38 X38 O38 Q38 P38 Y38 Z38 D38 E38 R38 T38 V38 U38
  clear b20 C20
  have J20 := Lib.hid j20
  clear j20
  have q65 := X39.out
  unfold Bx at q65
  have q65l : (w.heap.size + 1) < w20.heap.size := World.block_lt_of_cell? w20 _ q65.1
  have q65n : (w.heap.size + 1) ≠ w20.heap.size := Nat.ne_of_lt q65l
  obtain ⟨q65a, q65b, q65c, q65d⟩ := q65
  have q66 := Y39.out
  unfold Bx at q66
  have q66l : w2.heap.size < w20.heap.size := World.block_lt_of_cell? w20 _ q66.1
  have q66n : w2.heap.size ≠ w20.heap.size := Nat.ne_of_lt q66l
  obtain ⟨q66a, q66b, q66c, q66d⟩ := q66
  have q67 := Z39.out
  unfold Bx at q67
  have q67l : w3.heap.size < w20.heap.size := World.block_lt_of_cell? w20 _ q67.1
  have q67n : w3.heap.size ≠ w20.heap.size := Nat.ne_of_lt q67l
  obtain ⟨q67a, q67b, q67c, q67d⟩ := q67
  have q68 := E39.out
  unfold Bx at q68
  have q68l : w5.heap.size < w20.heap.size := World.block_lt_of_cell? w20 _ q68.1
  have q68n : w5.heap.size ≠ w20.heap.size := Nat.ne_of_lt q68l
  obtain ⟨q68a, q68b, q68c, q68d⟩ := q68
  have q69 := T39.out
  unfold Bx at q69
  have q69l : w7.heap.size < w20.heap.size := World.block_lt_of_cell? w20 _ q69.1
  have q69n : w7.heap.size ≠ w20.heap.size := Nat.ne_of_lt q69l
  obtain ⟨q69a, q69b, q69c, q69d⟩ := q69
  go_wp2_with fail
  refine at_world ?_
  intro W21 hW21
  have gW21 : Below w20.heap.size w20 W21 := by rw [hW21]; repeat (first | exact Below.refl _ _ | refine bgrow ?_ _)
  have G40 := Lib.hid (bthen G39.out gW21)
  have X40 := Lib.hid (X39.out.below gW21)
  have O40 := Lib.hid (O39.out.below gW21)
  have Q40 := Lib.hid (Q39.out.below gW21)
  have P40 := Lib.hid (P39.out.below gW21)
  have Y40 := Lib.hid (Y39.out.below gW21)
  have Z40 := Lib.hid (Z39.out.below gW21)
  have D40 := Lib.hid (D39.out.below gW21)
  have E40 := Lib.hid (E39.out.below gW21)
  have R40 := Lib.hid (R39.out.below gW21)
  have T40 := Lib.hid (T39.out.below gW21)
  have V40 := Lib.hid (V39.out.below gW21)
  have U40 := Lib.hid (U39.out.below gW21)
  have J40 := Lib.hid (J20.out.below gW21)
  clear G39 X39 O39 Q39 P39 Y39 Z39 D39 E39 R39 T39 V39 U39 J20
  clear hW21 gW21 q65l q65n q65a q65b q65c q65d q66l q66n q66a q66b q66c q66d q67l q67n q67a q67b q67c q67d q68l q68n q68a q68b q68c q68d q69l q69n q69a q69b q69c q69d
  have C21 := Lib.hid (cmp_X false false (.slice uA un uc) (.slice vA vn vc) 5000 5000 (-5000) (-5000) 1 1 1 W21 U40.out J40.out sh_far)
  unfold xv at C21
  with_reducible (refine C21.out.mono ?_)
  rintro e w21 ⟨rfl, b21⟩
  have G41 := Lib.hid (bthen G40.out b21)
  have X41 := Lib.hid (X40.out.below b21)
  have O41 := Lib.hid (O40.out.below b21)
  have Q41 := Lib.hid (Q40.out.below b21)
  have P41 := Lib.hid (P40.out.below b21)
  have Y41 := Lib.hid (Y40.out.below b21)
  have Z41 := Lib.hid (Z40.out.below b21)
  have D41 := Lib.hid (D40.out.below b21)
  have E41 := Lib.hid (E40.out.below b21)
  have R41 := Lib.hid (R40.out.below b21)
  have T41 := Lib.hid (T40.out.below b21)
  have V41 := Lib.hid (V40.out.below b21)
  have U41 := Lib.hid (U40.out.below b21)
  have J41 := Lib.hid (J40.out.below b21)
  clear G40 X40 O40 Q40 P40 Y40 Z40 D40 E40 R40 T40 V40 U40 J40
  clear b21 C21
  go_wp2_with fail
  go_ret
  exact ⟨rfl, G41.out⟩
end Go.Proofs.Yteiajccjlbghoaa

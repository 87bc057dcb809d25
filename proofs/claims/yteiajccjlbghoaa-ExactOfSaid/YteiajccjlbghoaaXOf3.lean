/- caliperlaw02.ExactOf walked: one of four ways. Conditions: as the theorem names them. -/
import Derived.Test.YteiajccjlbghoaaXOfa
import Derived.Deep.RegionHeld3
set_option linter.unusedVariables false
namespace Go.Proofs.Yteiajccjlbghoaa
open Go.RowKit

set_option maxRecDepth 100000 in
set_option maxHeartbeats 80000000 in
theorem walk_ExactOf3 (neg : Bool) (A : Option Addr) (n c : Nat) (F : Nat → Nat) (s f : Int) (cl : Int) (vn : Bool) (m : Nat) (ve : Int) (ad : Addr) (l d : Nat) (G : Nat → Nat) (k : Int) (w : World) (hA : RdW w A n c F) (hm : m < 18446744073709551616) (hB : RdW w (some ad) l d G) (wk : (Lit.int .i64 k).wf = true) (e1 : Int) (M : Nat) (hy : (cl = 1 ∧ e1 = 0 ∧ M = 0) ∨ (cl = 2 ∧ inB ve = true ∧ e1 = ve ∧ M = m)) :
    Calls Try.prog 4 #[xv neg (.slice A n c) s f, vv cl vn m ve, .slice (some ad) l d, .int .i64 k] w fun e w' => e = .returned (.bool true) ∧ Below w.heap.size w w' := by
  have HA := Lib.hid hA
  have HM := Lib.hid hm
  obtain ⟨t, ht⟩ : ∃ t, min l 130 = t := ⟨_, rfl⟩
  have htl : t ≤ l := by omega
  have ht130 : t ≤ 130 := by omega
  have hld := hB.len
  have hsm := hB.small
  have htd : t ≤ d := by omega
  have hti : min (l : Int) 130 = (t : Int) := by omega
  have htdi : (t : Int) ≤ (d : Int) := by omega
  have ht0 : (0 : Int) ≤ (t : Int) := by omega
  have HR := Lib.hid (hB.first htl (by omega))
  clear hA hB wk hm
  unfold xv vv
  · have he : (fitB M && (inB e1 && inB 0)) = true := by
      rcases hy with ⟨_, rfl, rfl⟩ | ⟨_, he, rfl, rfl⟩
      · rw [fit_small (by decide)]; decide
      · rw [fit_small HM.out, he]; decide
    have HE := Lib.hid he
    have HY := Lib.hid hy
    clear hy he
    obtain ⟨i0, hi, hz0, hz1, hz2⟩ := info_parts infoU
    have HI := Lib.hid (And.intro hi (And.intro hz0 (And.intro hz1 hz2)))
    clear hi hz0 hz1 hz2
    go_enter Try.func4, Try.ntmps4
    go_wp2_with fail
    refine at_world ?_
    intro W1 hW1
    have G_1 : Hid (Below w.heap.size w W1) := Lib.hid (by rw [hW1]; exact bgrow (bgrow (Below.refl _ _) _) _)
    have X_2 : Hid (XB W1 w.heap.size neg (.slice A n c) s f) := Lib.hid (by rw [hW1]; exact (XB.new w _ _ _ _).alloc _)
    have V_3 : Hid (VB W1 (w.heap.size + 1) cl vn m ve) := Lib.hid (by rw [hW1]; have hh := VB.new (w.alloc (.cells #[.bool neg, .slice A n c, .int .i64 s, .int .i64 f] 25)) cl vn m ve; simpa using hh)
    have R_4 : Hid (RdW W1 A n c F) := Lib.hid (HA.out.below G_1.out)
    have D_5 : Hid (Rd W1 (some ad) t d G) := Lib.hid (HR.out.below G_1.out)
    clear hW1
    clear HA HR
    have C1 := Lib.hid (shown_true W1)
    with_reducible (refine C1.out.mono ?_)
    rintro e w1 ⟨rfl, b1⟩
    have G_6 := Lib.hid (bthen G_1.out b1)
    have X_6 := Lib.hid (X_2.out.below b1)
    have V_6 := Lib.hid (V_3.out.below b1)
    have R_6 := Lib.hid (R_4.out.below b1)
    have D_6 := Lib.hid (D_5.out.below b1)
    clear G_1 X_2 V_3 R_4 D_5
    clear b1 C1
    have HS1 := Lib.hid G_6.out.size
    have R2 := D_6
    have ha := (R2.out.alloc (.cells #[] 35))
    have hown : (w1.alloc (.cells #[] 35)).ownsRow w1.heap.size 35 1 (.slice (some ⟨w1.heap.size, 0, none⟩) 0 0) 0 [] :=
      ⟨rfl, Or.inr ⟨w1.heap.size, 0, #[], rfl, Nat.le_refl _, Deep.blk_alloc_new _ _, Nat.le_refl _, by decide, rfl, rfl⟩⟩
    have hnews : ∀ j u, (cellsF t G)[j]? = some u → (w1.alloc (.cells #[] 35)).cell? (ad.add j) = some u := by
      intro j u hj
      have hlt : j < t := by
        have := (List.getElem?_eq_some_iff.1 hj).1
        rwa [cellsF_len] at this
      rw [cellsF_get t G j hlt] at hj
      obtain ⟨ad', e, _, hx⟩ := ha.at_ j hlt
      cases e
      rw [hx, ← hj]
    have HO := Lib.hid hown
    have HNW := Lib.hid hnews
    have HW := Lib.hid R2.out.word
    clear ha hown hnews R2
    go_wp2_with (at_builtin; refine wpList_append_own_at (w1.alloc (.cells #[] 35)) rfl (.tmp 19) (.tmp 24) 23 rfl w1.heap.size 35 i0 (.int .u64 0) 1 8 Try.underlying23 HI.out.1 HI.out.2.1 HI.out.2.2.1 HI.out.2.2.2 rfl (by decide) _ 0 [] rfl HO.out ad t d (cellsF t G) rfl (by rw [cellsF_len, Nat.mul_one]) HNW.out (cellsF_one t G) (by unfold maxLen; omega) (by omega) (by simp) ?_)
    intro v' w2 hown' hgrow _ _
    obtain ⟨A', c', rfl, hrd, hfr⟩ := rd_own hown' (by omega) HW.out
    have b2 : Below w1.heap.size w1 w2 := ((Below.refl _ _).alloc (Nat.le_refl _) _).grown hgrow (by simp) (by simp [Value.ownBlock])
    clear D_6
    have G_7 := Lib.hid (bthen G_6.out b2)
    have X_7 := Lib.hid (X_6.out.below b2)
    have V_7 := Lib.hid (V_6.out.below b2)
    have R_7 := Lib.hid (R_6.out.below b2)
    clear G_6 X_6 V_6 R_6
    have D_8 : Hid (Rd w2 A' t c' G) := Lib.hid (hrd)
    have W_9 : Hid (Own w1.heap.size w2 A' t G) := Lib.hid ((fun h0 => by obtain ⟨gg, cap, e1, e2, e3, _, _⟩ := own_row hown' h0; cases e1; exact ⟨gg, rfl, e2, e3⟩))
    have HFR := Lib.hid hfr
    clear b2 hown' hgrow hrd hfr HO HNW HI HW htl hld htd hti htdi hsm ht
    obtain ⟨v1a, v1b, v1c, v1d, v1l, v1n⟩ := V_7.out.cells
    obtain ⟨q1a, q1b, q1c, q1d, q1e, q1f, q1g, q1h, q1i, q1j⟩ := X_7.out.cells
    go_wp2_with fail
    refine at_world ?_
    intro W2 hW2
    clear q1a q1b q1c q1d q1e q1f q1g q1h q1i q1j
    clear v1a v1b v1c v1d v1l v1n
    have G_10 : Hid (Below w.heap.size w W2) := Lib.hid (by rw [hW2]; exact G_7.out)
    have X_10 : Hid (XB W2 w.heap.size neg (.slice A n c) s f) := Lib.hid (by rw [hW2]; exact X_7.out)
    have V_10 : Hid (VB W2 (w.heap.size + 1) cl vn m ve) := Lib.hid (by rw [hW2]; exact V_7.out)
    have R_10 : Hid (RdW W2 A n c F) := Lib.hid (by rw [hW2]; exact R_7.out)
    have D_10 : Hid (Rd W2 A' t c' G) := Lib.hid (by rw [hW2]; exact D_8.out)
    have W_10 : Hid (Own w1.heap.size W2 A' t G) := Lib.hid (by rw [hW2]; exact W_9.out)
    clear G_7 X_7 V_7 R_7 D_8 W_9
    clear hW2
    have D2 := Lib.hid (of_yes cl vn m ve e1 M W2 HM.out HY.out)
    have D3 := Lib.hid (fun w1 => rof_yes cl vn m ve e1 M w1 HM.out HY.out)
    unfold xv vv at D2 D3
    with_reducible (refine D2.out.mono ?_)
    rintro _ w3 ⟨⟨A3, n3, c3, rfl, j3⟩, b3⟩
    have G_11 := Lib.hid (bthen G_10.out b3)
    have X_11 := Lib.hid (X_10.out.below b3)
    have V_11 := Lib.hid (V_10.out.below b3)
    have R_11 := Lib.hid (R_10.out.below b3)
    have D_11 := Lib.hid (D_10.out.below b3)
    have W_11 := Lib.hid (W_10.out.below b3)
    clear G_10 X_10 V_10 R_10 D_10 W_10
    have M_12 : Hid (IsN w3 (.slice A3 n3 c3) M) := Lib.hid (j3)
    clear b3 j3 D2
    obtain ⟨v2a, v2b, v2c, v2d, v2l, v2n⟩ := V_11.out.cells
    obtain ⟨q2a, q2b, q2c, q2d, q2e, q2f, q2g, q2h, q2i, q2j⟩ := X_11.out.cells
    go_wp2_with fail
    refine at_world ?_
    intro W4 hW4
    clear q2a q2b q2c q2d q2e q2f q2g q2h q2i q2j
    clear v2a v2b v2c v2d v2l v2n
    have G_13 : Hid (Below w.heap.size w W4) := Lib.hid (by rw [hW4]; exact (bgrow G_11.out _))
    have X_13 : Hid (XB W4 w.heap.size neg (.slice A n c) s f) := Lib.hid (by rw [hW4]; exact (X_11.out.alloc _))
    have V_13 : Hid (VB W4 (w.heap.size + 1) cl vn m ve) := Lib.hid (by rw [hW4]; exact (V_11.out.alloc _))
    have R_13 : Hid (RdW W4 A n c F) := Lib.hid (by rw [hW4]; exact (R_11.out.alloc _))
    have D_13 : Hid (Rd W4 A' t c' G) := Lib.hid (by rw [hW4]; exact (D_11.out.alloc _))
    have W_13 : Hid (Own w1.heap.size W4 A' t G) := Lib.hid (by rw [hW4]; exact (W_11.out.alloc _))
    have M_13 : Hid (IsN W4 (.slice A3 n3 c3) M) := Lib.hid (by rw [hW4]; exact (M_12.out.alloc _))
    clear G_11 X_11 V_11 R_11 D_11 W_11 M_12
    have P_14 : Hid (XB W4 w3.heap.size vn (.slice A3 n3 c3) e1 0) := Lib.hid (by rw [hW4]; exact XB.new _ _ _ _ _)
    clear hW4
    with_reducible (refine (D3.out W4).mono ?_)
    rintro _ w4 ⟨⟨A4, n4, c4, rfl, j4⟩, b4⟩
    have G_15 := Lib.hid (bthen G_13.out b4)
    have X_15 := Lib.hid (X_13.out.below b4)
    have V_15 := Lib.hid (V_13.out.below b4)
    have R_15 := Lib.hid (R_13.out.below b4)
    have D_15 := Lib.hid (D_13.out.below b4)
    have W_15 := Lib.hid (W_13.out.below b4)
    have M_15 := Lib.hid (M_13.out.below b4)
    have P_15 := Lib.hid (P_14.out.below b4)
    clear G_13 X_13 V_13 R_13 D_13 W_13 M_13 P_14
    have N_16 : Hid (IsN w4 (.slice A4 n4 c4) M) := Lib.hid (j4)
    clear b4 j4 D3
    obtain ⟨rb, hrb⟩ : ∃ rb, rightB n F s f = rb := ⟨_, rfl⟩
    have KR := Lib.hid (fun w1 h => right_any neg A n c F s f rb w1 h hrb)
    have KQ := Lib.hid (fun w1 h => rright_any neg A n c F s f rb w1 h hrb)
    unfold xv at KR KQ
    clear hrb
    have KC := Lib.hid (fun w1 h1 h2 => cmpB (.slice A3 n3 c3) (.slice A4 n4 c4) M M 0 w1 h1 h2 ((cmpN_cases _ _).2.2.2 rfl))
    have KP := Lib.hid (fun w1 h1 => right_N vn (.slice A3 n3 c3) M e1 0 true w1 h1 HE.out)
    unfold xv at KP
    obtain ⟨v3a, v3b, v3c, v3d, v3l, v3n⟩ := V_15.out.cells
    obtain ⟨q3a, q3b, q3c, q3d, q3e, q3f, q3g, q3h, q3i, q3j⟩ := X_15.out.cells
    obtain ⟨q4a, q4b, q4c, q4d, q4e, q4f, q4g, q4h, q4i, q4j⟩ := P_15.out.cells
    go_wp2_with fail
    refine at_code ?_
    intro W5 hW5
    clear q3a q3b q3c q3d q3e q3f q3g q3h q3i q3j q4a q4b q4c q4d q4e q4f q4g q4h q4i q4j
    clear v3a v3b v3c v3d v3l v3n
    have G_17 : Hid (Below w.heap.size w W5) := Lib.hid (by rw [hW5]; exact (bgrow G_15.out _))
    have X_17 : Hid (XB W5 w.heap.size neg (.slice A n c) s f) := Lib.hid (by rw [hW5]; exact (X_15.out.alloc _))
    have V_17 : Hid (VB W5 (w.heap.size + 1) cl vn m ve) := Lib.hid (by rw [hW5]; exact (V_15.out.alloc _))
    have R_17 : Hid (RdW W5 A n c F) := Lib.hid (by rw [hW5]; exact (R_15.out.alloc _))
    have D_17 : Hid (Rd W5 A' t c' G) := Lib.hid (by rw [hW5]; exact (D_15.out.alloc _))
    have W_17 : Hid (Own w1.heap.size W5 A' t G) := Lib.hid (by rw [hW5]; exact (W_15.out.alloc _))
    have M_17 : Hid (IsN W5 (.slice A3 n3 c3) M) := Lib.hid (by rw [hW5]; exact (M_15.out.alloc _))
    have P_17 : Hid (XB W5 w3.heap.size vn (.slice A3 n3 c3) e1 0) := Lib.hid (by rw [hW5]; exact (P_15.out.alloc _))
    have N_17 : Hid (IsN W5 (.slice A4 n4 c4) M) := Lib.hid (by rw [hW5]; exact (N_16.out.alloc _))
    clear G_15 X_15 V_15 R_15 D_15 W_15 M_15 P_15 N_16
    have Q_18 : Hid (XB W5 w4.heap.size vn (.slice A4 n4 c4) e1 0) := Lib.hid (by rw [hW5]; exact XB.new _ _ _ _ _)
    clear hW5
    have K1_5 : Hid (∀ w', Hid (Below W5.heap.size W5 w') → Hid (Below W5.heap.size W5 w') ∧ (w'.cell? { block := w.heap.size, off := 0 } = some (.bool neg) ∧ w'.cell? { block := w.heap.size, off := 1 } = some (.slice A n c) ∧ w'.cell? { block := w.heap.size, off := 2 } = some (.int .i64 s) ∧ w'.cell? { block := w.heap.size, off := 3 } = some (.int .i64 f)) ∧ (w'.cell? { block := w3.heap.size, off := 0 } = some (.bool vn) ∧ w'.cell? { block := w3.heap.size, off := 1 } = some (.slice A3 n3 c3) ∧ w'.cell? { block := w3.heap.size, off := 2 } = some (.int .i64 e1) ∧ w'.cell? { block := w3.heap.size, off := 3 } = some (.int .i64 0)) ∧ (w'.cell? { block := w4.heap.size, off := 0 } = some (.bool vn) ∧ w'.cell? { block := w4.heap.size, off := 1 } = some (.slice A4 n4 c4) ∧ w'.cell? { block := w4.heap.size, off := 2 } = some (.int .i64 e1) ∧ w'.cell? { block := w4.heap.size, off := 3 } = some (.int .i64 0))) := Lib.hid (fun w' h => ⟨h, (X_17.out.below h.out).four, (P_17.out.below h.out).four, (Q_18.out.below h.out).four⟩)
    have KS_5 := Lib.hid (fun w1 w2 (h : Hid (Below W5.heap.size W5 w1)) (b : Below w1.heap.size w1 w2) => K1_5.out w2 (hbthen h b))
    have K0_5 := Lib.hid (K1_5.out _ (Lib.hid (bdrewN (Below.refl _ _) 1)))
    go_region_held3 (fun w' => Hid (Below W5.heap.size W5 w') ∧ (w'.cell? { block := w.heap.size, off := 0 } = some (.bool neg) ∧ w'.cell? { block := w.heap.size, off := 1 } = some (.slice A n c) ∧ w'.cell? { block := w.heap.size, off := 2 } = some (.int .i64 s) ∧ w'.cell? { block := w.heap.size, off := 3 } = some (.int .i64 f)) ∧ (w'.cell? { block := w3.heap.size, off := 0 } = some (.bool vn) ∧ w'.cell? { block := w3.heap.size, off := 1 } = some (.slice A3 n3 c3) ∧ w'.cell? { block := w3.heap.size, off := 2 } = some (.int .i64 e1) ∧ w'.cell? { block := w3.heap.size, off := 3 } = some (.int .i64 0)) ∧ (w'.cell? { block := w4.heap.size, off := 0 } = some (.bool vn) ∧ w'.cell? { block := w4.heap.size, off := 1 } = some (.slice A4 n4 c4) ∧ w'.cell? { block := w4.heap.size, off := 2 } = some (.int .i64 e1) ∧ w'.cell? { block := w4.heap.size, off := 3 } = some (.int .i64 0)))
      (first | assumption | exact K0_5.out | exact KS_5.out _ _ (And.left (by assumption)) (by assumption))
      (first | ((go_at_call 23); (with_reducible (refine Calls.mono (KR.out _ (R_17.out.below (Hid.out (And.left (by assumption))))) ?_)); (rintro e wz ⟨rfl, ba⟩))
             | ((go_at_call 24); (with_reducible (refine Calls.mono (KQ.out _ (R_17.out.below (Hid.out (And.left (by assumption))))) ?_)); (rintro e wz ⟨rfl, ba⟩))
             | ((go_at_call 25); (with_reducible (refine Calls.mono (KC.out _ (M_17.out.below (Hid.out (And.left (by assumption)))) (N_17.out.below (Hid.out (And.left (by assumption))))) ?_)); (rintro e wz ⟨rfl, ba⟩))
             | ((go_at_call 23); (with_reducible (refine Calls.mono (KP.out _ (M_17.out.below (Hid.out (And.left (by assumption))))) ?_)); (rintro e wz ⟨rfl, ba⟩)))
    rename_i hS5
    have b5 := hS5.1.out
    have G_19 := Lib.hid (bthen G_17.out b5)
    have X_19 := Lib.hid (X_17.out.below b5)
    have V_19 := Lib.hid (V_17.out.below b5)
    have R_19 := Lib.hid (R_17.out.below b5)
    have D_19 := Lib.hid (D_17.out.below b5)
    have W_19 := Lib.hid (W_17.out.below b5)
    have M_19 := Lib.hid (M_17.out.below b5)
    have P_19 := Lib.hid (P_17.out.below b5)
    have N_19 := Lib.hid (N_17.out.below b5)
    have Q_19 := Lib.hid (Q_18.out.below b5)
    clear G_17 X_17 V_17 R_17 D_17 W_17 M_17 P_17 N_17 Q_18
    clear b5 K1_5 KS_5 K0_5
    clear KR KQ KC KP
    obtain ⟨v4a, v4b, v4c, v4d, v4l, v4n⟩ := V_19.out.cells
    obtain ⟨q5a, q5b, q5c, q5d, q5e, q5f, q5g, q5h, q5i, q5j⟩ := X_19.out.cells
    obtain ⟨q6a, q6b, q6c, q6d, q6e, q6f, q6g, q6h, q6i, q6j⟩ := P_19.out.cells
    obtain ⟨q7a, q7b, q7c, q7d, q7e, q7f, q7g, q7h, q7i, q7j⟩ := Q_19.out.cells
    go_wp2_with fail
    refine at_world ?_
    intro W6 hW6
    clear q5a q5b q5c q5d q5e q5f q5g q5h q5i q5j q6a q6b q6c q6d q6e q6f q6g q6h q6i q6j q7a q7b q7c q7d q7e q7f q7g q7h q7i q7j
    clear v4a v4b v4c v4d v4l v4n
    have G_20 : Hid (Below w.heap.size w W6) := Lib.hid (by rw [hW6]; exact G_19.out)
    have X_20 : Hid (XB W6 w.heap.size neg (.slice A n c) s f) := Lib.hid (by rw [hW6]; exact X_19.out)
    have V_20 : Hid (VB W6 (w.heap.size + 1) cl vn m ve) := Lib.hid (by rw [hW6]; exact V_19.out)
    have R_20 : Hid (RdW W6 A n c F) := Lib.hid (by rw [hW6]; exact R_19.out)
    have D_20 : Hid (Rd W6 A' t c' G) := Lib.hid (by rw [hW6]; exact D_19.out)
    have W_20 : Hid (Own w1.heap.size W6 A' t G) := Lib.hid (by rw [hW6]; exact W_19.out)
    have M_20 : Hid (IsN W6 (.slice A3 n3 c3) M) := Lib.hid (by rw [hW6]; exact M_19.out)
    have P_20 : Hid (XB W6 w3.heap.size vn (.slice A3 n3 c3) e1 0) := Lib.hid (by rw [hW6]; exact P_19.out)
    have N_20 : Hid (IsN W6 (.slice A4 n4 c4) M) := Lib.hid (by rw [hW6]; exact N_19.out)
    have Q_20 : Hid (XB W6 w4.heap.size vn (.slice A4 n4 c4) e1 0) := Lib.hid (by rw [hW6]; exact Q_19.out)
    clear G_19 X_19 V_19 R_19 D_19 W_19 M_19 P_19 N_19 Q_19
    clear hW6
    clear R_20
    have HLT : Hid (∀ gg, A' = some ⟨gg, 0, none⟩ → 0 < t → gg < W6.heap.size) := Lib.hid (fun gg e h0 => by obtain ⟨g2, e2, _, h3⟩ := W_20.out h0; rw [e] at e2; cases e2; exact h3.lt)
    obtain ⟨N, hN⟩ : ∃ N, S G t = N := ⟨_, rfl⟩
    have DC := Lib.hid (dec_any neg A' t c' G k W6 D_20.out)
    have BC := Lib.hid (fun wq h => bits_any A' t c' G wq h (bitsN N) (by rw [hN]))
    rw [hN] at DC
    unfold DecIs xv at DC
    with_reducible (refine DC.out.mono ?_)
    rintro _ w6 ⟨⟨r, rfl, hr⟩, b6⟩
    rcases hr with ⟨ho, cA, cn, cc, hf, rfl⟩ | ⟨ho, rfl⟩
    · have HO := Lib.hid ho
      clear ho DC
      have G_21 := Lib.hid (bthen G_20.out b6)
      have X_21 := Lib.hid (X_20.out.below b6)
      have V_21 := Lib.hid (V_20.out.below b6)
      have D_21 := Lib.hid (D_20.out.below b6)
      have W_21 := Lib.hid (W_20.out.below b6)
      have M_21 := Lib.hid (M_20.out.below b6)
      have P_21 := Lib.hid (P_20.out.below b6)
      have N_21 := Lib.hid (N_20.out.below b6)
      have Q_21 := Lib.hid (Q_20.out.below b6)
      clear G_20 X_20 V_20 D_20 W_20 M_20 P_20 N_20 Q_20
      have F_22 : Hid (IsF W6.heap.size w6 (.slice cA cn cc) N) := Lib.hid (hf)
      have HS6 := Lib.hid b6.size
      clear hf b6
      have hk : -5000 ≤ k ∧ k ≤ 5000 := by
        have h := HO.out
        simp only [Bool.and_eq_true] at h
        exact inB_true h.2
      have hz : bitsN N ≤ 8192 := by
        have h := HO.out
        simp only [Bool.and_eq_true] at h
        exact fit_bits1 h.1
      obtain ⟨z, hzz⟩ : ∃ z, bitsN N = z := ⟨_, rfl⟩
      rw [hzz] at hz BC
      have y1 : decide (-5000 ≤ k) = true := decide_eq_true hk.1
      have y2 : decide (k ≤ 5000) = true := decide_eq_true hk.2
      have y3 : decide ((z : Int) ≤ 8192) = true := decide_eq_true (by omega)
      have y4 : decide (z ≤ 8192) = true := decide_eq_true hz
      clear hk hz hzz
      obtain ⟨v5a, v5b, v5c, v5d, v5l, v5n⟩ := V_21.out.cells
      obtain ⟨q8a, q8b, q8c, q8d, q8e, q8f, q8g, q8h, q8i, q8j⟩ := X_21.out.cells
      obtain ⟨q9a, q9b, q9c, q9d, q9e, q9f, q9g, q9h, q9i, q9j⟩ := P_21.out.cells
      obtain ⟨q10a, q10b, q10c, q10d, q10e, q10f, q10g, q10h, q10i, q10j⟩ := Q_21.out.cells
      go_wp2_with fail
      refine at_world ?_
      intro W7 hW7
      clear q8a q8b q8c q8d q8e q8f q8g q8h q8i q8j q9a q9b q9c q9d q9e q9f q9g q9h q9i q9j q10a q10b q10c q10d q10e q10f q10g q10h q10i q10j
      clear v5a v5b v5c v5d v5l v5n
      have G_23 : Hid (Below w.heap.size w W7) := Lib.hid (by rw [hW7]; exact (bgrow G_21.out _))
      have X_23 : Hid (XB W7 w.heap.size neg (.slice A n c) s f) := Lib.hid (by rw [hW7]; exact (X_21.out.alloc _))
      have V_23 : Hid (VB W7 (w.heap.size + 1) cl vn m ve) := Lib.hid (by rw [hW7]; exact (V_21.out.alloc _))
      have D_23 : Hid (Rd W7 A' t c' G) := Lib.hid (by rw [hW7]; exact (D_21.out.alloc _))
      have W_23 : Hid (Own w1.heap.size W7 A' t G) := Lib.hid (by rw [hW7]; exact (W_21.out.alloc _))
      have M_23 : Hid (IsN W7 (.slice A3 n3 c3) M) := Lib.hid (by rw [hW7]; exact (M_21.out.alloc _))
      have P_23 : Hid (XB W7 w3.heap.size vn (.slice A3 n3 c3) e1 0) := Lib.hid (by rw [hW7]; exact (P_21.out.alloc _))
      have N_23 : Hid (IsN W7 (.slice A4 n4 c4) M) := Lib.hid (by rw [hW7]; exact (N_21.out.alloc _))
      have Q_23 : Hid (XB W7 w4.heap.size vn (.slice A4 n4 c4) e1 0) := Lib.hid (by rw [hW7]; exact (Q_21.out.alloc _))
      have F_23 : Hid (IsF W6.heap.size W7 (.slice cA cn cc) N) := Lib.hid (by rw [hW7]; exact (F_22.out.alloc _))
      clear G_21 X_21 V_21 D_21 W_21 M_21 P_21 N_21 Q_21 F_22
      have C_24 : Hid (XB W7 w6.heap.size neg (.slice cA cn cc) k k) := Lib.hid (by rw [hW7]; exact XB.new _ _ _ _ _)
      clear hW7
      with_reducible (refine (BC.out _ D_23.out).mono ?_)
      rintro _ w7 ⟨rfl, rfl⟩
      clear BC
      obtain ⟨v6a, v6b, v6c, v6d, v6l, v6n⟩ := V_23.out.cells
      obtain ⟨q11a, q11b, q11c, q11d, q11e, q11f, q11g, q11h, q11i, q11j⟩ := X_23.out.cells
      obtain ⟨q12a, q12b, q12c, q12d, q12e, q12f, q12g, q12h, q12i, q12j⟩ := P_23.out.cells
      obtain ⟨q13a, q13b, q13c, q13d, q13e, q13f, q13g, q13h, q13i, q13j⟩ := Q_23.out.cells
      obtain ⟨q14a, q14b, q14c, q14d, q14e, q14f, q14g, q14h, q14i, q14j⟩ := C_24.out.cells
      go_wp2_with fail
      obtain ⟨rc, hrc, fr, hrd2⟩ : ∃ Fc, Rd W7 cA cn cc Fc ∧ (0 < cn → ∃ gg, cA = some ⟨gg, 0, none⟩ ∧ W6.heap.size ≤ gg) ∧ (Nm cn Fc ∧ S Fc cn = N) := by
        obtain ⟨_, _, _, Fc, e, h1, h2, h3, h4⟩ := F_23.out
        cases e
        exact ⟨Fc, h1, h4, h2, h3⟩
      have KC := Lib.hid (cmp_any cA A' cn cc t c' rc G W7 hrc D_23.out 0 (by rw [hrd2.2, hN]; exact (cmpN_cases _ _).2.2.2 rfl))
      have HFRC := Lib.hid fr
      clear hrc fr hrd2
      with_reducible (refine KC.out.mono ?_)
      rintro _ w8 ⟨rfl, k8, hk8⟩
      have b8 : Below W7.heap.size W7 w8 := by rw [hk8]; exact bdrewN (Below.refl _ _) _
      clear hk8 KC
      have G_25 := Lib.hid (bthen G_23.out b8)
      have X_25 := Lib.hid (X_23.out.below b8)
      have V_25 := Lib.hid (V_23.out.below b8)
      have D_25 := Lib.hid (D_23.out.below b8)
      have W_25 := Lib.hid (W_23.out.below b8)
      have M_25 := Lib.hid (M_23.out.below b8)
      have P_25 := Lib.hid (P_23.out.below b8)
      have N_25 := Lib.hid (N_23.out.below b8)
      have Q_25 := Lib.hid (Q_23.out.below b8)
      have F_25 := Lib.hid (F_23.out.below b8)
      have C_25 := Lib.hid (C_24.out.below b8)
      clear G_23 X_23 V_23 D_23 W_23 M_23 P_23 N_23 Q_23 F_23 C_24
      clear b8
      have KT := Lib.hid (fun w1 h => right_N neg (.slice cA cn cc) N k k true w1 h (by have h2 := HO.out; revert h2; cases fitB N <;> cases inB k <;> simp))
      unfold xv at KT
      obtain ⟨v7a, v7b, v7c, v7d, v7l, v7n⟩ := V_25.out.cells
      obtain ⟨q15a, q15b, q15c, q15d, q15e, q15f, q15g, q15h, q15i, q15j⟩ := X_25.out.cells
      obtain ⟨q16a, q16b, q16c, q16d, q16e, q16f, q16g, q16h, q16i, q16j⟩ := P_25.out.cells
      obtain ⟨q17a, q17b, q17c, q17d, q17e, q17f, q17g, q17h, q17i, q17j⟩ := Q_25.out.cells
      obtain ⟨q18a, q18b, q18c, q18d, q18e, q18f, q18g, q18h, q18i, q18j⟩ := C_25.out.cells
      go_wp2_with fail
      refine at_world ?_
      intro W9 hW9
      clear q15a q15b q15c q15d q15e q15f q15g q15h q15i q15j q16a q16b q16c q16d q16e q16f q16g q16h q16i q16j q17a q17b q17c q17d q17e q17f q17g q17h q17i q17j q18a q18b q18c q18d q18e q18f q18g q18h q18i q18j
      clear v7a v7b v7c v7d v7l v7n
      have G_26 : Hid (Below w.heap.size w W9) := Lib.hid (by rw [hW9]; exact G_25.out)
      have X_26 : Hid (XB W9 w.heap.size neg (.slice A n c) s f) := Lib.hid (by rw [hW9]; exact X_25.out)
      have V_26 : Hid (VB W9 (w.heap.size + 1) cl vn m ve) := Lib.hid (by rw [hW9]; exact V_25.out)
      have D_26 : Hid (Rd W9 A' t c' G) := Lib.hid (by rw [hW9]; exact D_25.out)
      have W_26 : Hid (Own w1.heap.size W9 A' t G) := Lib.hid (by rw [hW9]; exact W_25.out)
      have M_26 : Hid (IsN W9 (.slice A3 n3 c3) M) := Lib.hid (by rw [hW9]; exact M_25.out)
      have P_26 : Hid (XB W9 w3.heap.size vn (.slice A3 n3 c3) e1 0) := Lib.hid (by rw [hW9]; exact P_25.out)
      have N_26 : Hid (IsN W9 (.slice A4 n4 c4) M) := Lib.hid (by rw [hW9]; exact N_25.out)
      have Q_26 : Hid (XB W9 w4.heap.size vn (.slice A4 n4 c4) e1 0) := Lib.hid (by rw [hW9]; exact Q_25.out)
      have F_26 : Hid (IsF W6.heap.size W9 (.slice cA cn cc) N) := Lib.hid (by rw [hW9]; exact F_25.out)
      have C_26 : Hid (XB W9 w6.heap.size neg (.slice cA cn cc) k k) := Lib.hid (by rw [hW9]; exact C_25.out)
      clear G_25 X_25 V_25 D_25 W_25 M_25 P_25 N_25 Q_25 F_25 C_25
      clear hW9
      with_reducible (refine (KT.out _ F_26.out.isn).mono ?_)
      rintro _ w9 ⟨rfl, b9⟩
      have G_27 := Lib.hid (bthen G_26.out b9)
      have X_27 := Lib.hid (X_26.out.below b9)
      have V_27 := Lib.hid (V_26.out.below b9)
      have D_27 := Lib.hid (D_26.out.below b9)
      have W_27 := Lib.hid (W_26.out.below b9)
      have M_27 := Lib.hid (M_26.out.below b9)
      have P_27 := Lib.hid (P_26.out.below b9)
      have N_27 := Lib.hid (N_26.out.below b9)
      have Q_27 := Lib.hid (Q_26.out.below b9)
      have F_27 := Lib.hid (F_26.out.below b9)
      have C_27 := Lib.hid (C_26.out.below b9)
      clear G_26 X_26 V_26 D_26 W_26 M_26 P_26 N_26 Q_26 F_26 C_26
      clear b9 KT
      rcases Nat.eq_zero_or_pos t with h0 | h0
      · have z1 : decide ((0 : Int) < (t : Int)) = false := decide_eq_false (by omega)
        have z2 : decide (0 < t) = false := decide_eq_false (by omega)
        clear h0
        obtain ⟨v8a, v8b, v8c, v8d, v8l, v8n⟩ := V_27.out.cells
        obtain ⟨q19a, q19b, q19c, q19d, q19e, q19f, q19g, q19h, q19i, q19j⟩ := X_27.out.cells
        obtain ⟨q20a, q20b, q20c, q20d, q20e, q20f, q20g, q20h, q20i, q20j⟩ := P_27.out.cells
        obtain ⟨q21a, q21b, q21c, q21d, q21e, q21f, q21g, q21h, q21i, q21j⟩ := Q_27.out.cells
        obtain ⟨q22a, q22b, q22c, q22d, q22e, q22f, q22g, q22h, q22i, q22j⟩ := C_27.out.cells
        go_wp2_with fail
        go_ret
        exact ⟨rfl, G_27.out⟩
      · have z1 : decide ((0 : Int) < (t : Int)) = true := decide_eq_true (by omega)
        have z2 : decide (0 < t) = true := decide_eq_true h0
        rcases Nat.eq_zero_or_pos cn with h1 | h1
        · have z3 : decide ((0 : Int) < (cn : Int)) = false := decide_eq_false (by omega)
          have z4 : decide (0 < cn) = false := decide_eq_false (by omega)
          clear h1
          obtain ⟨v8a, v8b, v8c, v8d, v8l, v8n⟩ := V_27.out.cells
          obtain ⟨q19a, q19b, q19c, q19d, q19e, q19f, q19g, q19h, q19i, q19j⟩ := X_27.out.cells
          obtain ⟨q20a, q20b, q20c, q20d, q20e, q20f, q20g, q20h, q20i, q20j⟩ := P_27.out.cells
          obtain ⟨q21a, q21b, q21c, q21d, q21e, q21f, q21g, q21h, q21i, q21j⟩ := Q_27.out.cells
          obtain ⟨q22a, q22b, q22c, q22d, q22e, q22f, q22g, q22h, q22i, q22j⟩ := C_27.out.cells
          go_wp2_with fail
          go_ret
          exact ⟨rfl, G_27.out⟩
        · have z3 : decide ((0 : Int) < (cn : Int)) = true := decide_eq_true (by omega)
          have z4 : decide (0 < cn) = true := decide_eq_true h1
          obtain ⟨gd, rfl, hgd, hrow⟩ := W_27.out h0
          have hgl := HLT.out gd rfl h0
          obtain ⟨gc, rfl, hgc⟩ := HFRC.out h1
          obtain ⟨Fc, hcell, hx⟩ : ∃ Fc : Nat → Nat, w9.cell? { block := gc, off := 0 } = some (.int .u64 (Fc 0)) ∧ Fc 0 < 18446744073709551616 := by
            obtain ⟨_, _, _, Fc, e, h2, _⟩ := F_27.out
            cases e
            obtain ⟨ad2, e2, _, h3⟩ := h2.at_ 0 h1
            cases e2
            exact ⟨Fc, h3, h2.word' 0 h1⟩
          have hd0 := hrow.at_ 0 h0
          have hf0 := hrow.free 0
          have ne1 : gd ≠ gc := by omega
          have ne2 : gc ≠ gd := by omega
          have ne3 : gd ≠ w6.heap.size := by have := HS6.out; omega
          have ne4 : w6.heap.size ≠ gd := Ne.symm ne3
          clear hrow hgl hgc
          obtain ⟨v8a, v8b, v8c, v8d, v8l, v8n⟩ := V_27.out.cells
          obtain ⟨q19a, q19b, q19c, q19d, q19e, q19f, q19g, q19h, q19i, q19j⟩ := X_27.out.cells
          obtain ⟨q20a, q20b, q20c, q20d, q20e, q20f, q20g, q20h, q20i, q20j⟩ := P_27.out.cells
          obtain ⟨q21a, q21b, q21c, q21d, q21e, q21f, q21g, q21h, q21i, q21j⟩ := Q_27.out.cells
          obtain ⟨q22a, q22b, q22c, q22d, q22e, q22f, q22g, q22h, q22i, q22j⟩ := C_27.out.cells
          go_wp2_with fail
          go_ret
          exact ⟨rfl, G_27.out.setCell (p := { block := gd, off := 0 }) (Nat.le_trans HS1.out hgd) _⟩
    · have HO := Lib.hid ho
      clear ho DC
      have G_21 := Lib.hid (bthen G_20.out b6)
      have X_21 := Lib.hid (X_20.out.below b6)
      have V_21 := Lib.hid (V_20.out.below b6)
      have D_21 := Lib.hid (D_20.out.below b6)
      have W_21 := Lib.hid (W_20.out.below b6)
      have M_21 := Lib.hid (M_20.out.below b6)
      have P_21 := Lib.hid (P_20.out.below b6)
      have N_21 := Lib.hid (N_20.out.below b6)
      have Q_21 := Lib.hid (Q_20.out.below b6)
      clear G_20 X_20 V_20 D_20 W_20 M_20 P_20 N_20 Q_20
      clear b6
      obtain ⟨z, hzz⟩ : ∃ z, bitsN N = z := ⟨_, rfl⟩
      have three : (k < -5000) ∨ (-5000 ≤ k ∧ 5000 < k) ∨ (-5000 ≤ k ∧ k ≤ 5000 ∧ 8192 < z) := by
        rcases Int.lt_or_le k (-5000) with h1 | h1
        · exact Or.inl h1
        · rcases Int.lt_or_le 5000 k with h2 | h2
          · exact Or.inr (Or.inl ⟨h1, h2⟩)
          · refine Or.inr (Or.inr ⟨h1, h2, ?_⟩)
            rcases Nat.lt_or_ge 8192 z with h3 | h3
            · exact h3
            · exfalso
              have h4 := HO.out
              rw [inB_of ⟨h1, h2⟩, Bool.and_true] at h4
              have h5 : fitB N = true := fit_of (bitsN_lt N) (by omega)
              rw [h5] at h4; exact absurd h4 (by decide)
      rw [hzz] at BC
      clear hzz
      rcases three with h1 | ⟨h1, h2⟩ | ⟨h1, h2, h3⟩
      · have y1 : decide (-5000 ≤ k) = false := decide_eq_false (by omega)
        clear h1 BC
        obtain ⟨v5a, v5b, v5c, v5d, v5l, v5n⟩ := V_21.out.cells
        obtain ⟨q8a, q8b, q8c, q8d, q8e, q8f, q8g, q8h, q8i, q8j⟩ := X_21.out.cells
        obtain ⟨q9a, q9b, q9c, q9d, q9e, q9f, q9g, q9h, q9i, q9j⟩ := P_21.out.cells
        obtain ⟨q10a, q10b, q10c, q10d, q10e, q10f, q10g, q10h, q10i, q10j⟩ := Q_21.out.cells
        go_wp2_with fail
        go_ret
        exact ⟨rfl, bgrow G_21.out _⟩
      · have y1 : decide (-5000 ≤ k) = true := decide_eq_true h1
        have y2 : decide (k ≤ 5000) = false := decide_eq_false (by omega)
        clear h1 h2 BC
        obtain ⟨v5a, v5b, v5c, v5d, v5l, v5n⟩ := V_21.out.cells
        obtain ⟨q8a, q8b, q8c, q8d, q8e, q8f, q8g, q8h, q8i, q8j⟩ := X_21.out.cells
        obtain ⟨q9a, q9b, q9c, q9d, q9e, q9f, q9g, q9h, q9i, q9j⟩ := P_21.out.cells
        obtain ⟨q10a, q10b, q10c, q10d, q10e, q10f, q10g, q10h, q10i, q10j⟩ := Q_21.out.cells
        go_wp2_with fail
        go_ret
        exact ⟨rfl, bgrow G_21.out _⟩
      · have y1 : decide (-5000 ≤ k) = true := decide_eq_true h1
        have y2 : decide (k ≤ 5000) = true := decide_eq_true h2
        have y3 : decide ((z : Int) ≤ 8192) = false := decide_eq_false (by omega)
        have y4 : decide (z ≤ 8192) = false := decide_eq_false (by omega)
        clear h1 h2 h3
        obtain ⟨v5a, v5b, v5c, v5d, v5l, v5n⟩ := V_21.out.cells
        obtain ⟨q8a, q8b, q8c, q8d, q8e, q8f, q8g, q8h, q8i, q8j⟩ := X_21.out.cells
        obtain ⟨q9a, q9b, q9c, q9d, q9e, q9f, q9g, q9h, q9i, q9j⟩ := P_21.out.cells
        obtain ⟨q10a, q10b, q10c, q10d, q10e, q10f, q10g, q10h, q10i, q10j⟩ := Q_21.out.cells
        go_wp2_with fail
        refine at_world ?_
        intro W7 hW7
        clear q8a q8b q8c q8d q8e q8f q8g q8h q8i q8j q9a q9b q9c q9d q9e q9f q9g q9h q9i q9j q10a q10b q10c q10d q10e q10f q10g q10h q10i q10j
        clear v5a v5b v5c v5d v5l v5n
        have G_22 : Hid (Below w.heap.size w W7) := Lib.hid (by rw [hW7]; exact (bgrow G_21.out _))
        have X_22 : Hid (XB W7 w.heap.size neg (.slice A n c) s f) := Lib.hid (by rw [hW7]; exact (X_21.out.alloc _))
        have V_22 : Hid (VB W7 (w.heap.size + 1) cl vn m ve) := Lib.hid (by rw [hW7]; exact (V_21.out.alloc _))
        have D_22 : Hid (Rd W7 A' t c' G) := Lib.hid (by rw [hW7]; exact (D_21.out.alloc _))
        have W_22 : Hid (Own w1.heap.size W7 A' t G) := Lib.hid (by rw [hW7]; exact (W_21.out.alloc _))
        have M_22 : Hid (IsN W7 (.slice A3 n3 c3) M) := Lib.hid (by rw [hW7]; exact (M_21.out.alloc _))
        have P_22 : Hid (XB W7 w3.heap.size vn (.slice A3 n3 c3) e1 0) := Lib.hid (by rw [hW7]; exact (P_21.out.alloc _))
        have N_22 : Hid (IsN W7 (.slice A4 n4 c4) M) := Lib.hid (by rw [hW7]; exact (N_21.out.alloc _))
        have Q_22 : Hid (XB W7 w4.heap.size vn (.slice A4 n4 c4) e1 0) := Lib.hid (by rw [hW7]; exact (Q_21.out.alloc _))
        clear G_21 X_21 V_21 D_21 W_21 M_21 P_21 N_21 Q_21
        have C_23 : Hid (XB W7 w6.heap.size false (.slice none 0 0) 0 0) := Lib.hid (by rw [hW7]; exact XB.new _ _ _ _ _)
        clear hW7
        with_reducible (refine (BC.out _ D_22.out).mono ?_)
        rintro _ w7 ⟨rfl, rfl⟩
        clear BC
        obtain ⟨v6a, v6b, v6c, v6d, v6l, v6n⟩ := V_22.out.cells
        obtain ⟨q11a, q11b, q11c, q11d, q11e, q11f, q11g, q11h, q11i, q11j⟩ := X_22.out.cells
        obtain ⟨q12a, q12b, q12c, q12d, q12e, q12f, q12g, q12h, q12i, q12j⟩ := P_22.out.cells
        obtain ⟨q13a, q13b, q13c, q13d, q13e, q13f, q13g, q13h, q13i, q13j⟩ := Q_22.out.cells
        obtain ⟨q14a, q14b, q14c, q14d, q14e, q14f, q14g, q14h, q14i, q14j⟩ := C_23.out.cells
        go_wp2_with fail
        go_ret
        exact ⟨rfl, G_22.out⟩
end Go.Proofs.Yteiajccjlbghoaa

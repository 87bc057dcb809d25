/- package layout's Layout of short digits: a whole number; a digit behind the point; one digit before and one behind. Conditions: as each theorem names them. package exact's Log10 walked. Conditions: as each theorem names them. -/
import Derived.Test.YtlmeobokpibifaaGreatDoorG14
import Derived.Test.YtlmeobokpibifaaGreatDoorG08
section
set_option linter.unusedSimpArgs false
set_option linter.unusedVariables false
set_option linter.unusedVariables false
set_option linter.unusedSimpArgs false
namespace Go.Proofs.YtlmeobokpibifaaGreatDoor
open Go.RowKit

set_option maxHeartbeats 1000000 in
/-- one digit, as it stands -/
theorem layout_one (neg : Bool) (v : Value) (N : Nat) (b : UInt8) (w : World) (h : IsN w v N) (h0 : 0 < N) (hn : N < 100) (h10 : N % 10 ≠ 0) (hd : Lib.decDigits N = [b]) :
    Calls Tryz.prog 32 #[.agg #[.bool neg, v, .int .i64 0]] w fun e w' => e = .returned (tv (sgl neg ([b] ++ []))) ∧ Below w.heap.size w w' := by
  have TX := Lib.hid (fun v w' q => text_small v N w' q h0 hn)
  have RT := Lib.hid (fun v w' q => right_small neg v N 0 w' q h0 hn h10 (by decide))
  rw [hd] at TX
  obtain ⟨ad, c, rfl, hb, hc⟩ := one_word h h0 (by omega)
  have HB := Lib.hid (bgrow (Below.refl w.heap.size w) (dbox neg (.slice (some ad) 1 c) 0))
  have BX : Hid ((w.alloc (dbox neg (.slice (some ad) 1 c) 0)).heap[w.heap.size]? = some (.cells #[.bool neg, .slice (some ad) 1 c, .int .i64 0] 84 (0, 0))) := Lib.hid (Deep.blk_alloc_new _ _)
  have HT := Lib.hid (h.below HB.out)
  have ZN := Lib.hid (fun w' => zeros_none w')
  clear h h0 hn h10 hc hb hd
  unfold dbox at *
  go_enter Tryz.func32, Tryz.ntmps32
  go_wp2_with fail
  generalize (w.alloc (.cells #[.bool neg, .slice (some ad) 1 c, .int .i64 0] 84)) = WB at HB BX HT ⊢
  with_reducible (refine (RT.out _ _ HT.out).mono ?_)
  rintro e w1 ⟨rfl, b1⟩
  have HB1 := Lib.hid (bthen HB.out b1)
  have HT1 := Lib.hid (HT.out.below b1)
  have BX1 := Lib.hid ((b1.block _ (blk_lt BX.out)).trans BX.out)
  clear b1 HB BX HT RT
  obtain ⟨d0, d1, d2⟩ := three_cells BX1.out
  go_wp2_with fail
  with_reducible (refine (TX.out _ _ HT1.out).mono ?_)
  rintro e w2 ⟨rfl, b2⟩
  have HB2 := Lib.hid (bthen HB1.out b2)
  have BX2 := Lib.hid ((b2.block _ (blk_lt BX1.out)).trans BX1.out)
  clear b2 HB1 BX1 HT1 TX d0 d1 d2
  obtain ⟨d0, d1, d2⟩ := three_cells BX2.out
  go_wp2_with fail
  have K1 : Hid (∀ w', Hid (Below w2.heap.size w2 w') → Hid (Below w2.heap.size w2 w') ∧ (w'.cell? { block := w.heap.size, off := 0 } = some (.bool neg) ∧ w'.cell? { block := w.heap.size, off := 1 } = some (.slice (some ad) 1 c) ∧ w'.cell? { block := w.heap.size, off := 2 } = some (.int .i64 0))) := Lib.hid (fun w' h => ⟨h, three_cells ((h.out.block _ (blk_lt BX2.out)).trans BX2.out)⟩)
  refine wp_region_held_drew (S := fun w' => Hid (Below w2.heap.size w2 w') ∧ (w'.cell? { block := w.heap.size, off := 0 } = some (.bool neg) ∧ w'.cell? { block := w.heap.size, off := 1 } = some (.slice (some ad) 1 c) ∧ w'.cell? { block := w.heap.size, off := 2 } = some (.int .i64 0))) (by kernel_rfl) (K1.out _ (Lib.hid (bdrewN (Below.refl _ _) 1))) (fun hH => ?_)
  clear d0 d1 d2
  refine take_p (i := 0) (oi := ?_) (v := ?_) ?_ ?_ ?_ ?_ ?_ ?_ ?_ hH ?_
  rotate_left 2
  · (simp only [List.getElem?_toArray, List.getElem?_cons_succ, List.getElem?_cons_zero]; rfl)
  · kernel_rfl
  · kernel_rfl
  · kernel_rfl
  · exact fun _ _ _ h => h
  · rfl
  · (intro w hSw; (try dsimp only at hSw); go_simp; all_goals (with_reducible rfl))
  try simp only [Act.put, List.setIfInBounds_toArray, List.set_cons_zero, List.set_cons_succ]
  refine take_p (i := 1) (oi := ?_) (v := ?_) ?_ ?_ ?_ ?_ ?_ ?_ ?_ hH ?_
  rotate_left 2
  · (simp only [List.getElem?_toArray, List.getElem?_cons_succ, List.getElem?_cons_zero]; rfl)
  · kernel_rfl
  · kernel_rfl
  · kernel_rfl
  · exact fun _ _ _ h => h
  · rfl
  · (intro w hSw; (try dsimp only at hSw); go_simp; all_goals (with_reducible rfl))
  try simp only [Act.put, List.setIfInBounds_toArray, List.set_cons_zero, List.set_cons_succ]
  refine take_p (i := 2) (oi := ?_) (v := ?_) ?_ ?_ ?_ ?_ ?_ ?_ ?_ hH ?_
  rotate_left 2
  · (simp only [List.getElem?_toArray, List.getElem?_cons_succ, List.getElem?_cons_zero]; rfl)
  · kernel_rfl
  · kernel_rfl
  · kernel_rfl
  · exact fun _ _ _ h => h
  · rfl
  · (intro w hSw; (try dsimp only at hSw); go_simp; all_goals (with_reducible rfl))
  try simp only [Act.put, List.setIfInBounds_toArray, List.set_cons_zero, List.set_cons_succ]
  refine take_p (i := 3) (oi := ?_) (v := ?_) ?_ ?_ ?_ ?_ ?_ ?_ ?_ hH ?_
  rotate_left 2
  · (simp only [List.getElem?_toArray, List.getElem?_cons_succ, List.getElem?_cons_zero]; rfl)
  · kernel_rfl
  · kernel_rfl
  · kernel_rfl
  · exact fun _ _ _ h => h
  · rfl
  · (intro w hSw; (try dsimp only at hSw); go_simp; all_goals (with_reducible rfl))
  try simp only [Act.put, List.setIfInBounds_toArray, List.set_cons_zero, List.set_cons_succ]
  refine take_p (i := 4) (oi := ?_) (v := ?_) ?_ ?_ ?_ ?_ ?_ ?_ ?_ hH ?_
  rotate_left 2
  · (simp only [List.getElem?_toArray, List.getElem?_cons_succ, List.getElem?_cons_zero]; rfl)
  · kernel_rfl
  · kernel_rfl
  · kernel_rfl
  · exact fun _ _ _ h => h
  · rfl
  · (intro w hSw; (try dsimp only at hSw); go_simp; all_goals (with_reducible rfl))
  try simp only [Act.put, List.setIfInBounds_toArray, List.set_cons_zero, List.set_cons_succ]
  refine wpAnyH_ready (rs := [5]) (by kernel_rfl) (by simp) ?_
  refine AllReadyH.cons rfl (fun K hK => ?_) AllReadyH.nil
  go_simp
  go_at_call 54
  (try rw [show IntKind.i64.wrap 0 = 0 from by decide])
  with_reducible (refine Calls.mono (ZN.out _) ?_)
  rintro e wz5 ⟨rfl, rfl⟩
  go_simp
  refine hK.out _ _ hH (fun hHeld => ?_)
  clear hK K
  replace hH := hHeld
  clear hHeld
  try simp only [Act.put, List.setIfInBounds_toArray, List.set_cons_zero, List.set_cons_succ]
  refine wpAnyH_ready (rs := [6]) (by kernel_rfl) (by simp) ?_
  refine AllReadyH.cons rfl (fun K hK => ?_) AllReadyH.nil
  go_simp
  refine hK.out _ _ (K1.out _ (Lib.hid (bgrow hH.1.out _))) (fun hHeld => ?_)
  clear hK K
  replace hH := hHeld
  clear hHeld
  try simp only [Act.put, List.setIfInBounds_toArray, List.set_cons_zero, List.set_cons_succ]
  refine wpAnyH_ready (rs := [7]) (by kernel_rfl) (by simp) ?_
  refine AllReadyH.cons rfl (fun K hK => ?_) AllReadyH.nil
  go_simp
  go_at_call 52
  (try rw [show IntKind.i64.wrap 0 = 0 from by decide])
  with_reducible (refine Calls.mono (joined2 neg _ [b] [] _ (Deep.blk_alloc_new _ _) (by simp)) ?_)
  rintro e wz7 ⟨rfl, bz⟩
  go_simp
  refine hK.out _ _ (K1.out _ (Lib.hid (bthen hH.1.out bz))) (fun hHeld => ?_)
  clear hK K
  replace hH := hHeld
  clear hHeld
  try simp only [Act.put, List.setIfInBounds_toArray, List.set_cons_zero, List.set_cons_succ]
  refine take_p (i := 8) (oi := ?_) (v := ?_) ?_ ?_ ?_ ?_ ?_ ?_ ?_ hH ?_
  rotate_left 2
  · (simp only [List.getElem?_toArray, List.getElem?_cons_succ, List.getElem?_cons_zero]; rfl)
  · kernel_rfl
  · kernel_rfl
  · kernel_rfl
  · exact fun _ _ _ h => h
  · rfl
  · (intro w hSw; (try dsimp only at hSw); go_simp; all_goals (with_reducible rfl))
  try simp only [Act.put, List.setIfInBounds_toArray, List.set_cons_zero, List.set_cons_succ]

  refine wpAnyH_done (by kernel_rfl) ?_ _
  have HB4 := Lib.hid (bthen HB2.out hH.1.out)
  clear hH K1
  go_wp2_with fail
  go_ret
  exact ⟨rfl, HB4.out⟩

set_option maxHeartbeats 1000000 in
/-- one digit behind the point -/
theorem layout_tenth (neg : Bool) (v : Value) (N : Nat) (b : UInt8) (w : World) (h : IsN w v N) (h0 : 0 < N) (hn : N < 100) (h10 : N % 10 ≠ 0) (hd : Lib.decDigits N = [b]) :
    Calls Tryz.prog 32 #[.agg #[.bool neg, v, .int .i64 (-1)]] w fun e w' => e = .returned (tv (sgl neg ([48, 46] ++ ([] ++ [b])))) ∧ Below w.heap.size w w' := by
  have TX := Lib.hid (fun v w' q => text_small v N w' q h0 hn)
  have RT := Lib.hid (fun v w' q => right_small neg v N (-1) w' q h0 hn h10 (by decide))
  rw [hd] at TX
  obtain ⟨ad, c, rfl, hb, hc⟩ := one_word h h0 (by omega)
  have HB := Lib.hid (bgrow (Below.refl w.heap.size w) (dbox neg (.slice (some ad) 1 c) (-1)))
  have BX : Hid ((w.alloc (dbox neg (.slice (some ad) 1 c) (-1))).heap[w.heap.size]? = some (.cells #[.bool neg, .slice (some ad) 1 c, .int .i64 (-1)] 84 (0, 0))) := Lib.hid (Deep.blk_alloc_new _ _)
  have HT := Lib.hid (h.below HB.out)
  have ZN := Lib.hid (fun w' => zeros_none w')
  clear h h0 hn h10 hc hb hd
  unfold dbox at *
  go_enter Tryz.func32, Tryz.ntmps32
  go_wp2_with fail
  generalize (w.alloc (.cells #[.bool neg, .slice (some ad) 1 c, .int .i64 (-1)] 84)) = WB at HB BX HT ⊢
  with_reducible (refine (RT.out _ _ HT.out).mono ?_)
  rintro e w1 ⟨rfl, b1⟩
  have HB1 := Lib.hid (bthen HB.out b1)
  have HT1 := Lib.hid (HT.out.below b1)
  have BX1 := Lib.hid ((b1.block _ (blk_lt BX.out)).trans BX.out)
  clear b1 HB BX HT RT
  obtain ⟨d0, d1, d2⟩ := three_cells BX1.out
  go_wp2_with fail
  with_reducible (refine (TX.out _ _ HT1.out).mono ?_)
  rintro e w2 ⟨rfl, b2⟩
  have HB2 := Lib.hid (bthen HB1.out b2)
  have BX2 := Lib.hid ((b2.block _ (blk_lt BX1.out)).trans BX1.out)
  clear b2 HB1 BX1 HT1 TX d0 d1 d2
  obtain ⟨d0, d1, d2⟩ := three_cells BX2.out
  go_wp2_with fail
  have K1 : Hid (∀ w', Hid (Below w2.heap.size w2 w') → Hid (Below w2.heap.size w2 w') ∧ (w'.cell? { block := w.heap.size, off := 0 } = some (.bool neg) ∧ w'.cell? { block := w.heap.size, off := 1 } = some (.slice (some ad) 1 c) ∧ w'.cell? { block := w.heap.size, off := 2 } = some (.int .i64 (-1)))) := Lib.hid (fun w' h => ⟨h, three_cells ((h.out.block _ (blk_lt BX2.out)).trans BX2.out)⟩)
  refine wp_region_held_drew (S := fun w' => Hid (Below w2.heap.size w2 w') ∧ (w'.cell? { block := w.heap.size, off := 0 } = some (.bool neg) ∧ w'.cell? { block := w.heap.size, off := 1 } = some (.slice (some ad) 1 c) ∧ w'.cell? { block := w.heap.size, off := 2 } = some (.int .i64 (-1)))) (by kernel_rfl) (K1.out _ (Lib.hid (bdrewN (Below.refl _ _) 1))) (fun hH => ?_)
  clear d0 d1 d2
  refine take_p (i := 0) (oi := ?_) (v := ?_) ?_ ?_ ?_ ?_ ?_ ?_ ?_ hH ?_
  rotate_left 2
  · (simp only [List.getElem?_toArray, List.getElem?_cons_succ, List.getElem?_cons_zero]; rfl)
  · kernel_rfl
  · kernel_rfl
  · kernel_rfl
  · exact fun _ _ _ h => h
  · rfl
  · (intro w hSw; (try dsimp only at hSw); go_simp; all_goals (with_reducible rfl))
  try simp only [Act.put, List.setIfInBounds_toArray, List.set_cons_zero, List.set_cons_succ]
  refine take_p (i := 1) (oi := ?_) (v := ?_) ?_ ?_ ?_ ?_ ?_ ?_ ?_ hH ?_
  rotate_left 2
  · (simp only [List.getElem?_toArray, List.getElem?_cons_succ, List.getElem?_cons_zero]; rfl)
  · kernel_rfl
  · kernel_rfl
  · kernel_rfl
  · exact fun _ _ _ h => h
  · rfl
  · (intro w hSw; (try dsimp only at hSw); go_simp; all_goals (with_reducible rfl))
  try simp only [Act.put, List.setIfInBounds_toArray, List.set_cons_zero, List.set_cons_succ]
  refine take_p (i := 2) (oi := ?_) (v := ?_) ?_ ?_ ?_ ?_ ?_ ?_ ?_ hH ?_
  rotate_left 2
  · (simp only [List.getElem?_toArray, List.getElem?_cons_succ, List.getElem?_cons_zero]; rfl)
  · kernel_rfl
  · kernel_rfl
  · kernel_rfl
  · exact fun _ _ _ h => h
  · rfl
  · (intro w hSw; (try dsimp only at hSw); go_simp; all_goals (with_reducible rfl))
  try simp only [Act.put, List.setIfInBounds_toArray, List.set_cons_zero, List.set_cons_succ]
  refine take_p (i := 3) (oi := ?_) (v := ?_) ?_ ?_ ?_ ?_ ?_ ?_ ?_ hH ?_
  rotate_left 2
  · (simp only [List.getElem?_toArray, List.getElem?_cons_succ, List.getElem?_cons_zero]; rfl)
  · kernel_rfl
  · kernel_rfl
  · kernel_rfl
  · exact fun _ _ _ h => h
  · rfl
  · (intro w hSw; (try dsimp only at hSw); go_simp; all_goals (with_reducible rfl))
  try simp only [Act.put, List.setIfInBounds_toArray, List.set_cons_zero, List.set_cons_succ]
  refine take_p (i := 5) (oi := ?_) (v := ?_) ?_ ?_ ?_ ?_ ?_ ?_ ?_ hH ?_
  rotate_left 2
  · (simp only [List.getElem?_toArray, List.getElem?_cons_succ, List.getElem?_cons_zero]; rfl)
  · kernel_rfl
  · kernel_rfl
  · kernel_rfl
  · exact fun _ _ _ h => h
  · rfl
  · (intro w hSw; (try dsimp only at hSw); go_simp; all_goals (with_reducible rfl))
  try simp only [Act.put, List.setIfInBounds_toArray, List.set_cons_zero, List.set_cons_succ]
  refine wpAnyH_ready (rs := [4]) (by kernel_rfl) (by simp) ?_
  refine AllReadyH.cons rfl (fun K hK => ?_) AllReadyH.nil
  go_simp
  go_at_call 54
  (try rw [show IntKind.i64.wrap 0 = 0 from by decide])
  with_reducible (refine Calls.mono (ZN.out _) ?_)
  rintro e wz4 ⟨rfl, rfl⟩
  go_simp
  refine hK.out _ _ hH (fun hHeld => ?_)
  clear hK K
  replace hH := hHeld
  clear hHeld
  try simp only [Act.put, List.setIfInBounds_toArray, List.set_cons_zero, List.set_cons_succ]
  refine wpAnyH_ready (rs := [6]) (by kernel_rfl) (by simp) ?_
  refine AllReadyH.cons rfl (fun K hK => ?_) AllReadyH.nil
  go_simp
  refine hK.out _ _ (K1.out _ (Lib.hid (bgrow hH.1.out _))) (fun hHeld => ?_)
  clear hK K
  replace hH := hHeld
  clear hHeld
  try simp only [Act.put, List.setIfInBounds_toArray, List.set_cons_zero, List.set_cons_succ]
  refine wpAnyH_ready (rs := [7]) (by kernel_rfl) (by simp) ?_
  refine AllReadyH.cons rfl (fun K hK => ?_) AllReadyH.nil
  go_simp
  go_at_call 52
  (try rw [show IntKind.i64.wrap 0 = 0 from by decide])
  with_reducible (refine Calls.mono (joined3 neg _ [48, 46] [] [b] _ (Deep.blk_alloc_new _ _) (by simp)) ?_)
  rintro e wz7 ⟨rfl, bz⟩
  go_simp
  refine hK.out _ _ (K1.out _ (Lib.hid (bthen hH.1.out bz))) (fun hHeld => ?_)
  clear hK K
  replace hH := hHeld
  clear hHeld
  try simp only [Act.put, List.setIfInBounds_toArray, List.set_cons_zero, List.set_cons_succ]
  refine take_p (i := 8) (oi := ?_) (v := ?_) ?_ ?_ ?_ ?_ ?_ ?_ ?_ hH ?_
  rotate_left 2
  · (simp only [List.getElem?_toArray, List.getElem?_cons_succ, List.getElem?_cons_zero]; rfl)
  · kernel_rfl
  · kernel_rfl
  · kernel_rfl
  · exact fun _ _ _ h => h
  · rfl
  · (intro w hSw; (try dsimp only at hSw); go_simp; all_goals (with_reducible rfl))
  try simp only [Act.put, List.setIfInBounds_toArray, List.set_cons_zero, List.set_cons_succ]

  refine wpAnyH_done (by kernel_rfl) ?_ _
  have HB4 := Lib.hid (bthen HB2.out hH.1.out)
  clear hH K1
  go_wp2_with fail
  go_ret
  exact ⟨rfl, HB4.out⟩

set_option maxHeartbeats 1000000 in
/-- a digit before the point, and one behind -/
theorem layout_two (neg : Bool) (v : Value) (N : Nat) (a b : UInt8) (w : World) (h : IsN w v N) (h0 : 0 < N) (hn : N < 100) (h10 : N % 10 ≠ 0) (hd : Lib.decDigits N = [a, b]) :
    Calls Tryz.prog 32 #[.agg #[.bool neg, v, .int .i64 (-1)]] w fun e w' => e = .returned (tv (sgl neg ([a] ++ ([46] ++ [b])))) ∧ Below w.heap.size w w' := by
  have TX := Lib.hid (fun v w' q => text_small v N w' q h0 hn)
  have RT := Lib.hid (fun v w' q => right_small neg v N (-1) w' q h0 hn h10 (by decide))
  rw [hd] at TX
  obtain ⟨ad, c, rfl, hb, hc⟩ := one_word h h0 (by omega)
  have HB := Lib.hid (bgrow (Below.refl w.heap.size w) (dbox neg (.slice (some ad) 1 c) (-1)))
  have BX : Hid ((w.alloc (dbox neg (.slice (some ad) 1 c) (-1))).heap[w.heap.size]? = some (.cells #[.bool neg, .slice (some ad) 1 c, .int .i64 (-1)] 84 (0, 0))) := Lib.hid (Deep.blk_alloc_new _ _)
  have HT := Lib.hid (h.below HB.out)
  have ZN := Lib.hid (fun w' => zeros_none w')
  clear h h0 hn h10 hc hb hd
  unfold dbox at *
  go_enter Tryz.func32, Tryz.ntmps32
  go_wp2_with fail
  generalize (w.alloc (.cells #[.bool neg, .slice (some ad) 1 c, .int .i64 (-1)] 84)) = WB at HB BX HT ⊢
  with_reducible (refine (RT.out _ _ HT.out).mono ?_)
  rintro e w1 ⟨rfl, b1⟩
  have HB1 := Lib.hid (bthen HB.out b1)
  have HT1 := Lib.hid (HT.out.below b1)
  have BX1 := Lib.hid ((b1.block _ (blk_lt BX.out)).trans BX.out)
  clear b1 HB BX HT RT
  obtain ⟨d0, d1, d2⟩ := three_cells BX1.out
  go_wp2_with fail
  with_reducible (refine (TX.out _ _ HT1.out).mono ?_)
  rintro e w2 ⟨rfl, b2⟩
  have HB2 := Lib.hid (bthen HB1.out b2)
  have BX2 := Lib.hid ((b2.block _ (blk_lt BX1.out)).trans BX1.out)
  clear b2 HB1 BX1 HT1 TX d0 d1 d2
  obtain ⟨d0, d1, d2⟩ := three_cells BX2.out
  go_wp2_with fail
  have K1 : Hid (∀ w', Hid (Below w2.heap.size w2 w') → Hid (Below w2.heap.size w2 w') ∧ (w'.cell? { block := w.heap.size, off := 0 } = some (.bool neg) ∧ w'.cell? { block := w.heap.size, off := 1 } = some (.slice (some ad) 1 c) ∧ w'.cell? { block := w.heap.size, off := 2 } = some (.int .i64 (-1)))) := Lib.hid (fun w' h => ⟨h, three_cells ((h.out.block _ (blk_lt BX2.out)).trans BX2.out)⟩)
  refine wp_region_held_drew (S := fun w' => Hid (Below w2.heap.size w2 w') ∧ (w'.cell? { block := w.heap.size, off := 0 } = some (.bool neg) ∧ w'.cell? { block := w.heap.size, off := 1 } = some (.slice (some ad) 1 c) ∧ w'.cell? { block := w.heap.size, off := 2 } = some (.int .i64 (-1)))) (by kernel_rfl) (K1.out _ (Lib.hid (bdrewN (Below.refl _ _) 1))) (fun hH => ?_)
  clear d0 d1 d2
  refine take_p (i := 0) (oi := ?_) (v := ?_) ?_ ?_ ?_ ?_ ?_ ?_ ?_ hH ?_
  rotate_left 2
  · (simp only [List.getElem?_toArray, List.getElem?_cons_succ, List.getElem?_cons_zero]; rfl)
  · kernel_rfl
  · kernel_rfl
  · kernel_rfl
  · exact fun _ _ _ h => h
  · rfl
  · (intro w hSw; (try dsimp only at hSw); go_simp; all_goals (with_reducible rfl))
  try simp only [Act.put, List.setIfInBounds_toArray, List.set_cons_zero, List.set_cons_succ]
  refine take_p (i := 1) (oi := ?_) (v := ?_) ?_ ?_ ?_ ?_ ?_ ?_ ?_ hH ?_
  rotate_left 2
  · (simp only [List.getElem?_toArray, List.getElem?_cons_succ, List.getElem?_cons_zero]; rfl)
  · kernel_rfl
  · kernel_rfl
  · kernel_rfl
  · exact fun _ _ _ h => h
  · rfl
  · (intro w hSw; (try dsimp only at hSw); go_simp; all_goals (with_reducible rfl))
  try simp only [Act.put, List.setIfInBounds_toArray, List.set_cons_zero, List.set_cons_succ]
  refine take_p (i := 2) (oi := ?_) (v := ?_) ?_ ?_ ?_ ?_ ?_ ?_ ?_ hH ?_
  rotate_left 2
  · (simp only [List.getElem?_toArray, List.getElem?_cons_succ, List.getElem?_cons_zero]; rfl)
  · kernel_rfl
  · kernel_rfl
  · kernel_rfl
  · exact fun _ _ _ h => h
  · rfl
  · (intro w hSw; (try dsimp only at hSw); go_simp; all_goals (with_reducible rfl))
  try simp only [Act.put, List.setIfInBounds_toArray, List.set_cons_zero, List.set_cons_succ]
  refine take_p (i := 3) (oi := ?_) (v := ?_) ?_ ?_ ?_ ?_ ?_ ?_ ?_ hH ?_
  rotate_left 2
  · (simp only [List.getElem?_toArray, List.getElem?_cons_succ, List.getElem?_cons_zero]; rfl)
  · kernel_rfl
  · kernel_rfl
  · kernel_rfl
  · exact fun _ _ _ h => h
  · rfl
  · (intro w hSw; (try dsimp only at hSw); go_simp; all_goals (with_reducible rfl))
  try simp only [Act.put, List.setIfInBounds_toArray, List.set_cons_zero, List.set_cons_succ]
  refine take_p (i := 4) (oi := ?_) (v := ?_) ?_ ?_ ?_ ?_ ?_ ?_ ?_ hH ?_
  rotate_left 2
  · (simp only [List.getElem?_toArray, List.getElem?_cons_succ, List.getElem?_cons_zero]; rfl)
  · kernel_rfl
  · kernel_rfl
  · kernel_rfl
  · exact fun _ _ _ h => h
  · rfl
  · (intro w hSw; (try dsimp only at hSw); go_simp; all_goals (with_reducible rfl))
  try simp only [Act.put, List.setIfInBounds_toArray, List.set_cons_zero, List.set_cons_succ]
  refine take_p (i := 5) (oi := ?_) (v := ?_) ?_ ?_ ?_ ?_ ?_ ?_ ?_ hH ?_
  rotate_left 2
  · (simp only [List.getElem?_toArray, List.getElem?_cons_succ, List.getElem?_cons_zero]; rfl)
  · kernel_rfl
  · kernel_rfl
  · kernel_rfl
  · exact fun _ _ _ h => h
  · rfl
  · (intro w hSw; (try dsimp only at hSw); go_simp; all_goals (with_reducible rfl))
  try simp only [Act.put, List.setIfInBounds_toArray, List.set_cons_zero, List.set_cons_succ]
  refine take_p (i := 6) (oi := ?_) (v := ?_) ?_ ?_ ?_ ?_ ?_ ?_ ?_ hH ?_
  rotate_left 2
  · (simp only [List.getElem?_toArray, List.getElem?_cons_succ, List.getElem?_cons_zero]; rfl)
  · kernel_rfl
  · kernel_rfl
  · kernel_rfl
  · exact fun _ _ _ h => h
  · rfl
  · (intro w hSw; (try dsimp only at hSw); go_simp; all_goals (with_reducible rfl))
  try simp only [Act.put, List.setIfInBounds_toArray, List.set_cons_zero, List.set_cons_succ]
  refine take_p (i := 7) (oi := ?_) (v := ?_) ?_ ?_ ?_ ?_ ?_ ?_ ?_ hH ?_
  rotate_left 2
  · (simp only [List.getElem?_toArray, List.getElem?_cons_succ, List.getElem?_cons_zero]; rfl)
  · kernel_rfl
  · kernel_rfl
  · kernel_rfl
  · exact fun _ _ _ h => h
  · rfl
  · (intro w hSw; (try dsimp only at hSw); go_simp; all_goals (with_reducible rfl))
  try simp only [Act.put, List.setIfInBounds_toArray, List.set_cons_zero, List.set_cons_succ]
  refine wpAnyH_ready (rs := [8]) (by kernel_rfl) (by simp) ?_
  refine AllReadyH.cons rfl (fun K hK => ?_) AllReadyH.nil
  go_simp
  refine hK.out _ _ (K1.out _ (Lib.hid (bgrow hH.1.out _))) (fun hHeld => ?_)
  clear hK K
  replace hH := hHeld
  clear hHeld
  try simp only [Act.put, List.setIfInBounds_toArray, List.set_cons_zero, List.set_cons_succ]
  refine wpAnyH_ready (rs := [9]) (by kernel_rfl) (by simp) ?_
  refine AllReadyH.cons rfl (fun K hK => ?_) AllReadyH.nil
  go_simp
  go_at_call 52
  (try rw [show IntKind.i64.wrap 0 = 0 from by decide])
  with_reducible (refine Calls.mono (joined3 neg _ [a] [46] [b] _ (Deep.blk_alloc_new _ _) (by simp)) ?_)
  rintro e wz9 ⟨rfl, bz⟩
  go_simp
  refine hK.out _ _ (K1.out _ (Lib.hid (bthen hH.1.out bz))) (fun hHeld => ?_)
  clear hK K
  replace hH := hHeld
  clear hHeld
  try simp only [Act.put, List.setIfInBounds_toArray, List.set_cons_zero, List.set_cons_succ]
  refine take_p (i := 10) (oi := ?_) (v := ?_) ?_ ?_ ?_ ?_ ?_ ?_ ?_ hH ?_
  rotate_left 2
  · (simp only [List.getElem?_toArray, List.getElem?_cons_succ, List.getElem?_cons_zero]; rfl)
  · kernel_rfl
  · kernel_rfl
  · kernel_rfl
  · exact fun _ _ _ h => h
  · rfl
  · (intro w hSw; (try dsimp only at hSw); go_simp; all_goals (with_reducible rfl))
  try simp only [Act.put, List.setIfInBounds_toArray, List.set_cons_zero, List.set_cons_succ]

  refine wpAnyH_done (by kernel_rfl) ?_ _
  have HB4 := Lib.hid (bthen HB2.out hH.1.out)
  clear hH K1
  go_wp2_with fail
  go_ret
  exact ⟨rfl, HB4.out⟩
end Go.Proofs.YtlmeobokpibifaaGreatDoor
end

section
set_option linter.unusedSimpArgs false
set_option linter.unusedVariables false
set_option linter.unusedVariables false
namespace Go.Proofs.YtlmeobokpibifaaGreatDoor
open Go.RowKit

theorem log_zero (neg : Bool) (v : Value) (s f : Int) (w : World) (h : IsN w v 0) :
    Calls Tryz.prog 35 #[xv neg v s f] w fun e w' => e = .returned (.int .i64 0) ∧ Below w.heap.size w w' := by
  obtain ⟨Av, nv, cv, rfl, -⟩ := nlen h
  have B := Lib.hid (fun w h => bits_N (.slice Av nv cv) 0 0 w h rfl)
  have HA := Lib.hid (bgrow (Below.refl w.heap.size w) (xbox neg (.slice Av nv cv) s f))
  have HH := Lib.hid (h.alloc (xbox neg (.slice Av nv cv) s f))
  clear h
  unfold xv xbox at *
  go_enter Tryz.func35, Tryz.ntmps35
  go_wp2_with fail
  with_reducible (refine (B.out _ HH.out).mono ?_)
  rintro e w1 ⟨rfl, rfl⟩
  go_wp2_with fail
  go_ret
  exact ⟨rfl, HA.out⟩
theorem run_max4 (P : Program) (w : World) (ts : Array TypeId) (t : TypeId) (x y z u m : Int) (h : max (max (max x y) z) u = m) : (Builtin.max_ ts t #[.int .i64 x, .int .i64 y, .int .i64 z, .int .i64 u]).run P w = .ok (.int .i64 m) w := by
  have e : ∀ a b : Int, (if a < b then b else a) = max a b := by intro a b; split <;> omega
  subst h
  simp [Builtin.max_, Builtin.max2, e]
theorem log_pos (neg : Bool) (v : Value) (s f : Int) (M : Nat) (w : World) (h : XOk w v M s f) (hM : 0 < M) (hs : -6000 ≤ s ∧ s ≤ 6000) (hf : -6000 ≤ f ∧ f ≤ 6000) (hb : bitsN M ≤ 9000) :
    Calls Tryz.prog 35 #[xv neg v s f] w fun e w' => (∃ k, e = .returned (.int .i64 k) ∧ Lg M s f k) ∧ Below w.heap.size w w' := by
  obtain ⟨Av, nv, cv, rfl, -⟩ := nlen h.isn
  have HA := Lib.hid (bgrow (Below.refl w.heap.size w) (xbox neg (.slice Av nv cv) s f))
  have HH := Lib.hid (h.below HA.out)
  have BX := Lib.hid (Bx.made w neg (.slice Av nv cv) s f)
  obtain ⟨nb, hnb⟩ : ∃ nb, bitsN M = nb := ⟨_, rfl⟩
  have B := Lib.hid (fun w h => bits_N (.slice Av nv cv) M nb w h hnb)
  have Z := Lib.hid (fun w h => size_X neg (.slice Av nv cv) s f M w h)
  obtain ⟨l1, l2, l3⟩ := lg_first hM hs hf hb
  obtain ⟨z, hz⟩ : ∃ z, (bitsN M : Int) + s + d5 f = z := ⟨_, rfl⟩
  rw [hz] at Z l1 l2 l3
  have hd : -14000 ≤ d5 f ∧ d5 f ≤ 14000 := by
    rcases d5_form f with ⟨h3, h4⟩ | ⟨h3, h4⟩ <;> rw [h4] <;> omega
  have hz1 : -30000 ≤ z ∧ z ≤ 30000 := by omega
  have t1 : ((nb : Int) == 0) = false := by
    have := bitsN_low hM; simp; omega
  have n1 : IntKind.i64.wrap (-s) = -s := IntWalk.i64_in _ (by omega)
  have n2 : IntKind.i64.wrap (-f) = -f := IntWalk.i64_in _ (by omega)
  have n3 : IntKind.i64.wrap (z + 6) = z + 6 := IntWalk.i64_in _ (by omega)
  have n4 : IntKind.i64.wrap ((z + 6) * 30103) = (z + 6) * 30103 := IntWalk.i64_in _ (by omega)
  have hqn : True := trivial
  obtain ⟨q, hq⟩ : ∃ q, ((z + 6) * 30103).tdiv 100000 = q := ⟨_, rfl⟩
  have hq1 : -20000 ≤ q ∧ q ≤ 20000 := by
    rw [← hq]
    rcases tdiv_form ((z + 6) * 30103) with ⟨h1, h2⟩ | ⟨h1, h2⟩ <;> rw [h2] <;> omega
  have n5 : IntKind.i64.wrap q = q := IntWalk.i64_in _ (by omega)
  have n6 : IntKind.i64.wrap (q + 1) = q + 1 := IntWalk.i64_in _ (by omega)
  obtain ⟨mx, hmx⟩ : ∃ mx, max (max (max s (-s)) f) (-f) = mx := ⟨_, rfl⟩
  have M4 : ∀ ts t w, (Builtin.max_ ts t #[.int .i64 s, .int .i64 (-s), .int .i64 f, .int .i64 (-f)]).run Tryz.prog w = .ok (.int .i64 mx) w := fun ts t w => run_max4 _ w ts t _ _ _ _ _ hmx
  have t2 : decide ((20000 : Int) < mx) = false := decide_eq_false (by omega)
  clear hmx
  have HM := Lib.hid (And.intro hM (And.intro hs hf))
  have HL : Hid (vx M s f < tenx (lgTop z + 1)) := Lib.hid l1
  unfold lgTop at HL l2 l3
  rw [hq] at HL l2 l3
  clear hM hs hf hb h hnb hz hd hz1 l1
  unfold xv xbox at *
  go_enter Tryz.func35, Tryz.ntmps35
  go_wp2_with fail
  with_reducible (refine (B.out _ HH.out.isn).mono ?_)
  rintro e w1 ⟨rfl, rfl⟩
  go_wp2_with fail
  have HB0 : Hid (Below w.heap.size w (w.alloc (Obj.cells #[Value.bool neg, Value.slice Av nv cv, Value.int IntKind.i64 s, Value.int IntKind.i64 f] 41))) := HA
  generalize w.alloc (Obj.cells #[Value.bool neg, Value.slice Av nv cv, Value.int IntKind.i64 s, Value.int IntKind.i64 f] 41) = WB at HH BX HB0 ⊢
  clear HA
  with_reducible (refine (Z.out _ HH.out).mono ?_)
  rintro e w1 ⟨rfl, b1⟩
  have K1 := Lib.hid (fun w' (h : Hid (Below WB.heap.size WB w')) => BX.out.below h.out)
  unfold Bx at K1
  have HW := Lib.hid (bthen HB0.out b1)
  have HB1 := Lib.hid b1
  clear b1 B M4 Z
  by_cases hq0 : 0 ≤ q
  · have t3 : decide ((0 : Int) ≤ q) = true := decide_eq_true hq0
    rw [if_pos hq0] at HL l2 l3
    clear hq0
    go_wp2_with fail
    go_loopw [3] (fun k wr => ∃ y : Int, k = .int .i64 y ∧ y ≤ 10000 ∧ Hid (-9800 ≤ y) ∧ Hid (vx M s f < tenx (y + 1)) ∧ Hid (Below WB.heap.size WB wr)) (fun k _ => (intOf k + 10000).toNat)
    case atStart => exact ⟨_, rfl, by omega, Lib.hid (by omega), HL, HB1⟩
    case round =>
      obtain ⟨y, rfl, hy, hlow, hup, hB⟩ := hrel
      obtain ⟨r, hr⟩ : ∃ r, xcmp M s f 1 y y = r := ⟨_, rfl⟩
      have hyl := hlow.out
      have CC := Lib.hid (fun A n c w' (h1 : XOk w' (.slice Av nv cv) M s f) (h2 : IsN w' (.slice A n c) 1) => cmp_X neg false (.slice Av nv cv) (.slice A n c) s f y y M 1 r w' h1 ⟨h2, by decide, by omega, by omega, by omega, by omega⟩ hr)
      have OO := Lib.hid (fun w' => of_one_F w')
      have KS := Lib.hid (fun w1 w2 (h : Hid (Below WB.heap.size WB w1)) (b : Below w1.heap.size w1 w2) => And.intro (hbthen h b) (K1.out w2 (hbthen h b)))
      have K0 := Lib.hid (And.intro (Lib.hid (bdrewN hB.out 1)) (K1.out _ (Lib.hid (bdrewN hB.out 1))))
      have m1 : IntKind.i64.wrap (y - 1) = y - 1 := IntWalk.i64_in _ (by omega)
      unfold xv at CC
      by_cases hlt : vx M s f < tenx y
      · have u1 : decide (r < 0) = true := by
          have := (cmpN_cases _ _).1.2 hlt
          unfold xcmp at hr
          rw [← hr]
          change decide (cmpN (vx M s f) (tenx y) < 0) = true
          rw [this]; rfl
        have HLT := Lib.hid hlt
        clear hr hlt hyl
        go_wp2_with fail
        go_region_held3 (fun w' => Hid (Below WB.heap.size WB w') ∧ (w'.cell? { block := w.heap.size, off := 0 } = some (.bool neg) ∧ w'.cell? { block := w.heap.size, off := 1 } = some (.slice Av nv cv) ∧ w'.cell? { block := w.heap.size, off := 2 } = some (.int .i64 s) ∧ w'.cell? { block := w.heap.size, off := 3 } = some (.int .i64 f)))
          (first | exact K0.out | exact KS.out _ _ (And.left (by assumption)) (by assumption))
          (first | ((go_at_call 44); (with_reducible (refine (OO.out _).mono ?_)); (rintro e w1 ⟨⟨rA, rn, rc, rfl, i1⟩, b1⟩))
                 | ((go_at_call 60); (with_reducible (refine (CC.out _ _ _ _ (HH.out.below (Hid.out (And.left (by assumption)))) (IsF.isn (by assumption))).mono ?_)); (rintro e w1 ⟨rfl, b1⟩)))
        rename_i hS
        have HS := Lib.hid hS.1.out
        clear hS
        go_wp2_with fail
        go_roundw
        case rel => exact ⟨y - 1, rfl, by omega, Lib.hid (by have := lg_low HM.out.1 HM.out.2.1 HM.out.2.2 hlow.out HLT.out; omega), Lib.hid (by rw [show y - 1 + 1 = y by omega]; exact HLT.out), HS⟩
        case measure => have := hlow.out; simp [intOf]; omega
      · have u1 : decide (r < 0) = false := by
          unfold xcmp at hr
          rw [← hr]
          change decide (cmpN (vx M s f) (tenx y) < 0) = false
          apply decide_eq_false
          intro h0
          rcases cmpN_cases3 (vx M s f) (tenx y) with ⟨_, h1⟩ | ⟨h1, _⟩ | ⟨h1, _⟩
          · exact hlt h1
          · rw [h1] at h0; omega
          · rw [h1] at h0; omega
        have HLT := Lib.hid hlt
        clear hr hlt hyl
        go_wp2_with fail
        go_region_held3 (fun w' => Hid (Below WB.heap.size WB w') ∧ (w'.cell? { block := w.heap.size, off := 0 } = some (.bool neg) ∧ w'.cell? { block := w.heap.size, off := 1 } = some (.slice Av nv cv) ∧ w'.cell? { block := w.heap.size, off := 2 } = some (.int .i64 s) ∧ w'.cell? { block := w.heap.size, off := 3 } = some (.int .i64 f)))
          (first | exact K0.out | exact KS.out _ _ (And.left (by assumption)) (by assumption))
          (first | ((go_at_call 44); (with_reducible (refine (OO.out _).mono ?_)); (rintro e w1 ⟨⟨rA, rn, rc, rfl, i1⟩, b1⟩))
                 | ((go_at_call 60); (with_reducible (refine (CC.out _ _ _ _ (HH.out.below (Hid.out (And.left (by assumption)))) (IsF.isn (by assumption))).mono ?_)); (rintro e w1 ⟨rfl, b1⟩)))
        rename_i hS
        have HS := Lib.hid hS.1.out
        clear hS
        go_wp2_with fail
        go_ret
        have h1 := hlow.out
        have h2 := HLT.out
        exact ⟨⟨y, rfl, by omega, by omega, Or.inr ⟨HM.out.1, by omega, hup.out⟩⟩, bthen HB0.out HS.out⟩
  · have t3 : decide ((0 : Int) ≤ q) = false := decide_eq_false hq0
    rw [if_neg hq0] at HL l2 l3
    clear hq0
    go_wp2_with fail
    go_loopw [3] (fun k wr => ∃ y : Int, k = .int .i64 y ∧ y ≤ 10000 ∧ Hid (-9800 ≤ y) ∧ Hid (vx M s f < tenx (y + 1)) ∧ Hid (Below WB.heap.size WB wr)) (fun k _ => (intOf k + 10000).toNat)
    case atStart => exact ⟨_, rfl, by omega, Lib.hid (by omega), HL, HB1⟩
    case round =>
      obtain ⟨y, rfl, hy, hlow, hup, hB⟩ := hrel
      obtain ⟨r, hr⟩ : ∃ r, xcmp M s f 1 y y = r := ⟨_, rfl⟩
      have hyl := hlow.out
      have CC := Lib.hid (fun A n c w' (h1 : XOk w' (.slice Av nv cv) M s f) (h2 : IsN w' (.slice A n c) 1) => cmp_X neg false (.slice Av nv cv) (.slice A n c) s f y y M 1 r w' h1 ⟨h2, by decide, by omega, by omega, by omega, by omega⟩ hr)
      have OO := Lib.hid (fun w' => of_one_F w')
      have KS := Lib.hid (fun w1 w2 (h : Hid (Below WB.heap.size WB w1)) (b : Below w1.heap.size w1 w2) => And.intro (hbthen h b) (K1.out w2 (hbthen h b)))
      have K0 := Lib.hid (And.intro (Lib.hid (bdrewN hB.out 1)) (K1.out _ (Lib.hid (bdrewN hB.out 1))))
      have m1 : IntKind.i64.wrap (y - 1) = y - 1 := IntWalk.i64_in _ (by omega)
      unfold xv at CC
      by_cases hlt : vx M s f < tenx y
      · have u1 : decide (r < 0) = true := by
          have := (cmpN_cases _ _).1.2 hlt
          unfold xcmp at hr
          rw [← hr]
          change decide (cmpN (vx M s f) (tenx y) < 0) = true
          rw [this]; rfl
        have HLT := Lib.hid hlt
        clear hr hlt hyl
        go_wp2_with fail
        go_region_held3 (fun w' => Hid (Below WB.heap.size WB w') ∧ (w'.cell? { block := w.heap.size, off := 0 } = some (.bool neg) ∧ w'.cell? { block := w.heap.size, off := 1 } = some (.slice Av nv cv) ∧ w'.cell? { block := w.heap.size, off := 2 } = some (.int .i64 s) ∧ w'.cell? { block := w.heap.size, off := 3 } = some (.int .i64 f)))
          (first | exact K0.out | exact KS.out _ _ (And.left (by assumption)) (by assumption))
          (first | ((go_at_call 44); (with_reducible (refine (OO.out _).mono ?_)); (rintro e w1 ⟨⟨rA, rn, rc, rfl, i1⟩, b1⟩))
                 | ((go_at_call 60); (with_reducible (refine (CC.out _ _ _ _ (HH.out.below (Hid.out (And.left (by assumption)))) (IsF.isn (by assumption))).mono ?_)); (rintro e w1 ⟨rfl, b1⟩)))
        rename_i hS
        have HS := Lib.hid hS.1.out
        clear hS
        go_wp2_with fail
        go_roundw
        case rel => exact ⟨y - 1, rfl, by omega, Lib.hid (by have := lg_low HM.out.1 HM.out.2.1 HM.out.2.2 hlow.out HLT.out; omega), Lib.hid (by rw [show y - 1 + 1 = y by omega]; exact HLT.out), HS⟩
        case measure => have := hlow.out; simp [intOf]; omega
      · have u1 : decide (r < 0) = false := by
          unfold xcmp at hr
          rw [← hr]
          change decide (cmpN (vx M s f) (tenx y) < 0) = false
          apply decide_eq_false
          intro h0
          rcases cmpN_cases3 (vx M s f) (tenx y) with ⟨_, h1⟩ | ⟨h1, _⟩ | ⟨h1, _⟩
          · exact hlt h1
          · rw [h1] at h0; omega
          · rw [h1] at h0; omega
        have HLT := Lib.hid hlt
        clear hr hlt hyl
        go_wp2_with fail
        go_region_held3 (fun w' => Hid (Below WB.heap.size WB w') ∧ (w'.cell? { block := w.heap.size, off := 0 } = some (.bool neg) ∧ w'.cell? { block := w.heap.size, off := 1 } = some (.slice Av nv cv) ∧ w'.cell? { block := w.heap.size, off := 2 } = some (.int .i64 s) ∧ w'.cell? { block := w.heap.size, off := 3 } = some (.int .i64 f)))
          (first | exact K0.out | exact KS.out _ _ (And.left (by assumption)) (by assumption))
          (first | ((go_at_call 44); (with_reducible (refine (OO.out _).mono ?_)); (rintro e w1 ⟨⟨rA, rn, rc, rfl, i1⟩, b1⟩))
                 | ((go_at_call 60); (with_reducible (refine (CC.out _ _ _ _ (HH.out.below (Hid.out (And.left (by assumption)))) (IsF.isn (by assumption))).mono ?_)); (rintro e w1 ⟨rfl, b1⟩)))
        rename_i hS
        have HS := Lib.hid hS.1.out
        clear hS
        go_wp2_with fail
        go_ret
        have h1 := hlow.out
        have h2 := HLT.out
        exact ⟨⟨y, rfl, by omega, by omega, Or.inr ⟨HM.out.1, by omega, hup.out⟩⟩, bthen HB0.out HS.out⟩
end Go.Proofs.YtlmeobokpibifaaGreatDoor
end

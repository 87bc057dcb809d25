/- package short's nearer, where nothing is left. Conditions: as each theorem names them. package short's has, of no upper boundary. Conditions: as each theorem names them. Print of a number of a form of the kind Signed. Conditions: as each theorem names them. package nat's Parse of one or two digits. Conditions: as each theorem names them. package nat's Parse of one or two digits, walked. Conditions: as each theorem names them. -/
import Derived.Test.YtlmeobokpibifaaGreatDoorG13
import Derived.Test.YtlmeobokpibifaaGreatDoorG14
import Derived.Test.YtlmeobokpibifaaGreatDoorG16
import Derived.Test.YtlmeobokpibifaaGreatDoorG15
import Derived.Shelf.Strings.SlTrimAscii
import Derived.Lib.SmallJoins
section
set_option linter.unusedSimpArgs false
set_option linter.unusedVariables false
set_option linter.unusedVariables false
set_option linter.unusedSimpArgs false
namespace Go.Proofs.YtlmeobokpibifaaGreatDoor
open Go.RowKit

set_option maxHeartbeats 2000000 in
/-- nearer, where nothing is left -/
theorem nearer_zero (A1 : Option Addr) (n1 c1 : Nat) (s1 : Int) (A2 : Option Addr) (n2 c2 : Nat) (s2 : Int) (ev : Bool) (v : Value) (s f k : Int) (N D : Nat) (one : Bool) (w : World) (hx : XOk w v N s f) (hD : vx N s f / tenx k = D) (hR : restN (vx N s f) (tenx k) = 0) (hk : -5000 ≤ k ∧ k ≤ 5000) (hfit : D + 1 < 2 ^ 200) 
    (HS1 : Hid (∀ A n c w', Below w.heap.size w w' → IsN w' (.slice A n c) D → Calls Tryz.prog 63 #[ivv A1 n1 c1 s1 A2 n2 c2 s2 ev, xv false (.slice A n c) k k] w' fun en w'' => en = .returned (.bool one) ∧ Below w'.heap.size w' w'')) :
    Calls Tryz.prog 36 #[ivv A1 n1 c1 s1 A2 n2 c2 s2 ev, xv false v s f, .int .i64 k] w fun en w' => (∃ A n c, en = .returned (.tuple #[.slice A n c, .bool one]) ∧ IsN w' (.slice A n c) D) ∧ Below w.heap.size w w' := by
  obtain ⟨Av, nv, cv, rfl, -⟩ := nlen hx.isn
  have HX := Lib.hid hx
  have FL := Lib.hid (fun w' q => floor_X false (.slice Av nv cv) s f k N w' q hk)
  rw [hD, hR] at FL
  obtain ⟨E, hE⟩ : ∃ E, E = 200 := ⟨_, rfl⟩
  rw [← hE] at hfit
  have AD := Lib.hid (fun u v' w' q1 q2 => add_N u v' D 1 E w' q1 q2 (by omega) (Nat.one_lt_two_pow (by omega)) (by omega))
  have hik : inB k = true := by unfold inB; simp; omega
  have hf1 : fitB D = true := fit_of' (show D < 2 ^ E by omega) (by omega)
  have hf2 : fitB (D + 1) = true := fit_of' hfit (by omega)
  have T1 := Lib.hid (fun u w' q => ten_of u D k w' q hf1 hik)
  have OO := Lib.hid (fun w' => of_one_F w')
  have HA := Lib.hid (bgrow (bgrow (Below.refl w.heap.size w) (ivbox A1 n1 c1 s1 A2 n2 c2 s2 ev)) (xbox false (.slice Av nv cv) s f))
  have IX : Hid (((w.alloc (ivbox A1 n1 c1 s1 A2 n2 c2 s2 ev)).alloc (xbox false (.slice Av nv cv) s f)).heap[w.heap.size]? = some (.cells #[.bool false, .slice A1 n1 c1, .int .i64 s1, .int .i64 0, .bool false, .slice A2 n2 c2, .int .i64 s2, .int .i64 0, .bool ev] 91 (0, 0))) := Lib.hid ((Deep.blk_alloc_lt _ _ _ (by simp)).trans (Deep.blk_alloc_new _ _))
  clear hx hD hR hk hfit hE hik hf1 hf2
  unfold ivv xv xbox ivbox at *
  go_enter Tryz.func36, Tryz.ntmps36
  go_wp2_with fail
  have X1 := Lib.hid (HX.out.below HA.out)
  generalize ((w.alloc (.cells #[.bool false, .slice A1 n1 c1, .int .i64 s1, .int .i64 0, .bool false, .slice A2 n2 c2, .int .i64 s2, .int .i64 0, .bool ev] 91)).alloc (.cells #[.bool false, .slice Av nv cv, .int .i64 s, .int .i64 f] 41)) = WB at HA IX X1 ⊢
  with_reducible (refine (FL.out _ X1.out).mono ?_)
  rintro en w1 ⟨⟨A3, n3, c3, rfl, i3⟩, b1⟩
  have HB1 := Lib.hid (bthen HA.out b1)
  have IX1 := Lib.hid ((b1.block _ (blk_lt IX.out)).trans IX.out)
  have I3 := Lib.hid i3
  clear b1 i3 X1 IX HA FL
  go_wp2_with fail
  with_reducible (refine (OO.out _).mono ?_)
  rintro en w2 ⟨⟨A4, n4, c4, rfl, i4⟩, b2⟩
  have HB2 := Lib.hid (bthen HB1.out b2)
  have IX2 := Lib.hid ((b2.block _ (blk_lt IX1.out)).trans IX1.out)
  have I3b := Lib.hid (I3.out.below b2)
  have I4 := Lib.hid i4.isn
  clear b2 i4 IX1 HB1 I3 OO
  go_wp2_with fail
  with_reducible (refine (AD.out _ _ _ I3b.out I4.out).mono ?_)
  rintro en w3 ⟨⟨r5, rfl, i5⟩, b3⟩
  obtain ⟨A5, n5, c5, rfl, -⟩ := nlen i5
  have HB3 := Lib.hid (bthen HB2.out b3)
  have IX3 := Lib.hid ((b3.block _ (blk_lt IX2.out)).trans IX2.out)
  have I3c := Lib.hid (I3b.out.below b3)
  have I5 := Lib.hid i5
  clear b3 i5 IX2 HB2 I3b I4 AD
  go_wp2_with fail
  have K1 : Hid (∀ w', Hid (Below w3.heap.size w3 w') → Hid (Below w3.heap.size w3 w') ∧ (w'.cell? { block := w.heap.size, off := 0 } = some (.bool false) ∧ w'.cell? { block := w.heap.size, off := 1 } = some (.slice A1 n1 c1) ∧ w'.cell? { block := w.heap.size, off := 2 } = some (.int .i64 s1) ∧ w'.cell? { block := w.heap.size, off := 3 } = some (.int .i64 0) ∧ w'.cell? { block := w.heap.size, off := 4 } = some (.bool false) ∧ w'.cell? { block := w.heap.size, off := 5 } = some (.slice A2 n2 c2) ∧ w'.cell? { block := w.heap.size, off := 6 } = some (.int .i64 s2) ∧ w'.cell? { block := w.heap.size, off := 7 } = some (.int .i64 0) ∧ w'.cell? { block := w.heap.size, off := 8 } = some (.bool ev))) := Lib.hid (fun w' h => ⟨h, nine_cells ((h.out.block _ (blk_lt IX3.out)).trans IX3.out)⟩)
  have KS := Lib.hid (fun w1 w2 (h : Hid (Below w3.heap.size w3 w1)) (b : Below w1.heap.size w1 w2) => K1.out w2 (hbthen h b))
  have K0 := Lib.hid (K1.out _ (Lib.hid (bdrewN (Below.refl w3.heap.size w3) 1)))
  refine wp_region_held_drew (S := fun w' => Hid (Below w3.heap.size w3 w') ∧ (w'.cell? { block := w.heap.size, off := 0 } = some (.bool false) ∧ w'.cell? { block := w.heap.size, off := 1 } = some (.slice A1 n1 c1) ∧ w'.cell? { block := w.heap.size, off := 2 } = some (.int .i64 s1) ∧ w'.cell? { block := w.heap.size, off := 3 } = some (.int .i64 0) ∧ w'.cell? { block := w.heap.size, off := 4 } = some (.bool false) ∧ w'.cell? { block := w.heap.size, off := 5 } = some (.slice A2 n2 c2) ∧ w'.cell? { block := w.heap.size, off := 6 } = some (.int .i64 s2) ∧ w'.cell? { block := w.heap.size, off := 7 } = some (.int .i64 0) ∧ w'.cell? { block := w.heap.size, off := 8 } = some (.bool ev))) (by kernel_rfl) K0.out (fun hH => ?_)
  refine take_p (i := 0) (oi := ?_) (v := ?_) ?_ ?_ ?_ ?_ ?_ ?_ ?_ hH ?_
  rotate_left 2
  · (simp only [List.getElem?_toArray, List.getElem?_cons_succ, List.getElem?_cons_zero]; rfl)
  · kernel_rfl
  · kernel_rfl
  · kernel_rfl
  · exact fun _ _ _ h => h
  · rfl
  · (intro w hSw; (try dsimp only at hSw); go_simp; all_goals (with_reducible rfl))
  try simp only [Act.put, List.setIfInBounds_toArray, List.set_cons_zero, List.set_cons_succ]
  refine take_p (i := 1) (oi := ?_) (v := ?_) ?_ ?_ ?_ ?_ ?_ ?_ ?_ hH ?_
  rotate_left 2
  · (simp only [List.getElem?_toArray, List.getElem?_cons_succ, List.getElem?_cons_zero]; rfl)
  · kernel_rfl
  · kernel_rfl
  · kernel_rfl
  · exact fun _ _ _ h => h
  · rfl
  · (intro w hSw; (try dsimp only at hSw); go_simp; all_goals (with_reducible rfl))
  try simp only [Act.put, List.setIfInBounds_toArray, List.set_cons_zero, List.set_cons_succ]
  refine take_p (i := 2) (oi := ?_) (v := ?_) ?_ ?_ ?_ ?_ ?_ ?_ ?_ hH ?_
  rotate_left 2
  · (simp only [List.getElem?_toArray, List.getElem?_cons_succ, List.getElem?_cons_zero]; rfl)
  · kernel_rfl
  · kernel_rfl
  · kernel_rfl
  · exact fun _ _ _ h => h
  · rfl
  · (intro w hSw; (try dsimp only at hSw); go_simp; all_goals (with_reducible rfl))
  try simp only [Act.put, List.setIfInBounds_toArray, List.set_cons_zero, List.set_cons_succ]
  refine take_p (i := 5) (oi := ?_) (v := ?_) ?_ ?_ ?_ ?_ ?_ ?_ ?_ hH ?_
  rotate_left 2
  · (simp only [List.getElem?_toArray, List.getElem?_cons_succ, List.getElem?_cons_zero]; rfl)
  · kernel_rfl
  · kernel_rfl
  · kernel_rfl
  · exact fun _ _ _ h => h
  · rfl
  · (intro w hSw; (try dsimp only at hSw); go_simp; all_goals (with_reducible rfl))
  try simp only [Act.put, List.setIfInBounds_toArray, List.set_cons_zero, List.set_cons_succ]
  refine take_p (i := 6) (oi := ?_) (v := ?_) ?_ ?_ ?_ ?_ ?_ ?_ ?_ hH ?_
  rotate_left 2
  · (simp only [List.getElem?_toArray, List.getElem?_cons_succ, List.getElem?_cons_zero]; rfl)
  · kernel_rfl
  · kernel_rfl
  · kernel_rfl
  · exact fun _ _ _ h => h
  · rfl
  · (intro w hSw; (try dsimp only at hSw); go_simp; all_goals (with_reducible rfl))
  try simp only [Act.put, List.setIfInBounds_toArray, List.set_cons_zero, List.set_cons_succ]
  refine wpAnyH_ready (rs := [3]) (by kernel_rfl) (by simp) ?_
  refine AllReadyH.cons rfl (fun K hK => ?_) AllReadyH.nil
  go_simp
  go_at_call 64
  with_reducible (refine (T1.out _ _ (I3c.out.below hH.1.out)).mono ?_)
  rintro en wz1 ⟨⟨A7, n7, c7, rfl, i7⟩, bz⟩
  go_simp
  refine hK.out _ _ (KS.out _ _ hH.1 bz) (fun hHeld => ?_)
  clear hK K
  replace hH := hHeld
  clear hHeld
  try simp only [Act.put, List.setIfInBounds_toArray, List.set_cons_zero, List.set_cons_succ]
  refine wpAnyH_ready (rs := [4]) (by kernel_rfl) (by simp) ?_
  refine AllReadyH.cons rfl (fun K hK => ?_) AllReadyH.nil
  go_simp
  go_at_call 63
  with_reducible (refine (HS1.out _ _ _ _ (bthen HB3.out hH.1.out) i7).mono ?_)
  rintro en wz2 ⟨rfl, bz2⟩
  go_simp
  refine hK.out _ _ (KS.out _ _ hH.1 bz2) (fun hHeld => ?_)
  clear hK K
  replace hH := hHeld
  clear hHeld
  try simp only [Act.put, List.setIfInBounds_toArray, List.set_cons_zero, List.set_cons_succ]
  refine take_p (i := 7) (oi := ?_) (v := ?_) ?_ ?_ ?_ ?_ ?_ ?_ ?_ hH ?_
  rotate_left 2
  · (simp only [List.getElem?_toArray, List.getElem?_cons_succ, List.getElem?_cons_zero]; rfl)
  · kernel_rfl
  · kernel_rfl
  · kernel_rfl
  · exact fun _ _ _ h => h
  · rfl
  · (intro w hSw; (try dsimp only at hSw); go_simp; all_goals (with_reducible rfl))
  try simp only [Act.put, List.setIfInBounds_toArray, List.set_cons_zero, List.set_cons_succ]
  refine take_u (i := 8) (oi := ?_) ?_ ?_ ?_ ?_ ?_ ?_ hH ?_
  rotate_left 1
  · (simp only [List.getElem?_toArray, List.getElem?_cons_succ, List.getElem?_cons_zero]; rfl)
  · kernel_rfl
  · kernel_rfl
  · kernel_rfl
  · exact fun _ _ _ h => h
  · rfl
  try simp only [Act.put, List.setIfInBounds_toArray, List.set_cons_zero, List.set_cons_succ]
  refine take_u (i := 9) (oi := ?_) ?_ ?_ ?_ ?_ ?_ ?_ hH ?_
  rotate_left 1
  · (simp only [List.getElem?_toArray, List.getElem?_cons_succ, List.getElem?_cons_zero]; rfl)
  · kernel_rfl
  · kernel_rfl
  · kernel_rfl
  · exact fun _ _ _ h => h
  · rfl
  try simp only [Act.put, List.setIfInBounds_toArray, List.set_cons_zero, List.set_cons_succ]
  refine take_u (i := 10) (oi := ?_) ?_ ?_ ?_ ?_ ?_ ?_ hH ?_
  rotate_left 1
  · (simp only [List.getElem?_toArray, List.getElem?_cons_succ, List.getElem?_cons_zero]; rfl)
  · kernel_rfl
  · kernel_rfl
  · kernel_rfl
  · exact fun _ _ _ h => h
  · rfl
  try simp only [Act.put, List.setIfInBounds_toArray, List.set_cons_zero, List.set_cons_succ]
  refine take_u (i := 11) (oi := ?_) ?_ ?_ ?_ ?_ ?_ ?_ hH ?_
  rotate_left 1
  · (simp only [List.getElem?_toArray, List.getElem?_cons_succ, List.getElem?_cons_zero]; rfl)
  · kernel_rfl
  · kernel_rfl
  · kernel_rfl
  · exact fun _ _ _ h => h
  · rfl
  try simp only [Act.put, List.setIfInBounds_toArray, List.set_cons_zero, List.set_cons_succ]
  refine take_u (i := 12) (oi := ?_) ?_ ?_ ?_ ?_ ?_ ?_ hH ?_
  rotate_left 1
  · (simp only [List.getElem?_toArray, List.getElem?_cons_succ, List.getElem?_cons_zero]; rfl)
  · kernel_rfl
  · kernel_rfl
  · kernel_rfl
  · exact fun _ _ _ h => h
  · rfl
  try simp only [Act.put, List.setIfInBounds_toArray, List.set_cons_zero, List.set_cons_succ]
  refine take_p (i := 13) (oi := ?_) (v := ?_) ?_ ?_ ?_ ?_ ?_ ?_ ?_ hH ?_
  rotate_left 2
  · (simp only [List.getElem?_toArray, List.getElem?_cons_succ, List.getElem?_cons_zero]; rfl)
  · kernel_rfl
  · kernel_rfl
  · kernel_rfl
  · exact fun _ _ _ h => h
  · rfl
  · (intro w hSw; (try dsimp only at hSw); go_simp; all_goals (with_reducible rfl))
  try simp only [Act.put, List.setIfInBounds_toArray, List.set_cons_zero, List.set_cons_succ]
  refine take_p (i := 14) (oi := ?_) (v := ?_) ?_ ?_ ?_ ?_ ?_ ?_ ?_ hH ?_
  rotate_left 2
  · (simp only [List.getElem?_toArray, List.getElem?_cons_succ, List.getElem?_cons_zero]; rfl)
  · kernel_rfl
  · kernel_rfl
  · kernel_rfl
  · exact fun _ _ _ h => h
  · rfl
  · (intro w hSw; (try dsimp only at hSw); go_simp; all_goals (with_reducible rfl))
  try simp only [Act.put, List.setIfInBounds_toArray, List.set_cons_zero, List.set_cons_succ]
  refine take_p (i := 15) (oi := ?_) (v := ?_) ?_ ?_ ?_ ?_ ?_ ?_ ?_ hH ?_
  rotate_left 2
  · (simp only [List.getElem?_toArray, List.getElem?_cons_succ, List.getElem?_cons_zero]; rfl)
  · kernel_rfl
  · kernel_rfl
  · kernel_rfl
  · exact fun _ _ _ h => h
  · rfl
  · (intro w hSw; (try dsimp only at hSw); go_simp; all_goals (with_reducible rfl))
  try simp only [Act.put, List.setIfInBounds_toArray, List.set_cons_zero, List.set_cons_succ]
  refine wpAnyH_done (by kernel_rfl) ?_ _
  have HB4 := Lib.hid (bthen HB3.out hH.1.out)
  have I9 := Lib.hid (I3c.out.below hH.1.out)
  clear hH bz bz2 i7 K1 KS K0 HS1 T1
  cases one
  all_goals
    go_wp2_with fail
    go_ret2
    exact ⟨⟨_, _, _, rfl, I9.out⟩, HB4.out⟩
end Go.Proofs.YtlmeobokpibifaaGreatDoor
end

section
set_option linter.unusedSimpArgs false
set_option linter.unusedVariables false
set_option linter.unusedVariables false
namespace Go.Proofs.YtlmeobokpibifaaGreatDoor
open Go.RowKit

theorem has_one (A1 : Option Addr) (n1 c1 : Nat) (s1 : Int) (A2 : Option Addr) (c2 : Nat) (ev : Bool) (v : Value) (s f : Int) (N N1 : Nat) (a : Int) (w : World) (h1 : XOk w (.slice A1 n1 c1) N1 s1 0) (hx : XOk w v N s f) (p1 : N1 ≠ 0) (ha : xcmp N s f N1 s1 0 = a) :
    Calls Tryz.prog 63 #[ivv A1 n1 c1 s1 A2 0 c2 0 ev, xv false v s f] w fun en w' => en = .returned (.bool (hasB a (-1) ev)) ∧ Below w.heap.size w w' := by
  obtain ⟨Av, nv, cv, rfl, -⟩ := nlen hx.isn
  have hz1 : 0 < n1 := by
    obtain ⟨_, _, _, e, hz⟩ := nlen h1.isn
    cases e; omega
  have ha3 : a = -1 ∨ a = 0 ∨ a = 1 := by
    rw [← ha]; unfold xcmp
    rcases cmpN_cases3 (vx N s f) (vx N1 s1 0) with ⟨h, _⟩ | ⟨h, _⟩ | ⟨h, _⟩ <;> rw [h] <;> simp
  have u1 : decide ((0 : Int) < (n1 : Int)) = true := decide_eq_true (by omega)
  have u1' : decide (0 < n1) = true := decide_eq_true hz1
  have CA := Lib.hid (fun w' q1 q2 => cmp_X false false (.slice Av nv cv) (.slice A1 n1 c1) s f s1 0 N N1 a w' q1 q2 ha)
  have H1 := Lib.hid h1
  have HX := Lib.hid hx
  have H3 := Lib.hid ha3
  have HA := Lib.hid (bgrow (bgrow (Below.refl w.heap.size w) (ivbox A1 n1 c1 s1 A2 0 c2 0 ev)) (xbox false (.slice Av nv cv) s f))
  have IX : Hid (((w.alloc (ivbox A1 n1 c1 s1 A2 0 c2 0 ev)).alloc (xbox false (.slice Av nv cv) s f)).heap[w.heap.size]? = some (.cells #[.bool false, .slice A1 n1 c1, .int .i64 s1, .int .i64 0, .bool false, .slice A2 0 c2, .int .i64 0, .int .i64 0, .bool ev] 91 (0, 0))) := Lib.hid ((Deep.blk_alloc_lt _ _ _ (by simp)).trans (Deep.blk_alloc_new _ _))
  have BX : Hid (xcells ((w.alloc (ivbox A1 n1 c1 s1 A2 0 c2 0 ev)).alloc (xbox false (.slice Av nv cv) s f)) (w.heap.size + 1) false (.slice Av nv cv) s f) := Lib.hid (by
    have := Deep.blk_alloc_new (w.alloc (ivbox A1 n1 c1 s1 A2 0 c2 0 ev)) (xbox false (.slice Av nv cv) s f)
    have e : (w.alloc (ivbox A1 n1 c1 s1 A2 0 c2 0 ev)).heap.size = w.heap.size + 1 := by simp
    rw [e] at this
    exact this)
  clear h1 hx p1 ha hz1 ha3
  unfold ivv xv xbox ivbox at *
  go_enter Tryz.func63, Tryz.ntmps63
  go_wp2_with fail
  have X1 := Lib.hid (HX.out.below HA.out)
  have L1 := Lib.hid (H1.out.below HA.out)
  generalize ((w.alloc (.cells #[.bool false, .slice A1 n1 c1, .int .i64 s1, .int .i64 0, .bool false, .slice A2 0 c2, .int .i64 0, .int .i64 0, .bool ev] 91)).alloc (.cells #[.bool false, .slice Av nv cv, .int .i64 s, .int .i64 f] 41)) = WB at HA IX BX X1 L1 ⊢
  with_reducible (refine (CA.out _ X1.out L1.out).mono ?_)
  rintro en w1 ⟨rfl, b1⟩
  have HB1 := Lib.hid (bthen HA.out b1)
  have IX1 := Lib.hid ((b1.block _ (blk_lt IX.out)).trans IX.out)
  clear b1 X1 L1 IX BX HA CA
  obtain ⟨g0, g1, g2, g3, g4, g5, g6, g7, g8⟩ := nine_cells IX1.out
  have ha3 := H3.out
  rcases ha3 with rfl | rfl | rfl <;> cases ev
  all_goals
    go_wp2_with fail
    go_ret
    exact ⟨rfl, HB1.out⟩
end Go.Proofs.YtlmeobokpibifaaGreatDoor
end

section
set_option linter.unusedSimpArgs false
set_option linter.unusedVariables false
set_option linter.unusedVariables false
namespace Go.Proofs.YtlmeobokpibifaaGreatDoor
open Go.RowKit

theorem xok_in {w : World} {v : Value} {N : Nat} {s f : Int} (h : IsN w v N) (hb : N < 2 ^ 200) (h1 : -10000 ≤ s ∧ s ≤ 10000) (h2 : -10000 ≤ f ∧ f ≤ 10000) : XOk w v N s f :=
  ⟨h, Nat.le_trans (bitsN_le' hb) (by decide), h1.1, h1.2, h2.1, h2.2⟩
/-- does a decimal lie between the boundaries? there may be no upper one -/
def hasU (D : Nat) (j : Int) (N1 : Nat) (s1 : Int) (N2 : Nat) (s2 : Int) (ev : Bool) : Bool := hasB (xcmp D j j N1 s1 0) (if N2 = 0 then -1 else xcmp D j j N2 s2 0) ev
theorem has_any (A1 : Option Addr) (n1 c1 : Nat) (s1 : Int) (A2 : Option Addr) (n2 c2 : Nat) (s2 : Int) (ev : Bool) (v : Value) (j : Int) (D N1 N2 : Nat) (one : Bool) (w : World) (h1 : IsN w (.slice A1 n1 c1) N1) (h2 : IsN w (.slice A2 n2 c2) N2) (hx : IsN w v D) (b1 : N1 < 2 ^ 200) (b2 : N2 < 2 ^ 200) (bd : D < 2 ^ 200) (e1 : -10000 ≤ s1 ∧ s1 ≤ 10000) (e2 : -10000 ≤ s2 ∧ s2 ≤ 10000) (ej : -10000 ≤ j ∧ j ≤ 10000) (p1 : N1 ≠ 0) (p2 : N2 = 0 → s2 = 0) (ho : hasU D j N1 s1 N2 s2 ev = one) :
    Calls Tryz.prog 63 #[ivv A1 n1 c1 s1 A2 n2 c2 s2 ev, xv false v j j] w fun en w' => en = .returned (.bool one) ∧ Below w.heap.size w w' := by
  unfold hasU at ho
  by_cases h0 : N2 = 0
  · subst h0
    obtain rfl := p2 rfl
    obtain ⟨A, n, c, F, e, hr, hn, hs⟩ := h2
    have hn0 : n = 0 := (nm_zero hn).1 hs
    cases e
    subst hn0
    rw [if_pos rfl] at ho
    rw [← ho]
    exact has_one A1 n1 c1 s1 A2 c2 ev v j j D N1 _ w (xok_in h1 b1 e1 (by decide)) (xok_in hx bd ej ej) p1 rfl
  · rw [if_neg h0] at ho
    rw [← ho]
    exact has_two A1 n1 c1 s1 A2 n2 c2 s2 ev v j j D N1 N2 _ _ w (xok_in h1 b1 e1 (by decide)) (xok_in h2 b2 e2 (by decide)) (xok_in hx bd ej ej) p1 h0 rfl rfl
/-- what is nearer, at a power of 10 -/
structure NRok (mm : Nat) (ee j : Int) (N1 : Nat) (s1 : Int) (N2 : Nat) (s2 : Int) (ev : Bool) (D : Nat) (one : Bool) : Prop where
  hD : vx mm ee 0 / tenx j = D
  h1 : hasU D j N1 s1 N2 s2 ev = one
  h2 : restN (vx mm ee 0) (tenx j) = 0 ∨ (0 < restN (vx mm ee 0) (tenx j) ∧ hasU (D + 1) j N1 s1 N2 s2 ev = false)
  hs : D + 1 < 2 ^ 200
theorem nearer_any (A1 : Option Addr) (n1 c1 : Nat) (s1 : Int) (A2 : Option Addr) (n2 c2 : Nat) (s2 : Int) (ev : Bool) (v : Value) (ee j : Int) (mm D N1 N2 : Nat) (one : Bool) (w : World) (h1 : IsN w (.slice A1 n1 c1) N1) (h2 : IsN w (.slice A2 n2 c2) N2) (hx : IsN w v mm) (b1 : N1 < 2 ^ 200) (b2 : N2 < 2 ^ 200) (bd : mm < 2 ^ 200) (e1 : -10000 ≤ s1 ∧ s1 ≤ 10000) (e2 : -10000 ≤ s2 ∧ s2 ≤ 10000) (ej : -5000 ≤ j ∧ j ≤ 5000) (em : -10000 ≤ ee ∧ ee ≤ 10000) (p1 : N1 ≠ 0) (p2 : N2 = 0 → s2 = 0) (K : NRok mm ee j N1 s1 N2 s2 ev D one) :
    Calls Tryz.prog 36 #[ivv A1 n1 c1 s1 A2 n2 c2 s2 ev, xv false v ee 0, .int .i64 j] w fun en w' => (∃ A n c, en = .returned (.tuple #[.slice A n c, .bool one]) ∧ IsN w' (.slice A n c) D) ∧ Below w.heap.size w w' := by
  have hs := K.hs
  rcases K.h2 with hR | ⟨hR, h2'⟩
  · exact nearer_zero A1 n1 c1 s1 A2 n2 c2 s2 ev v ee 0 j mm D one w (xok_in hx bd em (by decide)) K.hD hR ej K.hs
      (Lib.hid (fun A n c w' hb hi => has_any A1 n1 c1 s1 A2 n2 c2 s2 ev _ j D N1 N2 one w' (h1.below hb) (h2.below hb) hi b1 b2 (by omega) e1 e2 (by omega) p1 p2 K.h1))
  · exact nearer_rest A1 n1 c1 s1 A2 n2 c2 s2 ev v ee 0 j mm N1 N2 D _ one w (xok_in h1 b1 e1 (by decide)) (xok_in h2 b2 e2 (by decide)) (xok_in hx bd em (by decide)) K.hD rfl ej K.hs hR
      (Lib.hid (fun A n c w' hb hi => has_any A1 n1 c1 s1 A2 n2 c2 s2 ev _ j D N1 N2 one w' (h1.below hb) (h2.below hb) hi b1 b2 (by omega) e1 e2 (by omega) p1 p2 K.h1))
      (Lib.hid (fun A n c w' hb hi => has_any A1 n1 c1 s1 A2 n2 c2 s2 ev _ j (D + 1) N1 N2 false w' (h1.below hb) (h2.below hb) hi b1 b2 (by omega) e1 e2 (by omega) p1 p2 h2'))

theorem key_of {n wd man : Nat} {bs : Int} {tp nf nn m : Nat} (S : SF wd man bs tp) {p key ms hs sn : Nat} {neg : Bool} (P : PT wd p key ms hs sn neg) (mm : Nat) (ee : Int) (hn : 1 ≤ n) (hn2 : n < 15) (w : World) (h : SW w n wd man bs tp nf nn m)
    (DE : Calls Tryz.prog 9 #[.int .i64 n, .int .u64 p] w fun e w'' => e = .returned (.tuple #[.agg #[.int .i64 2, .bool neg, .int .u64 mm, .int .i64 ee], .int .i64 0]) ∧ Below w.heap.size w w'') :
    Calls Tryz.prog 56 #[.int .i64 n, .int .u64 p] w fun e w' => e = .returned (.tuple #[.bool neg, .int .u64 key, .int .i64 0]) ∧ Below w.heap.size w w' :=
  key_signed n wd man bs tp nf nn m p key mm neg 2 ee w h.num h.form (Or.inr rfl) (Lib.hid DE)
    (Lib.hid (fun w' hF hN => shape_of n 2 wd man bs tp nf nn m 179 w' hn hn2 hF hN))
    (Lib.hid (fun w' => parts_signed S P w'))
theorem print_signed {n wd man : Nat} {bs : Int} {tp nf nn m : Nat} (S : SF wd man bs tp) {p key ms hs sn : Nat} {neg : Bool} (P : PT wd p key ms hs sn neg) (c mm N1 N2 D : Nat) (ee ee1 ee2 k0 kf : Int) (ev : Bool) (out : List UInt8) (hn : 1 ≤ n) (hn2 : n < 15) (hk1 : 1 ≤ key) (hk : key ≤ tp)
    (hnf : nf ≠ 0 → key ≠ nf) (hc : Lib.ctz 64 (sg man key) = c) (hmm : sg man key / 2 ^ c = mm) (hee : ((ex1 man key : Int) + 1) - bs - man + c = ee)
    (e1 : 2 * sg man (key - 1) + 1 = N1) (e2 : (ex1 man (key - 1) : Int) - bs - man = ee1)
    (hup : (key < tp ∧ 2 * sg man key + 1 = N2 ∧ (ex1 man key : Int) - bs - man = ee2) ∨ (key = tp ∧ nf = 0 ∧ nn = 0 ∧ N2 = 0 ∧ ee2 = 0))
    (hev : decide (key % 2 = 0) = ev) (hL : Lg mm ee 0 k0) (hkf : kf ≤ k0) (hkk : -5000 ≤ kf ∧ k0 ≤ 5000) (h10 : D % 10 ≠ 0) (hD : D < 2 ^ 200) (hm0 : 0 < mm)
    (NK : ∀ j, kf ≤ j → j ≤ k0 → ∃ D', NRok mm ee j N1 ee1 N2 ee2 ev D' (decide (j = kf)) ∧ (j = kf → D' = D))
    (LA : Hid (∀ v w', IsN w' v D → Calls Tryz.prog 32 #[.agg #[.bool neg, v, .int .i64 kf]] w' fun e w'' => e = .returned (tv out) ∧ Below w'.heap.size w' w''))
    (w : World) (h : SW w n wd man bs tp nf nn m) :
    Calls Tryz.prog 7 #[.int .i64 n, .int .u64 p] w fun e w' => e = .returned (.tuple #[tv out, .int .i64 0]) ∧ Below w.heap.size w w' := by
  have m2 := S.m2
  have b1 := S.b1
  have b2 := S.b2
  have t1 := S.t1
  have hf1 := ex1_le (field_le hk S.t2)
  have hf2 := ex1_le (field_le (show key - 1 ≤ tp by omega) S.t2)
  have g1 := sg_bits man key m2
  have g2 := sg_bits man (key - 1) m2
  have hg0 : sg man key ≠ 0 := by
    intro h0
    rw [h0] at hmm
    simp at hmm
    omega
  have hc64 : c < 64 := by rw [← hc]; exact (Lib.lowest_bit 64 _ hg0 (by omega)).2
  have hmb : mm < 2305843009213693952 := by
    rw [← hmm]
    exact Nat.lt_of_le_of_lt (Nat.div_le_self _ _) (by omega)
  have h200 : (2305843009213693952 : Nat) < 2 ^ 200 := by decide
  have p1 : N1 ≠ 0 := by omega
  have p2 : N2 = 0 → ee2 = 0 := by
    rcases hup with ⟨_, h, _⟩ | ⟨_, _, _, _, h⟩
    · omega
    · intro _; exact h
  have bN1 : N1 < 2 ^ 200 := by omega
  have bN2 : N2 < 2 ^ 200 := by
    rcases hup with ⟨_, h, _⟩ | ⟨_, _, _, h, _⟩ <;> omega
  have be2 : -10000 ≤ ee2 ∧ ee2 ≤ 10000 := by
    rcases hup with ⟨_, _, h⟩ | ⟨_, _, _, _, h⟩ <;> omega
  have DE : ∀ w', Below w.heap.size w w' → Calls Tryz.prog 9 #[.int .i64 n, .int .u64 p] w' fun e w'' => e = .returned (.tuple #[.agg #[.int .i64 2, .bool neg, .int .u64 mm, .int .i64 ee], .int .i64 0]) ∧ Below w'.heap.size w' w'' :=
    fun w' hb => decode_signed S P c mm ee hn hn2 hk (by omega) hnf hc hmm hee w' (h.below hb)
  have KE : ∀ w', Below w.heap.size w w' → Calls Tryz.prog 56 #[.int .i64 n, .int .u64 p] w' fun e w'' => e = .returned (.tuple #[.bool neg, .int .u64 key, .int .i64 0]) ∧ Below w'.heap.size w' w'' :=
    fun w' hb => key_of S P mm ee hn hn2 w' (h.below hb) (DE w' hb)
  have LI : ∀ w', Below w.heap.size w w' → Calls Tryz.prog 34 #[.int .i64 n, .int .u64 p] w' fun en w'' => (∃ A1 n1 c1 A2 n2 c2, en = .returned (.tuple #[xv false (.slice A1 n1 c1) ee1 0, xv false (.slice A2 n2 c2) ee2 0, .bool ev, .int .i64 0]) ∧ IsN w'' (.slice A1 n1 c1) N1 ∧ IsN w'' (.slice A2 n2 c2) N2) ∧ Below w'.heap.size w' w'' := by
    intro w' hb
    have B1 : ∀ w2, Below w'.heap.size w' w2 → Calls Tryz.prog 57 #[.int .i64 n, .int .u64 ((key - 1 : Nat) : Int)] w2 fun en w'' => (∃ A n c, en = .returned (xv false (.slice A n c) ee1 0) ∧ IsN w'' (.slice A n c) N1) ∧ Below w2.heap.size w2 w'' := by
      intro w2 hb2
      have hB := behind_signed S (key - 1) hn hn2 (by omega) w2 ((h.below hb).below hb2)
      rw [e1, e2] at hB
      exact hB
    rcases hup with ⟨hlt, q1, q2⟩ | ⟨rfl, rfl, rfl, rfl, rfl⟩
    · have B2 : ∀ w2, Below w'.heap.size w' w2 → Calls Tryz.prog 57 #[.int .i64 n, .int .u64 key] w2 fun en w'' => (∃ A n c, en = .returned (xv false (.slice A n c) ee2 0) ∧ IsN w'' (.slice A n c) N2) ∧ Below w2.heap.size w2 w'' := by
        intro w2 hb2
        have hB := behind_signed S key hn hn2 hk w2 ((h.below hb).below hb2)
        rw [q1, q2] at hB
        exact hB
      have := limits_two n wd man bs tp nf nn m 179 key p N1 N2 neg ee1 ee2 w' hn hn2 (h.below hb).form (h.below hb).num hk1 hlt (by omega) (Lib.hid (fun w2 hb2 => KE w2 (bthen hb hb2))) (Lib.hid B1) (Lib.hid B2)
      rw [hev] at this
      exact this
    · have := limits_one n wd man bs m 179 key p N1 neg ee1 w' hn hn2 (h.below hb).form (h.below hb).num hk1 (by omega) (Lib.hid (fun w2 hb2 => KE w2 (bthen hb hb2))) (Lib.hid B1)
      rw [hev] at this
      refine this.mono ?_
      rintro en w2 ⟨⟨A1, n1, c1, r, hi⟩, hb3⟩
      exact ⟨⟨A1, n1, c1, none, 0, 0, r, hi, isN_none _⟩, hb3⟩
  have SH : ∀ w', Below w.heap.size w w' → Calls Tryz.prog 15 #[.int .i64 n, .int .u64 p] w' fun en w'' => (∃ A n c, en = .returned (.tuple #[.agg #[.bool neg, .slice A n c, .int .i64 kf], .int .i64 0]) ∧ IsN w'' (.slice A n c) D) ∧ Below w'.heap.size w' w'' := by
    intro w' hb
    refine short_of n p mm N1 N2 D ee ee1 ee2 k0 kf neg ev w' hm0 (Nat.le_trans (bitsN_le' (b := 61) (by omega)) (by decide)) (by omega) hL hkf hD h10 hkk
      (Lib.hid (fun w2 hb2 => finite_fin n p mm neg ee w2 (by omega) (by unfold inB; simp; omega) (Lib.hid (fun w3 hb3 => DE w3 (bthen (bthen hb hb2) hb3)))))
      (Lib.hid (fun w2 hb2 => LI w2 (bthen hb hb2)))
      (Lib.hid ?_)
    intro A1 n1 c1 A2 n2 c2 Av nv cv j w2 hb2 i1 i2 iv hj1 hj2
    obtain ⟨D', K, hE⟩ := NK j hj1 hj2
    refine (nearer_any A1 n1 c1 ee1 A2 n2 c2 ee2 ev _ ee j mm D' N1 N2 _ w2 i1 i2 iv bN1 bN2 (by omega) (by omega) be2 (by omega) (by omega) p1 p2 K).mono ?_
    rintro en w3 ⟨⟨A, n, c, r, hi⟩, hb3⟩
    exact ⟨⟨A, n, c, r, fun e => (hE e) ▸ hi⟩, hb3⟩
  exact print_fin n p out w (Lib.hid (told_fin n p mm D neg ee kf out w (Lib.hid DE) (Lib.hid SH) LA))
end Go.Proofs.YtlmeobokpibifaaGreatDoor
end

section
set_option linter.unusedSimpArgs false
set_option linter.unusedVariables false
set_option linter.unusedVariables false
namespace Go.Proofs.YtlmeobokpibifaaGreatDoor
open Go.RowKit

abbrev tens : List UInt8 := [48, 49, 50, 51, 52, 53, 54, 55, 56, 57]
theorem trim_all (l : List UInt8) (w : World) (hl : l.length ≤ 1000) (h : Lib.trimS l tens = []) :
    Calls Tryz.prog 101 #[tv l, tv tens] w fun e w' => e = .returned (tv []) ∧ Below w.heap.size w w' := by
  have T := Any.strings_Trim_laid Tryz.lays160 (by kernel_rfl) ⟨l.toArray⟩ ⟨tens.toArray⟩ w (by show l.toArray.size ≤ _; simp; omega) (by decide) (fun j b hb => by
    have : ∀ b ∈ tens, b.toNat < 128 := by decide
    exact this b (List.mem_of_getElem? hb))
  change Calls _ _ _ _ (fun e w' => e = .returned (tv (Lib.trimS l tens)) ∧ _) at T
  rw [h] at T
  exact T
theorem pu_ok (l : List UInt8) (N : Nat) (w : World) (hl : l.length ≤ 1000) (h : Lib.parseUintB 64 l = .ok N) :
    Calls Tryz.prog 102 #[tv l, .int .i64 10, .int .i64 64] w fun e w' => e = .returned (.tuple #[.int .u64 N, .nilIface]) ∧ Below w.heap.size w w' := by
  refine (Tryz.strconv_ParseUint_10_at64_ok ⟨l.toArray⟩ (by show l.toArray.size ≤ _; simp; omega) N h w).mono ?_
  rintro e w' ⟨rfl, hw⟩
  refine ⟨rfl, ?_⟩
  rcases hw with rfl | rfl
  · exact Below.refl _ _
  · exact _root_.Go.Joins.below_bytesWorld _ _ _ _ (Nat.le_refl _)
end Go.Proofs.YtlmeobokpibifaaGreatDoor
end

section
set_option linter.unusedSimpArgs false
set_option linter.unusedVariables false
set_option linter.unusedVariables false
namespace Go.Proofs.YtlmeobokpibifaaGreatDoor
open Go.RowKit

/-- where Parse stands: at first; at the end -/
def NPr (w : World) (l : List UInt8) (N : Nat) (t : List UInt8) (o : Value) (wr : World) : Prop :=
  (t = l ∧ o = .slice none 0 0 ∧ Hid (Below w.heap.size w wr)) ∨ (t = [] ∧ Hid (IsN wr o N) ∧ Hid (Below w.heap.size w wr))
theorem nil_empty : ((⟨#[]⟩ : ByteArray).toList.isEmpty) = true := by rw [Lib.toList_data]; rfl

set_option maxRecDepth 100000 in
set_option maxHeartbeats 2000000 in
theorem np_1 (c : UInt8) (N : Nat) (w : World) (hc : c ≠ 48) (hT : Lib.trimS [c] tens = []) (hP : Lib.parseUintB 64 [c] = .ok N) (hN : N < 18446744073709551616) :
    Calls Tryz.prog 72 #[tv [c]] w fun en w' => (∃ A n c, en = .returned (.tuple #[.slice A n c, .bool true]) ∧ IsN w' (.slice A n c) N) ∧ Below w.heap.size w w' := by
  have TR := Lib.hid (fun w' => trim_all [c] w' (by simp) hT)
  have PU := Lib.hid (fun w' => pu_ok [c] N w' (by simp) hP)
  have O1 : Hid (∀ w', Calls Tryz.prog 44 #[.int .u64 10000000000000000000] w' fun e w'' => (∃ r, e = .returned r ∧ IsN w'' r 10000000000000000000) ∧ Below w'.heap.size w' w'') := Lib.hid (fun w' => of_N 10000000000000000000 (by decide) w')
  have O2 := Lib.hid (fun w' => of_N N hN w')
  have MU := Lib.hid (fun u v w' q1 q2 => mul_N u v 0 10000000000000000000 64 64 w' q1 q2 (by decide) (by decide) (by decide) (by decide))
  obtain ⟨E, hE⟩ : ∃ E, E = 64 := ⟨_, rfl⟩
  have hNE : N < 2 ^ E := by rw [hE]; exact hN
  have AD := Lib.hid (fun u v w' q1 q2 => add_N u v 0 N E w' q1 q2 (by rw [hE]; decide) hNE (by rw [hE]; decide))
  rw [Nat.zero_mul] at MU
  rw [Nat.zero_add] at AD
  have hcn : c.toNat ≠ 48 := fun e => hc (by rw [← UInt8.toNat_inj]; exact e)
  have y0 : ((c.toNat : Int) == 48) = false := by simp; omega
  have y1 : ((({ data := #[c] } : ByteArray)[0]'(by show 0 < 1; decide)).toNat : Int) = (c.toNat : Int) := rfl
  have e1 : (({ data := #[c] } : ByteArray).toList.isEmpty) = false := by rw [Lib.toList_data]; rfl
  have e0 := nil_empty
  clear hT hP hN hc hcn hE hNE
  unfold tens tv at *
  have HB := Lib.hid (Below.refl w.heap.size w)
  go_enter Tryz.func72, Tryz.ntmps72
  go_wp2_with fail
  with_reducible (refine (TR.out _).mono ?_)
  rintro e w1 ⟨rfl, b1⟩
  have HB1 := Lib.hid b1
  clear b1 TR
  go_wp2_with fail
  go_loopw [0, 4] (fun s o wr => ∃ t : List UInt8, s = .string ⟨t.toArray⟩ ∧ Hid (NPr w [c] N t o wr)) (fun s _ _ => match s with | .string b => b.size | _ => 0)
  case atStart => exact ⟨[c], rfl, Lib.hid (Or.inl ⟨rfl, rfl, HB1⟩)⟩
  case round =>
    obtain ⟨t, rfl, hR⟩ := hrel
    rcases hR.out with ⟨rfl, rfl, HR⟩ | ⟨rfl, HI, HR⟩
    · clear hR
      go_wp2_with fail
      have hx : (({ data := #[c] } : ByteArray).extract 0 1) = ⟨#[c]⟩ := rfl
      rw [hx]
      with_reducible (refine (PU.out _).mono ?_)
      rintro e w2 ⟨rfl, b2⟩
      have HR2 := Lib.hid (bthen HR.out b2)
      clear b2 HR PU
      go_wp2_with fail
      with_reducible (refine (O1.out _).mono ?_)
      rintro e w3 ⟨⟨r3, rfl, i3⟩, b3⟩
      obtain ⟨A3, n3, c3, rfl, -⟩ := nlen i3
      have HR3 := Lib.hid (bthen HR2.out b3)
      have I3 := Lib.hid i3
      clear b3 HR2 O1 i3
      go_wp2_with fail
      with_reducible (refine (MU.out _ _ _ (isN_nil _) I3.out).mono ?_)
      rintro e w4 ⟨⟨r4, rfl, i4⟩, b4⟩
      obtain ⟨A4, n4, c4, rfl, -⟩ := nlen i4
      have HR4 := Lib.hid (bthen HR3.out b4)
      have I4 := Lib.hid i4
      clear b4 HR3 MU i4 I3
      go_wp2_with fail
      with_reducible (refine (O2.out _).mono ?_)
      rintro e w5 ⟨⟨r5, rfl, i5⟩, b5⟩
      obtain ⟨A5, n5, c5, rfl, -⟩ := nlen i5
      have HR5 := Lib.hid (bthen HR4.out b5)
      have I5 := Lib.hid i5
      have I4b := Lib.hid (I4.out.below b5)
      clear b5 HR4 O2 i5 I4
      go_wp2_with fail
      with_reducible (refine (AD.out _ _ _ I4b.out I5.out).mono ?_)
      rintro e w6 ⟨⟨r6, rfl, i6⟩, b6⟩
      obtain ⟨A6, n6, c6, rfl, -⟩ := nlen i6
      have HR6 := Lib.hid (bthen HR5.out b6)
      have I6 := Lib.hid i6
      clear b6 HR5 AD i6 I4b I5
      go_wp2_with fail
      have hz : (({ data := #[c] } : ByteArray).extract 1 1) = ⟨#[]⟩ := rfl
      go_roundw
      case rel => exact ⟨[], rfl, Lib.hid (Or.inr ⟨rfl, I6, HR6⟩)⟩
      case measure => (show 0 < 1; decide)
    · clear hR
      obtain ⟨A, n4, c4, rfl, -⟩ := nlen HI.out
      go_wp2_with fail
      go_ret2
      exact ⟨⟨_, _, _, rfl, HI.out⟩, HR.out⟩

set_option maxRecDepth 100000 in
set_option maxHeartbeats 2000000 in
theorem np_2 (c d : UInt8) (N : Nat) (w : World) (hc : c ≠ 48) (hT : Lib.trimS [c, d] tens = []) (hP : Lib.parseUintB 64 [c, d] = .ok N) (hN : N < 18446744073709551616) :
    Calls Tryz.prog 72 #[tv [c, d]] w fun en w' => (∃ A n c, en = .returned (.tuple #[.slice A n c, .bool true]) ∧ IsN w' (.slice A n c) N) ∧ Below w.heap.size w w' := by
  have TR := Lib.hid (fun w' => trim_all [c, d] w' (by simp) hT)
  have PU := Lib.hid (fun w' => pu_ok [c, d] N w' (by simp) hP)
  have O1 : Hid (∀ w', Calls Tryz.prog 44 #[.int .u64 10000000000000000000] w' fun e w'' => (∃ r, e = .returned r ∧ IsN w'' r 10000000000000000000) ∧ Below w'.heap.size w' w'') := Lib.hid (fun w' => of_N 10000000000000000000 (by decide) w')
  have O2 := Lib.hid (fun w' => of_N N hN w')
  have MU := Lib.hid (fun u v w' q1 q2 => mul_N u v 0 10000000000000000000 64 64 w' q1 q2 (by decide) (by decide) (by decide) (by decide))
  obtain ⟨E, hE⟩ : ∃ E, E = 64 := ⟨_, rfl⟩
  have hNE : N < 2 ^ E := by rw [hE]; exact hN
  have AD := Lib.hid (fun u v w' q1 q2 => add_N u v 0 N E w' q1 q2 (by rw [hE]; decide) hNE (by rw [hE]; decide))
  rw [Nat.zero_mul] at MU
  rw [Nat.zero_add] at AD
  have hcn : c.toNat ≠ 48 := fun e => hc (by rw [← UInt8.toNat_inj]; exact e)
  have y0 : ((c.toNat : Int) == 48) = false := by simp; omega
  have y1 : ((({ data := #[c, d] } : ByteArray)[0]'(by show 0 < 2; decide)).toNat : Int) = (c.toNat : Int) := rfl
  have e1 : (({ data := #[c, d] } : ByteArray).toList.isEmpty) = false := by rw [Lib.toList_data]; rfl
  have e0 := nil_empty
  clear hT hP hN hc hcn hE hNE
  unfold tens tv at *
  have HB := Lib.hid (Below.refl w.heap.size w)
  go_enter Tryz.func72, Tryz.ntmps72
  go_wp2_with fail
  with_reducible (refine (TR.out _).mono ?_)
  rintro e w1 ⟨rfl, b1⟩
  have HB1 := Lib.hid b1
  clear b1 TR
  go_wp2_with fail
  go_loopw [0, 4] (fun s o wr => ∃ t : List UInt8, s = .string ⟨t.toArray⟩ ∧ Hid (NPr w [c, d] N t o wr)) (fun s _ _ => match s with | .string b => b.size | _ => 0)
  case atStart => exact ⟨[c, d], rfl, Lib.hid (Or.inl ⟨rfl, rfl, HB1⟩)⟩
  case round =>
    obtain ⟨t, rfl, hR⟩ := hrel
    rcases hR.out with ⟨rfl, rfl, HR⟩ | ⟨rfl, HI, HR⟩
    · clear hR
      go_wp2_with fail
      have hx : (({ data := #[c, d] } : ByteArray).extract 0 2) = ⟨#[c, d]⟩ := rfl
      rw [hx]
      with_reducible (refine (PU.out _).mono ?_)
      rintro e w2 ⟨rfl, b2⟩
      have HR2 := Lib.hid (bthen HR.out b2)
      clear b2 HR PU
      go_wp2_with fail
      with_reducible (refine (O1.out _).mono ?_)
      rintro e w3 ⟨⟨r3, rfl, i3⟩, b3⟩
      obtain ⟨A3, n3, c3, rfl, -⟩ := nlen i3
      have HR3 := Lib.hid (bthen HR2.out b3)
      have I3 := Lib.hid i3
      clear b3 HR2 O1 i3
      go_wp2_with fail
      with_reducible (refine (MU.out _ _ _ (isN_nil _) I3.out).mono ?_)
      rintro e w4 ⟨⟨r4, rfl, i4⟩, b4⟩
      obtain ⟨A4, n4, c4, rfl, -⟩ := nlen i4
      have HR4 := Lib.hid (bthen HR3.out b4)
      have I4 := Lib.hid i4
      clear b4 HR3 MU i4 I3
      go_wp2_with fail
      with_reducible (refine (O2.out _).mono ?_)
      rintro e w5 ⟨⟨r5, rfl, i5⟩, b5⟩
      obtain ⟨A5, n5, c5, rfl, -⟩ := nlen i5
      have HR5 := Lib.hid (bthen HR4.out b5)
      have I5 := Lib.hid i5
      have I4b := Lib.hid (I4.out.below b5)
      clear b5 HR4 O2 i5 I4
      go_wp2_with fail
      with_reducible (refine (AD.out _ _ _ I4b.out I5.out).mono ?_)
      rintro e w6 ⟨⟨r6, rfl, i6⟩, b6⟩
      obtain ⟨A6, n6, c6, rfl, -⟩ := nlen i6
      have HR6 := Lib.hid (bthen HR5.out b6)
      have I6 := Lib.hid i6
      clear b6 HR5 AD i6 I4b I5
      go_wp2_with fail
      have hz : (({ data := #[c, d] } : ByteArray).extract 2 2) = ⟨#[]⟩ := rfl
      go_roundw
      case rel => exact ⟨[], rfl, Lib.hid (Or.inr ⟨rfl, I6, HR6⟩)⟩
      case measure => (show 0 < 2; decide)
    · clear hR
      obtain ⟨A, n4, c4, rfl, -⟩ := nlen HI.out
      go_wp2_with fail
      go_ret2
      exact ⟨⟨_, _, _, rfl, HI.out⟩, HR.out⟩
end Go.Proofs.YtlmeobokpibifaaGreatDoor
end

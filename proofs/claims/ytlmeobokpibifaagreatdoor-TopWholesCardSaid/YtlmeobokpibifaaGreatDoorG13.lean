/- package short's ten, has; package nat's Even. Conditions: as each theorem names them. package short's nearer. Conditions: as each theorem names them. package exact's Of of a finite value: the number lies in new memory. Conditions: as each theorem names them. Forms of the kind Signed: behind, within, Nearest, Round of a number; Decode, Key, Limits of a pattern. Conditions: as each theorem names them. -/
import Derived.Test.YtlmeobokpibifaaGreatDoorG12
import Derived.Test.YtlmeobokpibifaaGreatDoorG08
import Derived.Deep.RegionHeld3
import Derived.Test.YtlmeobokpibifaaGreatDoorG11
import Derived.Test.YtlmeobokpibifaaGreatDoorG07
section
set_option linter.unusedSimpArgs false
set_option linter.unusedVariables false
set_option linter.unusedVariables false
namespace Go.Proofs.YtlmeobokpibifaaGreatDoor
open Go.RowKit

theorem even_N (v : Value) (N : Nat) (b : Bool) (w : World) (h : IsN w v N) (hb : decide (N % 2 = 1) = b) :
    Calls Tryz.prog 65 #[v] w fun e w' => e = .returned (.bool (!b)) ∧ w = w' := by
  have B : Hid (Calls Tryz.prog 89 #[v, .int .i64 0] w fun e w' => e = .returned (.bool b) ∧ w = w') := Lib.hid (bit_N v N 0 b w h (by decide) (by rw [Nat.pow_zero, Nat.div_one]; exact hb))
  obtain ⟨A, n, c, rfl, -⟩ := nlen h
  clear h hb
  go_enter Tryz.func65, Tryz.ntmps65
  go_wp2_with fail
  with_reducible (refine (B.out).mono ?_)
  rintro e w1 ⟨rfl, rfl⟩
  go_wp2_with fail
  go_ret
  exact ⟨rfl, rfl⟩

theorem ten_of (v : Value) (N : Nat) (k : Int) (w : World) (h : IsN w v N) (hf : fitB N = true) (hk : inB k = true) :
    Calls Tryz.prog 64 #[v, .int .i64 k] w fun en w' => (∃ A n c, en = .returned (xv false (.slice A n c) k k) ∧ IsN w' (.slice A n c) N) ∧ Below w.heap.size w w' := by
  have HA := Lib.hid (bgrow (Below.refl w.heap.size w) (xbox false (.slice none 0 0) 0 0))
  have BX : Hid (xcells (w.alloc (xbox false (.slice none 0 0) 0 0)) w.heap.size false (.slice none 0 0) 0 0) := Lib.hid (Deep.blk_alloc_new _ _)
  obtain ⟨Av, nv, cv, rfl, -⟩ := nlen h
  have DE := Lib.hid (fun w' h => dec_N false (.slice Av nv cv) N k w' h)
  have HH := Lib.hid h
  have HFK := Lib.hid (And.intro hf hk)
  clear h hf hk
  unfold xv xbox at *
  go_enter Tryz.func64, Tryz.ntmps64
  go_wp2_with fail
  have HH1 := Lib.hid (HH.out.below HA.out)
  generalize (w.alloc (.cells #[.bool false, .slice none 0 0, .int .i64 0, .int .i64 0] 41)) = WB at HA BX HH1 ⊢
  with_reducible (refine (DE.out _ HH1.out).mono ?_)
  rintro en w1 ⟨⟨r, rfl, hr⟩, b1⟩
  rcases hr with ⟨_, A, n, c, hf, rfl⟩ | ⟨h, _⟩
  · have HB1 := Lib.hid (bgrow (bthen HA.out b1) (.cells #[.bool false, .slice A n c, .int .i64 k, .int .i64 k] 41))
    have BX2 := Lib.hid (show xcells (w1.alloc (.cells #[.bool false, .slice A n c, .int .i64 k, .int .i64 k] 41)) _ _ _ _ _ from (Deep.blk_alloc_lt _ _ _ (blk_lt ((b1.block _ (blk_lt BX.out)).trans BX.out))).trans ((b1.block _ (blk_lt BX.out)).trans BX.out))
    have HV := Lib.hid (hf.isn.alloc (.cells #[.bool false, .slice A n c, .int .i64 k, .int .i64 k] 41))
    have hne := Nat.ne_of_lt (blk_lt ((b1.block _ (blk_lt BX.out)).trans BX.out))
    obtain ⟨d0, d1, d2, d3, f0, f1, f2, f3⟩ := four_free BX2.out
    clear b1 hf BX HA
    unfold xv
    go_wp2_with fail
    have P4 := put4 (a' := .bool false) (b' := .slice A n c) (c' := .int .i64 k) (d' := .int .i64 k) BX2.out
    have HB3 := Lib.hid (below4 HB1.out (g := w.heap.size) (Nat.le_refl _) (.bool false) (.slice A n c) (.int .i64 k) (.int .i64 k))
    have HV3 := Lib.hid (isn_put4 HV.out BX2.out (.bool false) (.slice A n c) (.int .i64 k) (.int .i64 k))
    clear d0 d1 d2 d3 f0 f1 f2 f3 hne
    obtain ⟨d0, d1, d2, d3, -⟩ := four_free P4
    refine bodyPost_ret (v := .agg #[.bool false, .slice A n c, .int .i64 k, .int .i64 k]) (by simp [results, Tryz.results64, go_sem, d0, d1, d2, d3]) rfl ⟨⟨_, _, _, rfl, HV3.out⟩, HB3.out⟩
  · exfalso
    rw [HFK.out.1, HFK.out.2] at h
    exact absurd h (by decide)

/-- a short.interval of two boundaries -/
def ivv (A1 : Option Addr) (n1 c1 : Nat) (s1 : Int) (A2 : Option Addr) (n2 c2 : Nat) (s2 : Int) (ev : Bool) : Value := .agg #[.bool false, .slice A1 n1 c1, .int .i64 s1, .int .i64 0, .bool false, .slice A2 n2 c2, .int .i64 s2, .int .i64 0, .bool ev]
abbrev ivbox (A1 : Option Addr) (n1 c1 : Nat) (s1 : Int) (A2 : Option Addr) (n2 c2 : Nat) (s2 : Int) (ev : Bool) : Obj := .cells #[.bool false, .slice A1 n1 c1, .int .i64 s1, .int .i64 0, .bool false, .slice A2 n2 c2, .int .i64 s2, .int .i64 0, .bool ev] 91
/-- does a size lie in it? -/
def hasB (a b : Int) (ev : Bool) : Bool := (decide (a = 1) || (decide (a = 0) && ev)) && (decide (b = -1) || (decide (b = 0) && ev))
theorem nine_cells {w : World} {g : Nat} {a b c d e f h i j : Value} {t : TypeId} (hb : w.heap[g]? = some (.cells #[a, b, c, d, e, f, h, i, j] t (0, 0))) :
    w.cell? { block := g, off := 0 } = some a ∧ w.cell? { block := g, off := 1 } = some b ∧ w.cell? { block := g, off := 2 } = some c ∧ w.cell? { block := g, off := 3 } = some d ∧ w.cell? { block := g, off := 4 } = some e ∧ w.cell? { block := g, off := 5 } = some f ∧ w.cell? { block := g, off := 6 } = some h ∧ w.cell? { block := g, off := 7 } = some i ∧ w.cell? { block := g, off := 8 } = some j := by
  refine ⟨?_, ?_, ?_, ?_, ?_, ?_, ?_, ?_, ?_⟩ <;> simp [World.cell?, hb]
theorem has_two (A1 : Option Addr) (n1 c1 : Nat) (s1 : Int) (A2 : Option Addr) (n2 c2 : Nat) (s2 : Int) (ev : Bool) (v : Value) (s f : Int) (N N1 N2 : Nat) (a b : Int) (w : World) (h1 : XOk w (.slice A1 n1 c1) N1 s1 0) (h2 : XOk w (.slice A2 n2 c2) N2 s2 0) (hx : XOk w v N s f) (p1 : N1 ≠ 0) (p2 : N2 ≠ 0) (ha : xcmp N s f N1 s1 0 = a) (hb : xcmp N s f N2 s2 0 = b) :
    Calls Tryz.prog 63 #[ivv A1 n1 c1 s1 A2 n2 c2 s2 ev, xv false v s f] w fun en w' => en = .returned (.bool (hasB a b ev)) ∧ Below w.heap.size w w' := by
  obtain ⟨Av, nv, cv, rfl, -⟩ := nlen hx.isn
  have hz1 : 0 < n1 := by
    obtain ⟨_, _, _, e, hz⟩ := nlen h1.isn
    cases e; omega
  have hz2 : 0 < n2 := by
    obtain ⟨_, _, _, e, hz⟩ := nlen h2.isn
    cases e; omega
  have ha3 : a = -1 ∨ a = 0 ∨ a = 1 := by
    rw [← ha]; unfold xcmp
    rcases cmpN_cases3 (vx N s f) (vx N1 s1 0) with ⟨h, _⟩ | ⟨h, _⟩ | ⟨h, _⟩ <;> rw [h] <;> simp
  have hb3 : b = -1 ∨ b = 0 ∨ b = 1 := by
    rw [← hb]; unfold xcmp
    rcases cmpN_cases3 (vx N s f) (vx N2 s2 0) with ⟨h, _⟩ | ⟨h, _⟩ | ⟨h, _⟩ <;> rw [h] <;> simp
  have u1 : decide ((0 : Int) < (n1 : Int)) = true := decide_eq_true (by omega)
  have u1' : decide (0 < n1) = true := decide_eq_true hz1
  have u2 : decide ((0 : Int) < (n2 : Int)) = true := decide_eq_true (by omega)
  have u2' : decide (0 < n2) = true := decide_eq_true hz2
  have CA := Lib.hid (fun w' q1 q2 => cmp_X false false (.slice Av nv cv) (.slice A1 n1 c1) s f s1 0 N N1 a w' q1 q2 ha)
  have CB := Lib.hid (fun w' q1 q2 => cmp_X false false (.slice Av nv cv) (.slice A2 n2 c2) s f s2 0 N N2 b w' q1 q2 hb)
  have H1 := Lib.hid h1
  have H2 := Lib.hid h2
  have HX := Lib.hid hx
  have H3 := Lib.hid (And.intro ha3 hb3)
  have HA := Lib.hid (bgrow (bgrow (Below.refl w.heap.size w) (ivbox A1 n1 c1 s1 A2 n2 c2 s2 ev)) (xbox false (.slice Av nv cv) s f))
  have IX : Hid (((w.alloc (ivbox A1 n1 c1 s1 A2 n2 c2 s2 ev)).alloc (xbox false (.slice Av nv cv) s f)).heap[w.heap.size]? = some (.cells #[.bool false, .slice A1 n1 c1, .int .i64 s1, .int .i64 0, .bool false, .slice A2 n2 c2, .int .i64 s2, .int .i64 0, .bool ev] 91 (0, 0))) := Lib.hid ((Deep.blk_alloc_lt _ _ _ (by simp)).trans (Deep.blk_alloc_new _ _))
  have BX : Hid (xcells ((w.alloc (ivbox A1 n1 c1 s1 A2 n2 c2 s2 ev)).alloc (xbox false (.slice Av nv cv) s f)) (w.heap.size + 1) false (.slice Av nv cv) s f) := Lib.hid (by
    have := Deep.blk_alloc_new (w.alloc (ivbox A1 n1 c1 s1 A2 n2 c2 s2 ev)) (xbox false (.slice Av nv cv) s f)
    have e : (w.alloc (ivbox A1 n1 c1 s1 A2 n2 c2 s2 ev)).heap.size = w.heap.size + 1 := by simp
    rw [e] at this
    exact this)
  clear h1 h2 hx p1 p2 ha hb hz1 hz2 ha3 hb3
  unfold ivv xv xbox ivbox at *
  go_enter Tryz.func63, Tryz.ntmps63
  go_wp2_with fail
  have X1 := Lib.hid (HX.out.below HA.out)
  have L1 := Lib.hid (H1.out.below HA.out)
  have L2 := Lib.hid (H2.out.below HA.out)
  generalize ((w.alloc (.cells #[.bool false, .slice A1 n1 c1, .int .i64 s1, .int .i64 0, .bool false, .slice A2 n2 c2, .int .i64 s2, .int .i64 0, .bool ev] 91)).alloc (.cells #[.bool false, .slice Av nv cv, .int .i64 s, .int .i64 f] 41)) = WB at HA IX BX X1 L1 L2 ⊢
  with_reducible (refine (CA.out _ X1.out L1.out).mono ?_)
  rintro en w1 ⟨rfl, b1⟩
  have HB1 := Lib.hid (bthen HA.out b1)
  have X2 := Lib.hid (X1.out.below b1)
  have L3 := Lib.hid (L2.out.below b1)
  have IX1 := Lib.hid ((b1.block _ (blk_lt IX.out)).trans IX.out)
  have BX1 := Lib.hid (show xcells w1 _ _ _ _ _ from (b1.block _ (blk_lt BX.out)).trans BX.out)
  clear b1 X1 L1 L2 IX BX HA
  obtain ⟨d0, d1, d2, d3, -⟩ := four_free BX1.out
  obtain ⟨g0, g1, g2, g3, g4, g5, g6, g7, g8⟩ := nine_cells IX1.out
  go_wp2_with fail
  with_reducible (refine (CB.out _ X2.out L3.out).mono ?_)
  rintro en w2 ⟨rfl, b2⟩
  have HB2 := Lib.hid (bthen HB1.out b2)
  have IX2 := Lib.hid ((b2.block _ (blk_lt IX1.out)).trans IX1.out)
  clear b2 X2 L3 IX1 BX1 HB1 d0 d1 d2 d3 g0 g1 g2 g3 g4 g5 g6 g7 g8 CA CB
  obtain ⟨g0, g1, g2, g3, g4, g5, g6, g7, g8⟩ := nine_cells IX2.out
  obtain ⟨ha3, hb3⟩ := H3.out
  rcases ha3 with rfl | rfl | rfl <;> rcases hb3 with rfl | rfl | rfl <;> cases ev
  all_goals
    go_wp2_with fail
    go_ret
    exact ⟨rfl, HB2.out⟩
end Go.Proofs.YtlmeobokpibifaaGreatDoor
end

section
set_option linter.unusedSimpArgs false
set_option linter.unusedVariables false
set_option linter.unusedVariables false
namespace Go.Proofs.YtlmeobokpibifaaGreatDoor
open Go.RowKit

theorem bitsN_le' {M b : Nat} (h : M < 2 ^ b) : bitsN M ≤ b := by
  rcases Nat.eq_zero_or_pos M with h0 | h0
  · subst h0; exact Nat.zero_le _
  · have h1 := (bitsN_low h0)
    have := (Nat.pow_lt_pow_iff_right (a := 2) (by decide)).1 (Nat.lt_of_le_of_lt h1.1 h)
    omega
theorem fit_of' {N b : Nat} (h : N < 2 ^ b) (hb : b ≤ 8192) : fitB N = true := by
  unfold fitB
  exact decide_eq_true (Nat.lt_of_lt_of_le h (Nat.pow_le_pow_right (by decide) hb))
set_option maxRecDepth 100000 in
set_option maxHeartbeats 2000000 in
/-- nearer, of whose two neighbours the greater one does not lie in the interval, where something is left -/
theorem nearer_rest (A1 : Option Addr) (n1 c1 : Nat) (s1 : Int) (A2 : Option Addr) (n2 c2 : Nat) (s2 : Int) (ev : Bool) (v : Value) (s f k : Int) (N N1 N2 D : Nat) (R : Int) (one : Bool) (w : World) (h1 : XOk w (.slice A1 n1 c1) N1 s1 0) (h2 : XOk w (.slice A2 n2 c2) N2 s2 0) (hx : XOk w v N s f) (hD : vx N s f / tenx k = D) (hR : restN (vx N s f) (tenx k) = R) (hk : -5000 ≤ k ∧ k ≤ 5000) (hfit : D + 1 < 2 ^ 200) (hR0 : 0 < R)
    (HS1 : Hid (∀ A n c w', Below w.heap.size w w' → IsN w' (.slice A n c) D → Calls Tryz.prog 63 #[ivv A1 n1 c1 s1 A2 n2 c2 s2 ev, xv false (.slice A n c) k k] w' fun en w'' => en = .returned (.bool one) ∧ Below w'.heap.size w' w''))
    (HS2 : Hid (∀ A n c w', Below w.heap.size w w' → IsN w' (.slice A n c) (D + 1) → Calls Tryz.prog 63 #[ivv A1 n1 c1 s1 A2 n2 c2 s2 ev, xv false (.slice A n c) k k] w' fun en w'' => en = .returned (.bool false) ∧ Below w'.heap.size w' w'')) :
    Calls Tryz.prog 36 #[ivv A1 n1 c1 s1 A2 n2 c2 s2 ev, xv false v s f, .int .i64 k] w fun en w' => (∃ A n c, en = .returned (.tuple #[.slice A n c, .bool one]) ∧ IsN w' (.slice A n c) D) ∧ Below w.heap.size w w' := by
  obtain ⟨Av, nv, cv, rfl, -⟩ := nlen hx.isn
  have HX := Lib.hid hx
  have FL := Lib.hid (fun w' q => floor_X false (.slice Av nv cv) s f k N w' q hk)
  rw [hD, hR] at FL
  obtain ⟨E, hE⟩ : ∃ E, E = 200 := ⟨_, rfl⟩
  rw [← hE] at hfit
  have AD := Lib.hid (fun u v' w' q1 q2 => add_N u v' D 1 E w' q1 q2 (by omega) (Nat.one_lt_two_pow (by omega)) (by omega))
  have hik : inB k = true := by unfold inB; simp; omega
  have hf1 : fitB D = true := fit_of' (show D < 2 ^ E by omega) (by omega)
  have hf2 : fitB (D + 1) = true := fit_of' hfit (by omega)
  have T1 := Lib.hid (fun u w' q => ten_of u D k w' q hf1 hik)
  have T2 := Lib.hid (fun u w' q => ten_of u (D + 1) k w' q hf2 hik)
  have OO := Lib.hid (fun w' => of_one_F w')
  have u1 : decide (0 < R) = true := decide_eq_true hR0
  have HA := Lib.hid (bgrow (bgrow (Below.refl w.heap.size w) (ivbox A1 n1 c1 s1 A2 n2 c2 s2 ev)) (xbox false (.slice Av nv cv) s f))
  have IX : Hid (((w.alloc (ivbox A1 n1 c1 s1 A2 n2 c2 s2 ev)).alloc (xbox false (.slice Av nv cv) s f)).heap[w.heap.size]? = some (.cells #[.bool false, .slice A1 n1 c1, .int .i64 s1, .int .i64 0, .bool false, .slice A2 n2 c2, .int .i64 s2, .int .i64 0, .bool ev] 91 (0, 0))) := Lib.hid ((Deep.blk_alloc_lt _ _ _ (by simp)).trans (Deep.blk_alloc_new _ _))
  clear hx hD hR hk hfit hR0 hE hik hf1 hf2 h1 h2
  unfold ivv xv xbox ivbox at *
  go_enter Tryz.func36, Tryz.ntmps36
  go_wp2_with fail
  have X1 := Lib.hid (HX.out.below HA.out)
  generalize ((w.alloc (.cells #[.bool false, .slice A1 n1 c1, .int .i64 s1, .int .i64 0, .bool false, .slice A2 n2 c2, .int .i64 s2, .int .i64 0, .bool ev] 91)).alloc (.cells #[.bool false, .slice Av nv cv, .int .i64 s, .int .i64 f] 41)) = WB at HA IX X1 ⊢
  with_reducible (refine (FL.out _ X1.out).mono ?_)
  rintro en w1 ⟨⟨A3, n3, c3, rfl, i3⟩, b1⟩
  have HB1 := Lib.hid (bthen HA.out b1)
  have IX1 := Lib.hid ((b1.block _ (blk_lt IX.out)).trans IX.out)
  have I3 := Lib.hid i3
  clear b1 i3 X1 IX HA FL
  go_wp2_with fail
  with_reducible (refine (OO.out _).mono ?_)
  rintro en w2 ⟨⟨A4, n4, c4, rfl, i4⟩, b2⟩
  have HB2 := Lib.hid (bthen HB1.out b2)
  have IX2 := Lib.hid ((b2.block _ (blk_lt IX1.out)).trans IX1.out)
  have I3b := Lib.hid (I3.out.below b2)
  have I4 := Lib.hid i4.isn
  clear b2 i4 IX1 HB1 I3 OO
  go_wp2_with fail
  with_reducible (refine (AD.out _ _ _ I3b.out I4.out).mono ?_)
  rintro en w3 ⟨⟨r5, rfl, i5⟩, b3⟩
  obtain ⟨A5, n5, c5, rfl, -⟩ := nlen i5
  have HB3 := Lib.hid (bthen HB2.out b3)
  have IX3 := Lib.hid ((b3.block _ (blk_lt IX2.out)).trans IX2.out)
  have I3c := Lib.hid (I3b.out.below b3)
  have I5 := Lib.hid i5
  clear b3 i5 IX2 HB2 I3b I4 AD
  go_wp2_with fail
  have K1 : Hid (∀ w', Hid (Below w3.heap.size w3 w') → Hid (Below w3.heap.size w3 w') ∧ (w'.cell? { block := w.heap.size, off := 0 } = some (.bool false) ∧ w'.cell? { block := w.heap.size, off := 1 } = some (.slice A1 n1 c1) ∧ w'.cell? { block := w.heap.size, off := 2 } = some (.int .i64 s1) ∧ w'.cell? { block := w.heap.size, off := 3 } = some (.int .i64 0) ∧ w'.cell? { block := w.heap.size, off := 4 } = some (.bool false) ∧ w'.cell? { block := w.heap.size, off := 5 } = some (.slice A2 n2 c2) ∧ w'.cell? { block := w.heap.size, off := 6 } = some (.int .i64 s2) ∧ w'.cell? { block := w.heap.size, off := 7 } = some (.int .i64 0) ∧ w'.cell? { block := w.heap.size, off := 8 } = some (.bool ev))) := Lib.hid (fun w' h => ⟨h, nine_cells ((h.out.block _ (blk_lt IX3.out)).trans IX3.out)⟩)
  have KS := Lib.hid (fun w1 w2 (h : Hid (Below w3.heap.size w3 w1)) (b : Below w1.heap.size w1 w2) => K1.out w2 (hbthen h b))
  have K0 := Lib.hid (K1.out _ (Lib.hid (bdrewN (Below.refl w3.heap.size w3) 1)))
  go_region_held3 (fun w' => Hid (Below w3.heap.size w3 w') ∧ (w'.cell? { block := w.heap.size, off := 0 } = some (.bool false) ∧ w'.cell? { block := w.heap.size, off := 1 } = some (.slice A1 n1 c1) ∧ w'.cell? { block := w.heap.size, off := 2 } = some (.int .i64 s1) ∧ w'.cell? { block := w.heap.size, off := 3 } = some (.int .i64 0) ∧ w'.cell? { block := w.heap.size, off := 4 } = some (.bool false) ∧ w'.cell? { block := w.heap.size, off := 5 } = some (.slice A2 n2 c2) ∧ w'.cell? { block := w.heap.size, off := 6 } = some (.int .i64 s2) ∧ w'.cell? { block := w.heap.size, off := 7 } = some (.int .i64 0) ∧ w'.cell? { block := w.heap.size, off := 8 } = some (.bool ev)))
    (first | assumption | exact K0.out | exact KS.out _ _ (And.left (by assumption)) (by assumption))
    (first | ((go_at_call 64); (with_reducible (refine (T1.out _ _ (I3c.out.below (Hid.out (And.left (by assumption))))).mono ?_)); (rintro en wz ⟨⟨A7, n7, c7, rfl, i7⟩, b7⟩))
           | ((go_at_call 64); (with_reducible (refine (T2.out _ _ (I5.out.below (Hid.out (And.left (by assumption))))).mono ?_)); (rintro en wz ⟨⟨A8, n8, c8, rfl, i8⟩, b8⟩))
           | ((go_at_call 63); (with_reducible (refine (HS1.out _ _ _ _ (bthen HB3.out (Hid.out (And.left (by assumption)))) (by first | assumption | exact IsN.below (by assumption) (by assumption) | exact IsN.below (IsN.below (by assumption) (by assumption)) (by assumption))).mono ?_)); (rintro en wz ⟨rfl, b9⟩))
           | ((go_at_call 63); (with_reducible (refine (HS2.out _ _ _ _ (bthen HB3.out (Hid.out (And.left (by assumption)))) (by first | assumption | exact IsN.below (by assumption) (by assumption) | exact IsN.below (IsN.below (by assumption) (by assumption)) (by assumption))).mono ?_)); (rintro en wz ⟨rfl, b10⟩)))
  all_goals
    rename_i hS
    have HS := Lib.hid hS.1.out
    have HB4 := Lib.hid (bthen HB3.out hS.1.out)
    have I9 := Lib.hid (I3c.out.below hS.1.out)
    clear hS b7 b8 b9 b10 i7 i8 K1 KS K0 HS1 HS2 T1 T2
    cases one
    all_goals
      go_wp2_with fail
      go_ret2
      exact ⟨⟨_, _, _, rfl, I9.out⟩, HB4.out⟩
end Go.Proofs.YtlmeobokpibifaaGreatDoor
end

section
set_option linter.unusedSimpArgs false
set_option linter.unusedVariables false
set_option linter.unusedVariables false
namespace Go.Proofs.YtlmeobokpibifaaGreatDoor
open Go.RowKit

theorem of_fin (neg : Bool) (m : Nat) (e : Int) (w : World) (hm : m < 18446744073709551616) (es : inB e = true) :
    Calls Tryz.prog 55 #[vv 2 neg m e] w fun en w' => (∃ A n c, en = .returned (.tuple #[xv neg (.slice A n c) e 0, .bool true]) ∧ IsF w.heap.size w' (.slice A n c) m) ∧ Below w.heap.size w w' := by
  have HA := Lib.hid (bgrow (Below.refl w.heap.size w) (vbox 2 neg m e))
  have IE := Lib.hid (fun w => in_any e _ w rfl)
  have ON := Lib.hid (fun w => of_F m hm w)
  unfold vv vbox xv at *
  rw [es] at IE
  go_enter Tryz.func55, Tryz.ntmps55
  go_wp2_with fail
  with_reducible (refine (IE.out _).mono ?_)
  rintro en w1 ⟨rfl, rfl⟩
  go_wp2_with fail
  generalize hWB : (w.alloc (Obj.cells #[Value.int IntKind.i64 2, Value.bool neg, Value.int IntKind.u64 m, Value.int IntKind.i64 e] 31)).alloc (Obj.cells #[Value.bool false, Value.slice none 0 0, Value.int IntKind.i64 0, Value.int IntKind.i64 0] 41) = WB
  have HB : Hid (Below w.heap.size w WB) := Lib.hid (by rw [← hWB]; exact bgrow (bgrow (Below.refl _ _) _) _)
  have W0 : Wr WB (w.heap.size + 1) 4 41 := by
    rw [← hWB]
    have := Wr.new (w.alloc (Obj.cells #[Value.int IntKind.i64 2, Value.bool neg, Value.int IntKind.u64 m, Value.int IntKind.i64 e] 31)) #[Value.bool false, Value.slice none 0 0, Value.int IntKind.i64 0, Value.int IntKind.i64 0] 41 4 rfl
    simpa using this
  have V0 : WB.cell? { block := w.heap.size, off := 0 } = some (.int .i64 2) ∧ WB.cell? { block := w.heap.size, off := 1 } = some (.bool neg) ∧ WB.cell? { block := w.heap.size, off := 2 } = some (.int .u64 m) ∧ WB.cell? { block := w.heap.size, off := 3 } = some (.int .i64 e) := by
    rw [← hWB]; refine ⟨?_, ?_, ?_, ?_⟩ <;> simp [go_sem]
  have VC : ∀ w', Below WB.heap.size WB w' → w'.cell? { block := w.heap.size, off := 0 } = some (.int .i64 2) ∧ w'.cell? { block := w.heap.size, off := 1 } = some (.bool neg) ∧ w'.cell? { block := w.heap.size, off := 2 } = some (.int .u64 m) ∧ w'.cell? { block := w.heap.size, off := 3 } = some (.int .i64 e) := by
    intro w' hb
    have hg : w.heap.size < WB.heap.size := World.block_lt_of_cell? WB _ V0.1
    exact ⟨(hb.cell hg).trans V0.1, (hb.cell hg).trans V0.2.1, (hb.cell hg).trans V0.2.2.1, (hb.cell hg).trans V0.2.2.2⟩
  have K0 := Lib.hid (fun w' (h : Hid (Below WB.heap.size WB w')) => And.intro (Lib.hid (bthen HB.out h.out)) (VC _ h.out))
  have ON3 := Lib.hid (fun w' (hb : Hid (Below WB.heap.size WB w')) => (ON.out w').mono fun e w'' (h : (∃ A n c, e = Ending.returned (.slice A n c) ∧ IsF w'.heap.size w'' (.slice A n c) m) ∧ Below w'.heap.size w' w'') => And.intro (show ∃ A n c, e = Ending.returned (.slice A n c) ∧ Hid (IsF WB.heap.size w'' (.slice A n c) m) by obtain ⟨⟨A, n, c, h1, h2⟩, _⟩ := h; exact ⟨A, n, c, h1, Lib.hid (h2.mono hb.out.size)⟩) (And.intro (Lib.hid (bthen hb.out h.2)) (W0.below (bthen hb.out h.2)).four))
  obtain ⟨x0, x1, x2, x3, ⟨wc0, wc1, wc2, wc3⟩, wf0, wf1, wf2, wf3⟩ := W0.four
  have KW := Lib.hid (fun (w2 : World) (a b c d : Value) (h : Hid (Below WB.heap.size WB w2)) => show Hid (Below w.heap.size w ((((w2.setCell { block := w.heap.size + 1, off := 0 } a).setCell { block := w.heap.size + 1, off := 1 } b).setCell { block := w.heap.size + 1, off := 2 } c).setCell { block := w.heap.size + 1, off := 3 } d)) ∧ (((((w2.setCell { block := w.heap.size + 1, off := 0 } a).setCell { block := w.heap.size + 1, off := 1 } b).setCell { block := w.heap.size + 1, off := 2 } c).setCell { block := w.heap.size + 1, off := 3 } d).cell? { block := w.heap.size, off := 0 } = some (.int .i64 2) ∧ ((((w2.setCell { block := w.heap.size + 1, off := 0 } a).setCell { block := w.heap.size + 1, off := 1 } b).setCell { block := w.heap.size + 1, off := 2 } c).setCell { block := w.heap.size + 1, off := 3 } d).cell? { block := w.heap.size, off := 1 } = some (.bool neg) ∧ ((((w2.setCell { block := w.heap.size + 1, off := 0 } a).setCell { block := w.heap.size + 1, off := 1 } b).setCell { block := w.heap.size + 1, off := 2 } c).setCell { block := w.heap.size + 1, off := 3 } d).cell? { block := w.heap.size, off := 2 } = some (.int .u64 m) ∧ ((((w2.setCell { block := w.heap.size + 1, off := 0 } a).setCell { block := w.heap.size + 1, off := 1 } b).setCell { block := w.heap.size + 1, off := 2 } c).setCell { block := w.heap.size + 1, off := 3 } d).cell? { block := w.heap.size, off := 3 } = some (.int .i64 e)) from by
    obtain ⟨q0, q1, q2, q3⟩ := VC _ h.out
    refine ⟨Lib.hid (bset (bset (bset (bset (bthen HB.out h.out) (Nat.le_succ _)) (Nat.le_succ _)) (Nat.le_succ _)) (Nat.le_succ _)), ?_, ?_, ?_, ?_⟩ <;> simp [go_sem, q0, q1, q2, q3])
  clear VC W0 hWB IE ON V0 wc1 wc2 wc3 wf0 wf1 wf2 wf3
  go_region_held3 (fun w' => Hid (Below w.heap.size w w') ∧ (w'.cell? { block := w.heap.size, off := 0 } = some (.int .i64 2) ∧ w'.cell? { block := w.heap.size, off := 1 } = some (.bool neg) ∧ w'.cell? { block := w.heap.size, off := 2 } = some (.int .u64 m) ∧ w'.cell? { block := w.heap.size, off := 3 } = some (.int .i64 e)))
    (first | exact K0.out _ (Lib.hid (bdrewN (Below.refl _ _) 1)) | exact K0.out _ (by assumption) | exact KW.out _ _ _ _ _ b1)
    (first | ((go_at_call 44); (refine (ON3.out _ (Lib.hid (bdrewN (Below.refl _ _) 1))).mono ?_); (rintro en w2 ⟨⟨rA, rn, rc, rfl, i1⟩, b1, y0, y1, y2, y3, ⟨d0, d1, d2, d3⟩, f0, f1, f2, f3⟩)))
  go_wp2_with fail
  refine bodyPost_ret (v := .tuple #[.agg #[.bool neg, .slice rA rn rc, .int .i64 e, .int .i64 0], .bool true]) (by simp [results, Tryz.results55, go_sem, *]) rfl ⟨⟨_, _, _, rfl, ?_⟩, ?_⟩
  · have hsz : w.heap.size + 1 < WB.heap.size := World.block_lt_of_cell? WB _ wc0
    exact ((((i1.out.set _ _ hsz).set _ _ hsz).set _ _ hsz).set _ _ hsz).mono (Nat.le_trans (Nat.le_succ _) (Nat.le_of_lt hsz))
  · repeat (refine Below.setCell ?_ (Nat.le_succ _) _)
    exact bthen HB.out b1.out
end Go.Proofs.YtlmeobokpibifaaGreatDoor
end

section
set_option linter.unusedSimpArgs false
set_option linter.unusedVariables false
set_option linter.unusedVariables false
namespace Go.Proofs.YtlmeobokpibifaaGreatDoor
open Go.RowKit

/-- a form of the kind Signed, of which all is small -/
structure SF (wd man : Nat) (bs : Int) (tp : Nat) : Prop where
  m1 : 1 ≤ man
  m2 : man ≤ 59
  t1 : tp < 9223372036854775808
  t2 : tp / 2 ^ man ≤ 2047
  b1 : -2000 ≤ bs
  b2 : bs ≤ 2000
  w1 : 1 ≤ wd
  w2 : wd ≤ 64
  t3 : tp < 2 ^ wd
/-- where all lies that such a form is reckoned by -/
structure SW (w : World) (n wd man : Nat) (bs : Int) (tp nf nn m : Nat) : Prop where
  form : FormAt w n 2 wd man bs tp nf nn
  num : NumAt w m 2 179
  tab : Tab w
  lt : 12 < w.heap.size
theorem SW.below {w w' : World} {n wd man : Nat} {bs : Int} {tp nf nn m : Nat} (h : SW w n wd man bs tp nf nn m) (hb : Below w.heap.size w w') : SW w' n wd man bs tp nf nn m :=
  ⟨h.form.below hb, h.num.below hb, h.tab.below h.lt hb, Nat.lt_of_lt_of_le h.lt hb.size⟩
theorem sg_bits (man key : Nat) (h : man ≤ 59) : 2 * sg man key + 1 < 2305843009213693952 := by
  have h1 := sig_lt man key
  rw [sig_sg] at h1
  have h2 : 2 ^ (man + 1) ≤ 2 ^ 60 := Nat.pow_le_pow_right (by decide) (by omega)
  have h3 : (2 : Nat) ^ 60 = 1152921504606846976 := by decide
  omega
theorem field_le {man key tp : Nat} (h : key ≤ tp) (h2 : tp / 2 ^ man ≤ 2047) : key / 2 ^ man ≤ 2047 := Nat.le_trans (Nat.div_le_div_right h) h2
theorem ex1_le {man key : Nat} (h : key / 2 ^ man ≤ 2047) : ex1 man key ≤ 2046 := by unfold ex1; omega
section
variable {n wd man : Nat} {bs : Int} {tp nf nn m : Nat}
/-- the boundary behind a magnitude -/
theorem behind_signed (S : SF wd man bs tp) (key : Nat) (hn : 1 ≤ n) (hn2 : n < 15) (hk : key ≤ tp) (w : World) (h : SW w n wd man bs tp nf nn m) :
    Calls Tryz.prog 57 #[.int .i64 n, .int .u64 key] w fun en w' => (∃ A n c, en = .returned (xv false (.slice A n c) ((ex1 man key : Int) - bs - man) 0) ∧ IsN w' (.slice A n c) (2 * sg man key + 1)) ∧ Below w.heap.size w w' := by
  have hf := field_le hk S.t2
  have he := ex1_le hf
  have hb := sg_bits man key S.m2
  have b1 := S.b1
  have b2 := S.b2
  have m2 := S.m2
  refine behind_by n key (2 * sg man key + 1) ((ex1 man key : Int) - bs - man) w (Lib.hid (fun w' hw => ?_)) (by omega) (by omega) (by unfold inB; simp; omega)
  have h' := h.below hw
  exact between_signed n wd man bs tp nf nn m key w' hn hn2 h'.form h'.num h'.tab h'.lt hk m2 S.t1 (by omega) b1 b2
/-- is a number to be rounded to a magnitude, or a lesser one? -/
theorem within_signed (S : SF wd man bs tp) (neg : Bool) (v : Value) (s f : Int) (N K : Nat) (hn : 1 ≤ n) (hn2 : n < 15) (h1 : wi man (vx N s f) (unit man bs) K = true) (h2 : K = 0 ∨ wi man (vx N s f) (unit man bs) (K - 1) = false) (w : World) (h : SW w n wd man bs tp nf nn m) (hx : XOk w v N s f) (key : Nat) (hk : key ≤ tp) :
    Calls Tryz.prog 50 #[.int .i64 n, xv neg v s f, .int .u64 key] w fun en w' => en = .returned (.bool (decide (K ≤ key))) ∧ Below w.heap.size w w' := by
  have hf := field_le hk S.t2
  have he := ex1_le hf
  have hb := sg_bits man key S.m2
  have b1 := S.b1
  have b2 := S.b2
  have m2 := S.m2
  have t1 := S.t1
  have hw := wiB_wi man key N bs s f (by omega) b1 b2
  rw [wi_mono (unit_pos man bs) h1 h2 key] at hw
  rw [← hw]
  exact within_by n neg v s f N key (2 * sg man key + 1) ((ex1 man key : Int) - bs - man) _ w hx (by omega) (Lib.hid (fun w' hb => behind_signed S key hn hn2 hk w' (h.below hb))) (Nat.le_trans (bitsN_le' (b := 61) (by omega)) (by decide)) (by unfold inB; simp; omega) rfl
/-- the nearest magnitude -/
theorem nearest_signed (S : SF wd man bs tp) (neg : Bool) (v : Value) (s f : Int) (N K : Nat) (hn : 1 ≤ n) (hn2 : n < 15) (h1 : wi man (vx N s f) (unit man bs) K = true) (h2 : K = 0 ∨ wi man (vx N s f) (unit man bs) (K - 1) = false) (hK : K ≤ tp) (hs5 : -5000 ≤ s ∧ s ≤ 5000) (hf5 : -5000 ≤ f ∧ f ≤ 5000) (hfit : fitB N = true) (w : World) (h : SW w n wd man bs tp nf nn m) (hx : XOk w v N s f) :
    Calls Tryz.prog 29 #[.int .i64 n, .bool neg, xv neg v s f] w fun en w' => en = .returned (.tuple #[.int .u64 K, .bool false, .int .i64 0]) ∧ Below w.heap.size w w' :=
  near_signed n wd man bs tp nf nn m 179 K neg v s f N w hn hn2 h.form h.num hx hs5 hf5 hfit S.w1 S.w2 S.t3 hK (Lib.hid (fun w' hb key hk => within_signed S neg v s f N K hn hn2 h1 h2 w' (h.below hb) (hx.below hb) key hk))
/-- Round of a number that is not too large -/
theorem round_pos (S : SF wd man bs tp) (mode : Int) (v : Value) (s f : Int) (N K : Nat) (hn : 1 ≤ n) (hn2 : n < 15) (hmode : mode = 1 ∨ mode = 2) (h1 : wi man (vx N s f) (unit man bs) K = true) (h2 : K = 0 ∨ wi man (vx N s f) (unit man bs) (K - 1) = false) (hK : K ≤ tp) (hs5 : -5000 ≤ s ∧ s ≤ 5000) (hf5 : -5000 ≤ f ∧ f ≤ 5000) (hfit : fitB N = true) (w : World) (h : SW w n wd man bs tp nf nn m) (hx : XOk w v N s f) :
    Calls Tryz.prog 11 #[.int .i64 n, .int .i64 mode, xv false v s f] w fun en w' => en = .returned (.tuple #[.int .u64 K, .int .i64 0]) ∧ Below w.heap.size w w' :=
  round_by n mode 2 wd man bs tp nf nn K K false v s f N w hn hn2 hmode h.form rfl hx hs5 hf5 hfit
    (Lib.hid (fun w' hb => nearest_signed S false v s f N K hn hn2 h1 h2 hK hs5 hf5 hfit w' (h.below hb) (hx.below hb)))
    (Lib.hid (fun w' hb => pattern_pos n 2 wd man bs tp nf nn m 179 K w' hn hn2 (h.form.below hb) (h.num.below hb) rfl rfl hK))
theorem round_neg (S : SF wd man bs tp) (mode : Int) (v : Value) (s f : Int) (N K ms hs sn r : Nat) (hn : 1 ≤ n) (hn2 : n < 15) (hmode : mode = 1 ∨ mode = 2) (h1 : wi man (vx N s f) (unit man bs) K = true) (h2 : K = 0 ∨ wi man (vx N s f) (unit man bs) (K - 1) = false) (hK : K ≤ tp) (hs5 : -5000 ≤ s ∧ s ≤ 5000) (hf5 : -5000 ≤ f ∧ f ≤ 5000) (hfit : fitB N = true)
    (hms : 2 ^ wd - 1 = ms) (hh : ms / 2 = hs) (hsn : bits .andNot .u64 (ms : Int) (hs : Int) = (sn : Int)) (hr : bits .or .u64 (K : Int) (sn : Int) = (r : Int)) (w : World) (h : SW w n wd man bs tp nf nn m) (hx : XOk w v N s f) :
    Calls Tryz.prog 11 #[.int .i64 n, .int .i64 mode, xv true v s f] w fun en w' => en = .returned (.tuple #[.int .u64 r, .int .i64 0]) ∧ Below w.heap.size w w' :=
  round_by n mode 2 wd man bs tp nf nn K r true v s f N w hn hn2 hmode h.form rfl hx hs5 hf5 hfit
    (Lib.hid (fun w' hb => nearest_signed S true v s f N K hn hn2 h1 h2 hK hs5 hf5 hfit w' (h.below hb) (hx.below hb)))
    (Lib.hid (fun w' hb => pattern_neg n wd man bs tp nf nn m 179 K ms hs sn r w' hn hn2 (h.form.below hb) (h.num.below hb) hK S.w2 hms hh hsn hr))

/-- a pattern, its sign and magnitude -/
structure PT (wd p key ms hs sn : Nat) (neg : Bool) : Prop where
  hms : 2 ^ wd - 1 = ms
  hh : ms / 2 = hs
  hsn : bits .andNot .u64 (ms : Int) (hs : Int) = (sn : Int)
  fit : bits .andNot .u64 (p : Int) (ms : Int) = 0
  pos : neg = false → bits .and .u64 (p : Int) (sn : Int) = 0 ∧ p = key
  neg : neg = true → ∃ x : Nat, bits .and .u64 (p : Int) (sn : Int) = (x : Int) ∧ x ≠ 0 ∧ bits .andNot .u64 (p : Int) (sn : Int) = (key : Int)
theorem parts_signed (S : SF wd man bs tp) {p key ms hs sn : Nat} {neg : Bool} (h : PT wd p key ms hs sn neg) (w : World) :
    Calls Tryz.prog 24 #[shv 2 wd man bs tp nf nn 179, .int .u64 p] w fun e w' => e = .returned (.tuple #[.bool neg, .int .u64 key]) ∧ Below w.heap.size w w' := by
  cases neg with
  | false =>
    obtain ⟨h1, rfl⟩ := h.pos rfl
    exact parts_pos 2 wd man bs tp nf nn 179 ms hs sn p w S.w2 h.hms rfl h.hh h.hsn h1
  | true =>
    obtain ⟨x, h1, h2, h3⟩ := h.neg rfl
    exact parts_neg wd man bs tp nf nn 179 ms hs sn p x key w S.w2 h.hms h.hh h.hsn h1 h2 h3
theorem decode_signed (S : SF wd man bs tp) {p key ms hs sn : Nat} {neg : Bool} (P : PT wd p key ms hs sn neg) (c mm : Nat) (ee : Int) (hn : 1 ≤ n) (hn2 : n < 15) (hk : key ≤ tp) (h0 : key ≠ 0) (hnf : nf ≠ 0 → key ≠ nf) (hc : Lib.ctz 64 (sg man key) = c) (hmm : sg man key / 2 ^ c = mm) (hee : ((ex1 man key : Int) + 1) - bs - man + c = ee) (w : World) (h : SW w n wd man bs tp nf nn m) :
    Calls Tryz.prog 9 #[.int .i64 n, .int .u64 p] w fun e w' => e = .returned (.tuple #[.agg #[.int .i64 2, .bool neg, .int .u64 mm, .int .i64 ee], .int .i64 0]) ∧ Below w.heap.size w w' := by
  have hf := field_le hk S.t2
  have t1 := S.t1
  have m2 := S.m2
  exact decode_fin n wd man bs tp nf nn m p key mm neg ee w h.num h.form
    (Lib.hid (fun w' hF => fits_yes n 2 wd man bs tp nf nn ms p w' hn hn2 hF S.w2 P.hms P.fit))
    (Lib.hid (fun w' hF hN => shape_of n 2 wd man bs tp nf nn m 179 w' hn hn2 hF hN))
    (Lib.hid (fun w' => parts_signed S P w'))
    (Lib.hid (fun w' => class_num wd man bs tp nf nn 179 p key 2 w' hnf hk (by rw [if_neg h0])))
    (Lib.hid (fun w' hT hl => signed_num wd man bs tp nf nn key c mm ee w' hT hl (by omega) (by omega) h0 (by omega) S.b1 S.b2 hc hmm hee))
    h.tab h.lt
theorem decode_none (S : SF wd man bs tp) {p ms hs sn : Nat} {neg : Bool} (P : PT wd p 0 ms hs sn neg) (hn : 1 ≤ n) (hn2 : n < 15) (w : World) (h : SW w n wd man bs tp nf nn m) :
    Calls Tryz.prog 9 #[.int .i64 n, .int .u64 p] w fun e w' => e = .returned (.tuple #[.agg #[.int .i64 1, .bool neg, .int .u64 0, .int .i64 0], .int .i64 0]) ∧ Below w.heap.size w w' :=
  decode_zero n wd man bs tp nf nn m p 0 neg w h.num h.form
    (Lib.hid (fun w' hF => fits_yes n 2 wd man bs tp nf nn ms p w' hn hn2 hF S.w2 P.hms P.fit))
    (Lib.hid (fun w' hF hN => shape_of n 2 wd man bs tp nf nn m 179 w' hn hn2 hF hN))
    (Lib.hid (fun w' => parts_signed S P w'))
    (Lib.hid (fun w' => class_num wd man bs tp nf nn 179 p 0 1 w' (fun h => fun h2 => h h2.symm) (Nat.zero_le _) rfl))
theorem keyof_signed (S : SF wd man bs tp) {p key ms hs sn : Nat} {neg : Bool} (P : PT wd p key ms hs sn neg) (c mm : Nat) (ee : Int) (hn : 1 ≤ n) (hn2 : n < 15) (hk : key ≤ tp) (h0 : key ≠ 0) (hnf : nf ≠ 0 → key ≠ nf) (hc : Lib.ctz 64 (sg man key) = c) (hmm : sg man key / 2 ^ c = mm) (hee : ((ex1 man key : Int) + 1) - bs - man + c = ee) (w : World) (h : SW w n wd man bs tp nf nn m) :
    Calls Tryz.prog 56 #[.int .i64 n, .int .u64 p] w fun e w' => e = .returned (.tuple #[.bool neg, .int .u64 key, .int .i64 0]) ∧ Below w.heap.size w w' :=
  key_signed n wd man bs tp nf nn m p key mm neg 2 ee w h.num h.form (Or.inr rfl)
    (Lib.hid (decode_signed S P c mm ee hn hn2 hk h0 hnf hc hmm hee w h))
    (Lib.hid (fun w' hF hN => shape_of n 2 wd man bs tp nf nn m 179 w' hn hn2 hF hN))
    (Lib.hid (fun w' => parts_signed S P w'))
end
end Go.Proofs.YtlmeobokpibifaaGreatDoor
end

/- package round's size, behind, within, of the kind Signed. Conditions: as each theorem names them. Which magnitude a number is rounded to, and how numbers compare, are divided by powers of 10: what the plain laws say. No program stands here. Conditions: as each theorem names them. package round's Nearest, of the kind Signed. Conditions: as each theorem names them. package round's Round; Nearest, large of what is too large. Conditions: as each theorem names them. -/
import Derived.Test.YtlmeobokpibifaaGreatDoorG10
import Derived.Deep.RegionHeld3
import Derived.Test.YtlmeobokpibifaaGreatDoorG04
section
set_option linter.unusedSimpArgs false
set_option linter.unusedVariables false
set_option linter.unusedVariables false
namespace Go.Proofs.YtlmeobokpibifaaGreatDoor
open Go.RowKit

theorem four_free {w : World} {g : Nat} {a b c d : Value} {t : TypeId} (hb : w.heap[g]? = some (.cells #[a, b, c, d] t (0, 0))) :
    w.cell? { block := g, off := 0 } = some a ∧ w.cell? { block := g, off := 1 } = some b ∧ w.cell? { block := g, off := 2 } = some c ∧ w.cell? { block := g, off := 3 } = some d ∧ w.frozen? { block := g, off := 0 } = false ∧ w.frozen? { block := g, off := 1 } = false ∧ w.frozen? { block := g, off := 2 } = false ∧ w.frozen? { block := g, off := 3 } = false := by
  refine ⟨?_, ?_, ?_, ?_, ?_, ?_, ?_, ?_⟩ <;> simp [World.cell?, World.frozen?, hb]
theorem put4 {w : World} {g : Nat} {a b c d a' b' c' d' : Value} {t : TypeId} (hb : w.heap[g]? = some (.cells #[a, b, c, d] t (0, 0))) :
    ((((w.setCell { block := g, off := 0 } a').setCell { block := g, off := 1 } b').setCell { block := g, off := 2 } c').setCell { block := g, off := 3 } d').heap[g]? = some (.cells #[a', b', c', d'] t (0, 0)) := by
  simp [World.setCell, Array.getElem?_modify, hb]
theorem below4 {B : Nat} {a w : World} (h : Below B a w) {g : Nat} (hg : B ≤ g) (x0 x1 x2 x3 : Value) : Below B a ((((w.setCell { block := g, off := 0 } x0).setCell { block := g, off := 1 } x1).setCell { block := g, off := 2 } x2).setCell { block := g, off := 3 } x3) :=
  (((h.setCell (p := { block := g, off := 0 }) hg x0).setCell (p := { block := g, off := 1 }) hg x1).setCell (p := { block := g, off := 2 }) hg x2).setCell (p := { block := g, off := 3 }) hg x3
/-- a number's words lie in no block of other cells -/
theorem IsN.off {w w' : World} {v : Value} {N g : Nat} (h : IsN w v N) {cs : Array Value} {t : TypeId} {q : Nat × Nat} (hg : w.heap[g]? = some (.cells cs t q)) (hc : ∀ x ∈ cs.toList, ∀ z, x ≠ .int .u64 z) (hsz : w.heap.size ≤ w'.heap.size) (hk : ∀ b, b ≠ g → w'.heap[b]? = w.heap[b]?) : IsN w' v N := by
  obtain ⟨A, n, c, F, e, hr, hn, hs⟩ := h
  refine ⟨A, n, c, F, e, ⟨hr.1, hr.2.1, hr.2.2.1, hr.2.2.2.1, fun h0 => ?_⟩, hn, hs⟩
  obtain ⟨ad, ha, hb, hcell⟩ := hr.2.2.2.2 h0
  have hne : ad.block ≠ g := by
    intro e
    have h1 := hcell 0 h0
    unfold World.cell? at h1
    rw [block_add, e, hg] at h1
    simp only [] at h1
    split at h1
    · cases h1
    · exact hc _ (Array.mem_toList_iff.2 (Array.mem_of_getElem? h1)) _ rfl
  refine ⟨ad, ha, Nat.lt_of_lt_of_le hb hsz, fun i hi => ?_⟩
  rw [← hcell i hi]
  unfold World.cell?
  rw [block_add, hk _ hne]

theorem size_of (m : Nat) (e : Int) (w : World) (hm : m < 18446744073709551616) (hm0 : m ≠ 0) (he : inB e = true) :
    Calls Tryz.prog 83 #[.int .u64 m, .int .i64 e] w fun en w' => (∃ A n c, en = .returned (xv false (.slice A n c) e 0) ∧ IsN w' (.slice A n c) m) ∧ Below w.heap.size w w' := by
  have HA := Lib.hid (bgrow (Below.refl w.heap.size w) (xbox false (.slice none 0 0) 0 0))
  have BX : Hid ((w.alloc (xbox false (.slice none 0 0) 0 0)).heap[w.heap.size]? = some (.cells #[.bool false, .slice none 0 0, .int .i64 0, .int .i64 0] 41 (0, 0))) := Lib.hid (Deep.blk_alloc_new _ _)
  have OF := Lib.hid (fun w' => of_X 2 false m e w' hm)
  have HE := Lib.hid he
  have u1 : ((m : Int) == 0) = false := by simp; omega
  clear he hm0 hm
  unfold vv xv xbox at *
  go_enter Tryz.func83, Tryz.ntmps83
  go_wp2_with fail
  generalize (w.alloc (.cells #[.bool false, .slice none 0 0, .int .i64 0, .int .i64 0] 41)) = WB at HA BX ⊢
  with_reducible (refine (OF.out _).mono ?_)
  rintro en w1 ⟨⟨r, rfl, hr⟩, b1⟩
  rcases hr with ⟨h, _⟩ | ⟨_, _, v, hv, rfl⟩ | ⟨_, h, _⟩
  · exact absurd h (by decide)
  · obtain ⟨A, n, c, rfl, -⟩ := nlen hv
    have HB1 := Lib.hid (bthen HA.out b1)
    have BX1 := (b1.block _ (blk_lt BX.out)).trans BX.out
    have BX2 := (Deep.blk_alloc_lt w1 (.cells #[.bool false, .slice A n c, .int .i64 e, .int .i64 0] 41) _ (blk_lt BX1)).trans BX1
    have BX3 := Lib.hid BX2
    obtain ⟨d0, d1, d2, d3, f0, f1, f2, f3⟩ := four_free BX2
    have HV := Lib.hid (hv.alloc (.cells #[.bool false, .slice A n c, .int .i64 e, .int .i64 0] 41))
    have HB2 := Lib.hid (bgrow HB1.out (.cells #[.bool false, .slice A n c, .int .i64 e, .int .i64 0] 41))
    have hne := Nat.ne_of_lt (blk_lt BX1)
    clear hv b1 BX1 BX2 BX HA HB1
    unfold xv
    go_wp2_with fail
    have P4 := put4 (a' := .bool false) (b' := .slice A n c) (c' := .int .i64 e) (d' := .int .i64 0) BX3.out
    have HB3 := Lib.hid (below4 HB2.out (g := w.heap.size) (Nat.le_refl _) (.bool false) (.slice A n c) (.int .i64 e) (.int .i64 0))
    have HV3 := Lib.hid (IsN.off (w' := (((((w1.alloc (.cells #[.bool false, .slice A n c, .int .i64 e, .int .i64 0] 41)).setCell { block := w.heap.size, off := 0 } (.bool false)).setCell { block := w.heap.size, off := 1 } (.slice A n c)).setCell { block := w.heap.size, off := 2 } (.int .i64 e)).setCell { block := w.heap.size, off := 3 } (.int .i64 0))) HV.out BX3.out (by intro x hx z; simp at hx; rcases hx with rfl | rfl | rfl | rfl <;> simp) (by simp) (fun k hk => by rw [Deep.blk_setCell_other _ _ _ _ hk, Deep.blk_setCell_other _ _ _ _ hk, Deep.blk_setCell_other _ _ _ _ hk, Deep.blk_setCell_other _ _ _ _ hk]))
    clear d0 d1 d2 d3 f0 f1 f2 f3 hne
    obtain ⟨d0, d1, d2, d3, -⟩ := four_free P4
    refine bodyPost_ret (v := .agg #[.bool false, .slice A n c, .int .i64 e, .int .i64 0]) (by simp [results, Tryz.results83, go_sem, d0, d1, d2, d3]) rfl ⟨⟨_, _, _, rfl, HV3.out⟩, HB3.out⟩
  · exact absurd ⟨rfl, HE.out⟩ h
/-- the boundary behind a magnitude, told by what Between tells -/
theorem behind_by (n : Nat) (key mm : Nat) (ee : Int) (w : World) (BE : Hid (∀ w', Below w.heap.size w w' → Calls Tryz.prog 82 #[.int .i64 n, .int .u64 key] w' fun e w'' => e = .returned (.tuple #[.int .u64 mm, .int .i64 ee, .int .i64 0]) ∧ Below w'.heap.size w' w'')) (hm : mm < 18446744073709551616) (hm0 : mm ≠ 0) (he : inB ee = true) :
    Calls Tryz.prog 57 #[.int .i64 n, .int .u64 key] w fun en w' => (∃ A n c, en = .returned (xv false (.slice A n c) ee 0) ∧ IsN w' (.slice A n c) mm) ∧ Below w.heap.size w w' := by
  have HA := Lib.hid (bgrow (Below.refl w.heap.size w) (xbox false (.slice none 0 0) 0 0))
  have BX : Hid ((w.alloc (xbox false (.slice none 0 0) 0 0)).heap[w.heap.size]? = some (.cells #[.bool false, .slice none 0 0, .int .i64 0, .int .i64 0] 41 (0, 0))) := Lib.hid (Deep.blk_alloc_new _ _)
  have SZ := Lib.hid (fun w' => size_of mm ee w' hm hm0 he)
  clear he hm0 hm
  unfold xv xbox at *
  go_enter Tryz.func57, Tryz.ntmps57
  go_wp2_with fail
  generalize (w.alloc (.cells #[.bool false, .slice none 0 0, .int .i64 0, .int .i64 0] 41)) = WB at HA BX ⊢
  with_reducible (refine (BE.out _ HA.out).mono ?_)
  rintro en w1 ⟨rfl, b1⟩
  have HB1 := Lib.hid (bthen HA.out b1)
  have BX1 := Lib.hid ((b1.block _ (blk_lt BX.out)).trans BX.out)
  clear b1 BX HA
  go_wp2_with fail
  with_reducible (refine (SZ.out _).mono ?_)
  rintro en w2 ⟨⟨A, n2, c, rfl, hv⟩, b2⟩
  have HB2 := Lib.hid (bthen HB1.out b2)
  have BX3 := Lib.hid ((b2.block _ (blk_lt BX1.out)).trans BX1.out)
  obtain ⟨d0, d1, d2, d3, f0, f1, f2, f3⟩ := four_free BX3.out
  have HV := Lib.hid hv
  clear b2 BX1 HB1 hv
  go_wp2_with fail
  have P4 := put4 (a' := .bool false) (b' := .slice A n2 c) (c' := .int .i64 ee) (d' := .int .i64 0) BX3.out
  have HB3 := Lib.hid (below4 HB2.out (g := w.heap.size) (Nat.le_refl _) (.bool false) (.slice A n2 c) (.int .i64 ee) (.int .i64 0))
  have HV3 := Lib.hid (IsN.off (w' := ((((w2.setCell { block := w.heap.size, off := 0 } (.bool false)).setCell { block := w.heap.size, off := 1 } (.slice A n2 c)).setCell { block := w.heap.size, off := 2 } (.int .i64 ee)).setCell { block := w.heap.size, off := 3 } (.int .i64 0))) HV.out BX3.out (by intro x hx z; simp at hx; rcases hx with rfl | rfl | rfl | rfl <;> simp) (by simp) (fun k hk => by rw [Deep.blk_setCell_other _ _ _ _ hk, Deep.blk_setCell_other _ _ _ _ hk, Deep.blk_setCell_other _ _ _ _ hk, Deep.blk_setCell_other _ _ _ _ hk]))
  clear d0 d1 d2 d3 f0 f1 f2 f3
  obtain ⟨d0, d1, d2, d3, -⟩ := four_free P4
  refine bodyPost_ret (v := .agg #[.bool false, .slice A n2 c, .int .i64 ee, .int .i64 0]) (by simp [results, Tryz.results57, go_sem, d0, d1, d2, d3]) rfl ⟨⟨_, _, _, rfl, HV3.out⟩, HB3.out⟩

/-- is a size to be rounded to a magnitude, or a lesser one? told by the boundary -/
def wiB (c : Int) (key : Nat) : Bool := decide (c < 0) || (decide (c = 0) && decide (key % 2 = 0))
theorem within_by (n : Nat) (neg : Bool) (v : Value) (s f : Int) (N key mm : Nat) (ee c : Int) (w : World) (hx : XOk w v N s f) (hk : key < 18446744073709551616)
    (BH : Hid (∀ w', Below w.heap.size w w' → Calls Tryz.prog 57 #[.int .i64 n, .int .u64 key] w' fun en w'' => (∃ A n c, en = .returned (xv false (.slice A n c) ee 0) ∧ IsN w'' (.slice A n c) mm) ∧ Below w'.heap.size w' w'')) (hmm : bitsN mm ≤ 64) (he : inB ee = true) (hc : xcmp N s f mm ee 0 = c) :
    Calls Tryz.prog 50 #[.int .i64 n, xv neg v s f, .int .u64 key] w fun en w' => en = .returned (.bool (wiB c key)) ∧ Below w.heap.size w w' := by
  obtain ⟨Av, nv, cv, rfl, -⟩ := nlen hx.isn
  have HX := Lib.hid hx
  have HA := Lib.hid (bgrow (Below.refl w.heap.size w) (xbox neg (.slice Av nv cv) s f))
  have BX := Lib.hid (Bx.made w neg (.slice Av nv cv) s f)
  have hee : -5000 ≤ ee ∧ ee ≤ 5000 := by unfold inB at he; simp at he; omega
  have CM := Lib.hid (fun A n' c' w' (h1 : XOk w' (.slice Av nv cv) N s f) (h2 : IsN w' (.slice A n' c') mm) => cmp_X neg false (.slice Av nv cv) (.slice A n' c') s f ee 0 N mm c w' h1 ⟨h2, by omega, by omega, by omega, by decide, by decide⟩ hc)
  have hc3 : c = -1 ∨ c = 0 ∨ c = 1 := by
    rw [← hc]; unfold xcmp
    rcases cmpN_cases3 (vx N s f) (vx mm ee 0) with ⟨h, _⟩ | ⟨h, _⟩ | ⟨h, _⟩ <;> rw [h] <;> simp
  have hand : bits .and .u64 (key : Int) 1 = ((key % 2 : Nat) : Int) := by
    have := bits_and_u64_nat key 1 hk (by decide)
    rw [show ((1 : Nat) : Int) = 1 from rfl] at this
    rw [this, Nat.and_one_is_mod]
  obtain ⟨r2, hr2⟩ : ∃ r2, key % 2 = r2 := ⟨_, rfl⟩
  have hr22 : r2 < 2 := by omega
  rw [hr2] at hand
  have HR := Lib.hid (And.intro hr2 hr22)
  have HC3 := Lib.hid hc3
  clear hx hc he hee hmm hc3 hr2 hr22
  unfold xv xbox at *
  go_enter Tryz.func50, Tryz.ntmps50
  go_wp2_with fail
  have HB0 : Hid (Below w.heap.size w (w.alloc (Obj.cells #[Value.bool neg, Value.slice Av nv cv, Value.int IntKind.i64 s, Value.int IntKind.i64 f] 41))) := HA
  have HX0 := Lib.hid (HX.out.below HA.out)
  generalize w.alloc (Obj.cells #[Value.bool neg, Value.slice Av nv cv, Value.int IntKind.i64 s, Value.int IntKind.i64 f] 41) = WB at HX0 BX HB0 ⊢
  clear HA HX
  have K1 := Lib.hid (fun w' (h : Hid (Below WB.heap.size WB w')) => And.intro h (BX.out.below h.out))
  unfold Bx at K1
  have KS := Lib.hid (fun w1 w2 (h : Hid (Below WB.heap.size WB w1)) (b : Below w1.heap.size w1 w2) => K1.out w2 (hbthen h b))
  have K0 := Lib.hid (K1.out _ (Lib.hid (bdrewN (Below.refl WB.heap.size WB) 1)))
  go_region_held3 (fun w' => Hid (Below WB.heap.size WB w') ∧ (w'.cell? { block := w.heap.size, off := 0 } = some (.bool neg) ∧ w'.cell? { block := w.heap.size, off := 1 } = some (.slice Av nv cv) ∧ w'.cell? { block := w.heap.size, off := 2 } = some (.int .i64 s) ∧ w'.cell? { block := w.heap.size, off := 3 } = some (.int .i64 f)))
    (first | assumption | exact K0.out | exact KS.out _ _ (And.left (by assumption)) (by assumption))
    (first | ((go_at_call 57); (with_reducible (refine (BH.out _ (bthen HB0.out (Hid.out (And.left (by assumption))))).mono ?_)); (rintro en w7 ⟨⟨A7, n7, c7, rfl, i7⟩, b7⟩))
           | ((go_at_call 60); (with_reducible (refine (CM.out _ _ _ _ (HX0.out.below (Hid.out (And.left (by assumption)))) (by first | assumption | exact IsN.below (by assumption) (by assumption))).mono ?_)); (rintro en w8 ⟨rfl, b8⟩)))
  all_goals
    rename_i hS
    have HS := Lib.hid (bthen HB0.out hS.1.out)
    clear hS b7 b8 i7 K1 KS K0 CM BH
    obtain ⟨hr2, hr22⟩ := HR.out
    rcases HC3.out with rfl | rfl | rfl
    · clear hr2 hr22
      go_wp2_with fail
      go_ret
      exact ⟨rfl, HS.out⟩
    · have hw : wiB 0 key = decide (r2 = 0) := by unfold wiB; rw [hr2]; simp
      have HW := Lib.hid hw
      rcases (show r2 = 0 ∨ r2 = 1 from by omega) with rfl | rfl
      · clear hr2 hr22 hw
        go_wp2_with fail
        go_ret
        exact ⟨by rw [HW.out]; rfl, HS.out⟩
      · clear hr2 hr22 hw
        go_wp2_with fail
        go_ret
        exact ⟨by rw [HW.out]; rfl, HS.out⟩
    · clear hr2 hr22
      go_wp2_with fail
      go_ret
      exact ⟨rfl, HS.out⟩
end Go.Proofs.YtlmeobokpibifaaGreatDoor
end

section
set_option linter.unusedSimpArgs false
set_option linter.unusedVariables false
set_option linter.unusedVariables false
namespace Go.Proofs.YtlmeobokpibifaaGreatDoor
open Go.RowKit

/-- half of the last place of the least magnitude, as the ways compare -/
def unit (man : Nat) (bs : Int) : Nat := 5 ^ ((0 : Int) + 40000).toNat * 2 ^ ((40000 : Int) - bs - man).toNat
theorem unit_pos (man : Nat) (bs : Int) : 0 < unit man bs := Nat.mul_pos (Nat.pow_pos (by decide)) (Nat.two_pow_pos _)
theorem half_vx (man key : Nat) (bs : Int) (hm : man ≤ 60) (h1 : -2000 ≤ bs) (h2 : bs ≤ 2000) : vx (2 * sg man key + 1) ((ex1 man key : Int) - bs - man) 0 = md man key * unit man bs := by
  unfold vx md unit
  have e : ((ex1 man key : Int) - bs - man + 40000).toNat = ex1 man key + ((40000 : Int) - bs - man).toNat := by omega
  rw [e, Nat.pow_add]
  generalize 5 ^ ((0 : Int) + 40000).toNat = F
  generalize 2 ^ ((40000 : Int) - bs - man).toNat = G
  generalize 2 ^ ex1 man key = H
  generalize 2 * sg man key + 1 = I
  simp only [Nat.mul_assoc, Nat.mul_left_comm, Nat.mul_comm]
theorem wiB_wi (man key N : Nat) (bs s f : Int) (hm : man ≤ 60) (h1 : -2000 ≤ bs) (h2 : bs ≤ 2000) : wiB (xcmp N s f (2 * sg man key + 1) ((ex1 man key : Int) - bs - man) 0) key = wi man (vx N s f) (unit man bs) key := by
  unfold xcmp
  rw [half_vx man key bs hm h1 h2]
  unfold wiB wi
  rcases cmpN_cases3 (vx N s f) (md man key * unit man bs) with ⟨h, g⟩ | ⟨h, g⟩ | ⟨h, g⟩ <;> rw [h]
  · simp [g]
  · have e1 : ¬ vx N s f < md man key * unit man bs := by omega
    have e2 : ¬ vx N s f = md man key * unit man bs := by omega
    simp [e1, e2]
  · simp [g]
theorem wi_mul {man X U C key : Nat} (hC : 0 < C) : wi man (X * C) (U * C) key = wi man X U key := by
  unfold wi
  have e : md man key * (U * C) = md man key * U * C := (Nat.mul_assoc _ _ _).symm
  rw [e]
  have a : X * C < md man key * U * C ↔ X < md man key * U := Nat.mul_lt_mul_right hC
  have b : X * C = md man key * U * C ↔ X = md man key * U := ⟨fun h => Nat.eq_of_mul_eq_mul_right hC h, fun h => by rw [h]⟩
  simp only [a, b]
/-- the same with powers that are less -/
theorem wi_cut (man key N : Nat) (bs s f : Int) (d : Nat) (hm : man ≤ 60) (h1 : -2000 ≤ bs) (h2 : bs ≤ 2000) (hs : -5000 ≤ s) (hf : -5000 ≤ f ∧ f ≤ 0) (hd : -(d : Int) ≤ s ∧ -(d : Int) ≤ -bs - man ∧ -(d : Int) ≤ f ∧ d ≤ 5000) :
    wi man (vx N s f) (unit man bs) key = wi man (N * 5 ^ (f + d).toNat * 2 ^ (s + d).toNat) (5 ^ d * 2 ^ (-bs - man + d).toNat) key := by
  obtain ⟨h3, h4, h5, h6⟩ := hd
  have e1 : (f + 40000).toNat = (f + d).toNat + (40000 - d) := by omega
  have e2 : (s + 40000).toNat = (s + d).toNat + (40000 - d) := by omega
  have e3 : ((0 : Int) + 40000).toNat = d + (40000 - d) := by omega
  have e4 : ((40000 : Int) - bs - man).toNat = (-bs - man + d).toNat + (40000 - d) := by omega
  have p1 : vx N s f = N * 5 ^ (f + d).toNat * 2 ^ (s + d).toNat * (5 ^ (40000 - d) * 2 ^ (40000 - d)) := by
    unfold vx
    rw [e1, e2, Nat.pow_add, Nat.pow_add]
    generalize 5 ^ (40000 - d) = F
    generalize 2 ^ (40000 - d) = G
    generalize 5 ^ (f + d).toNat = H
    generalize 2 ^ (s + d).toNat = I
    simp only [Nat.mul_assoc, Nat.mul_left_comm, Nat.mul_comm]
  have p2 : unit man bs = 5 ^ d * 2 ^ (-bs - man + d).toNat * (5 ^ (40000 - d) * 2 ^ (40000 - d)) := by
    unfold unit
    rw [e3, e4, Nat.pow_add, Nat.pow_add]
    generalize 5 ^ (40000 - d) = F
    generalize 2 ^ (40000 - d) = G
    generalize 2 ^ (-bs - man + d).toNat = H
    generalize 5 ^ d = I
    simp only [Nat.mul_assoc, Nat.mul_left_comm, Nat.mul_comm]
  rw [p1, p2]
  exact wi_mul (Nat.mul_pos (Nat.pow_pos (by decide)) (Nat.two_pow_pos _))

/-- the logarithm, by two comparisons -/
theorem lg_of {M : Nat} {s f k : Int} (hM : 0 < M) (hk : -1000 ≤ k ∧ k ≤ 1000) (h1 : xcmp M s f 1 k k ≠ -1) (h2 : xcmp M s f 1 (k + 1) (k + 1) = -1) : Lg M s f k := by
  refine ⟨by omega, by omega, Or.inr ⟨hM, ?_, ?_⟩⟩
  · unfold xcmp at h1
    unfold tenx
    rcases cmpN_cases3 (vx M s f) (vx 1 k k) with ⟨h, g⟩ | ⟨h, g⟩ | ⟨h, g⟩
    · exact absurd h h1
    · omega
    · omega
  · unfold xcmp at h2
    unfold tenx
    exact (cmpN_cases _ _).1.1 h2
/-- what a power of 10 goes in, and leaves -/
theorem flo_of {M D : Nat} {s f k R : Int} (hs : -20000 ≤ s) (hf : -20000 ≤ f) (hk : -20000 ≤ k) (h1 : M * 5 ^ (f - k).toNat * 2 ^ (s - k).toNat / (1 * 5 ^ (k - f).toNat * 2 ^ (k - s).toNat) = D) (h2 : restN (M * 5 ^ (f - k).toNat * 2 ^ (s - k).toNat) (1 * 5 ^ (k - f).toNat * 2 ^ (k - s).toNat) = R) :
    vx M s f / tenx k = D ∧ restN (vx M s f) (tenx k) = R := by
  obtain ⟨C, hC, e1, e2⟩ := floor_parts M s f k hs hf hk
  obtain ⟨e3, e4⟩ := restN_part (M * 5 ^ (f - k).toNat * 2 ^ (s - k).toNat) (1 * 5 ^ (k - f).toNat * 2 ^ (k - s).toNat) C hC
  rw [e1, e2, e3, e4]
  exact ⟨h1, h2⟩
theorem xcmp_of {M N : Nat} {s f t g c : Int} (hs : -40000 ≤ s) (hf : -40000 ≤ f) (ht : -40000 ≤ t) (hg : -40000 ≤ g) (h : cmpN (M * 5 ^ (f - g).toNat * 2 ^ (s - t).toNat) (N * 5 ^ (g - f).toNat * 2 ^ (t - s).toNat) = c) : xcmp M s f N t g = c := (xcmp_cross M N s f t g hs hf ht hg).trans h
end Go.Proofs.YtlmeobokpibifaaGreatDoor
end

section
set_option linter.unusedSimpArgs false
set_option linter.unusedVariables false
set_option linter.unusedVariables false
namespace Go.Proofs.YtlmeobokpibifaaGreatDoor
open Go.RowKit

theorem seven_cells {w : World} {g : Nat} {a b c d e f h : Value} {t : TypeId} (hb : w.heap[g]? = some (.cells #[a, b, c, d, e, f, h] t (0, 0))) :
    w.cell? { block := g, off := 0 } = some a ∧ w.cell? { block := g, off := 1 } = some b ∧ w.cell? { block := g, off := 2 } = some c ∧ w.cell? { block := g, off := 3 } = some d ∧ w.cell? { block := g, off := 4 } = some e ∧ w.cell? { block := g, off := 5 } = some f ∧ w.cell? { block := g, off := 6 } = some h := by
  refine ⟨?_, ?_, ?_, ?_, ?_, ?_, ?_⟩ <;> simp [World.cell?, hb]
/-- the bit that is looked at, and the next one -/
def bitAt (t : Nat) : Nat := if t = 0 then 0 else 2 ^ (t - 1)
theorem bitAt_next (t : Nat) : bitAt (t + 1) / 2 = bitAt t := by
  unfold bitAt
  rw [if_neg (by omega), Nat.add_sub_cancel]
  rcases t with _ | t
  · rfl
  · rw [if_neg (by omega), Nat.add_sub_cancel, Nat.pow_succ]; omega
theorem near_room {key t wd : Nat} (hd : 2 ^ t ∣ key) (hk : key < 2 ^ wd) (ht : t ≤ wd) : key + 2 ^ t ≤ 2 ^ wd := by
  obtain ⟨q, rfl⟩ := hd
  obtain ⟨r, rfl⟩ : ∃ r, wd = t + r := ⟨wd - t, by omega⟩
  rw [Nat.pow_add] at hk ⊢
  have hq : q < 2 ^ r := Nat.lt_of_mul_lt_mul_left hk
  have : 2 ^ t * (q + 1) ≤ 2 ^ t * 2 ^ r := Nat.mul_le_mul_left _ hq
  rw [Nat.mul_add, Nat.mul_one] at this
  exact this

set_option maxHeartbeats 1000000 in
theorem near_signed (n : Nat) (wd : Nat) (mn bs : Int) (tp nf nn m f K : Nat) (neg : Bool) (v : Value) (s ff : Int) (N : Nat) (w : World) (hn : 1 ≤ n) (hn2 : n < 15) (h : FormAt w n 2 wd mn bs tp nf nn) (hm : NumAt w m 2 f) (hx : XOk w v N s ff) (hs5 : -5000 ≤ s ∧ s ≤ 5000) (hf5 : -5000 ≤ ff ∧ ff ≤ 5000) (hfit : fitB N = true) (hw1 : 1 ≤ wd) (hw : wd ≤ 64) (htp : tp < 2 ^ wd) (hK : K ≤ tp)
    (WI : Hid (∀ w', Below w.heap.size w w' → ∀ key, key ≤ tp → Calls Tryz.prog 50 #[.int .i64 n, xv neg v s ff, .int .u64 key] w' fun en w'' => en = .returned (.bool (decide (K ≤ key))) ∧ Below w'.heap.size w' w'')) :
    Calls Tryz.prog 29 #[.int .i64 n, .bool neg, xv neg v s ff] w fun en w' => en = .returned (.tuple #[.int .u64 K, .bool false, .int .i64 0]) ∧ Below w.heap.size w w' := by
  obtain ⟨Av, nv, cv, rfl, -⟩ := nlen hx.isn
  have HX := Lib.hid hx
  have HA := Lib.hid (bgrow (Below.refl w.heap.size w) (xbox neg (.slice Av nv cv) s ff))
  have BX : Hid ((w.alloc (xbox neg (.slice Av nv cv) s ff)).heap[w.heap.size]? = some (.cells #[.bool neg, .slice Av nv cv, .int .i64 s, .int .i64 ff] 41 (0, 0))) := Lib.hid (Deep.blk_alloc_new _ _)
  have MO := Lib.hid (fun w' h1 h2 => most_any n 2 wd mn bs tp nf nn m f neg w' hn hn2 h1 h2 rfl rfl)
  have FO := Lib.hid (fun w' h1 => form_of n 2 wd mn bs tp nf nn w' hn hn2 h1)
  have HF := Lib.hid h
  have HM := Lib.hid hm
  have hin : (fitB N && (inB s && inB ff)) = true := by
    rw [hfit]
    unfold inB
    simp; omega
  have RI := Lib.hid (fun w' h => right_N neg (.slice Av nv cv) N s ff true w' h hin)
  have HK := Lib.hid hK
  have HTP := Lib.hid htp
  have hpow : 2 ^ wd ≤ 18446744073709551616 := Nat.pow_le_pow_right (n := 2) (by decide) hw
  have HPOW := Lib.hid hpow
  obtain ⟨w0, hw0⟩ : ∃ w0, wd = w0 + 1 := ⟨wd - 1, by omega⟩
  have hwi : (wd : Int) - 1 = (w0 : Int) := by omega
  have hwrap : IntKind.u64.wrap ((2 : Int) ^ w0) = ((2 ^ w0 : Nat) : Int) := wrap_pow (by omega)
  have hb0 : bitAt wd = 2 ^ w0 := by unfold bitAt; rw [hw0, if_neg (by omega), Nat.add_sub_cancel]
  rw [← hb0] at hwrap
  have HB00 := Lib.hid hb0
  clear h hm hn hn2 hx hin hfit hb0 htp hpow hw0 hs5 hf5
  unfold xv xbox fv at *
  go_enter Tryz.func29, Tryz.ntmps29
  go_wp2_with fail
  have HX0 := Lib.hid (HX.out.below HA.out)
  have HAA : Hid (Below w.heap.size w (w.alloc (.cells #[.bool neg, .slice Av nv cv, .int .i64 s, .int .i64 ff] 41))) := HA
  generalize (w.alloc (.cells #[.bool neg, .slice Av nv cv, .int .i64 s, .int .i64 ff] 41)) = WB at HAA BX HX0 ⊢
  clear HA
  with_reducible (refine (MO.out _ (HF.out.below HAA.out) (HM.out.below HAA.out)).mono ?_)
  rintro en w1 ⟨rfl, b1⟩
  have HB1 := Lib.hid (bthen HAA.out b1)
  have BX1 := Lib.hid ((b1.block _ (blk_lt BX.out)).trans BX.out)
  have HX1 := Lib.hid (HX0.out.below b1)
  obtain ⟨d0, d1, d2, d3, -⟩ := four_free BX1.out
  clear b1 BX HX0 HAA
  go_wp2_with fail
  with_reducible (refine (RI.out _ HX1.out.isn).mono ?_)
  rintro en w2 ⟨rfl, b2⟩
  have HB2 := Lib.hid (bthen HB1.out b2)
  have BX2 := Lib.hid ((b2.block _ (blk_lt BX1.out)).trans BX1.out)
  clear b2 BX1 HX1 HB1 d0 d1 d2 d3
  obtain ⟨d0, d1, d2, d3, -⟩ := four_free BX2.out
  go_wp2_with fail
  with_reducible (refine (WI.out _ HB2.out tp (Nat.le_refl _)).mono ?_)
  rintro en w3 ⟨rfl, b3⟩
  have HB3 := Lib.hid (bthen HB2.out b3)
  have BX3 := Lib.hid ((b3.block _ (blk_lt BX2.out)).trans BX2.out)
  have hKt : decide (K ≤ tp) = true := decide_eq_true hK
  clear b3 BX2 HB2 d0 d1 d2 d3 hK
  go_wp2_with fail
  with_reducible (refine (FO.out _ (HF.out.below HB3.out)).mono ?_)
  rintro en w4 ⟨rfl, b4⟩
  have HB4 := Lib.hid (bgrow (bthen HB3.out b4) (.cells #[.int .i64 2, .int .i64 wd, .int .i64 mn, .int .i64 bs, .int .u64 tp, .int .u64 nf, .int .u64 nn] 56))
  have BX4 := Lib.hid ((Deep.blk_alloc_lt w4 (.cells #[.int .i64 2, .int .i64 wd, .int .i64 mn, .int .i64 bs, .int .u64 tp, .int .u64 nf, .int .u64 nn] 56) _ (blk_lt ((b4.block _ (blk_lt BX3.out)).trans BX3.out))).trans ((b4.block _ (blk_lt BX3.out)).trans BX3.out))
  have FX4 : Hid ((w4.alloc (.cells #[.int .i64 2, .int .i64 wd, .int .i64 mn, .int .i64 bs, .int .u64 tp, .int .u64 nf, .int .u64 nn] 56)).heap[w4.heap.size]? = some (.cells #[.int .i64 2, .int .i64 wd, .int .i64 mn, .int .i64 bs, .int .u64 tp, .int .u64 nf, .int .u64 nn] 56 (0, 0))) := Lib.hid (Deep.blk_alloc_new _ _)
  clear b4 BX3 HB3
  go_wp2_with fail
  generalize (w4.alloc (.cells #[.int .i64 2, .int .i64 wd, .int .i64 mn, .int .i64 bs, .int .u64 tp, .int .u64 nf, .int .u64 nn] 56)) = WF at HB4 BX4 FX4 ⊢
  go_loopw [13, 14] (fun kv bt wr => ∃ (key t : Nat), t ≤ wd ∧ kv = .int .u64 key ∧ bt = .int .u64 (bitAt t) ∧ Hid (key ≤ K ∧ K < key + 2 ^ t ∧ 2 ^ t ∣ key) ∧ Hid (Below WF.heap.size WF wr)) (fun _ bt _ => (intOf bt).toNat)
  case atStart =>
    refine ⟨0, wd, Nat.le_refl _, rfl, rfl, Lib.hid ⟨Nat.zero_le _, by have := HTP.out; have := HK.out; omega, Nat.dvd_zero _⟩, Lib.hid (Below.refl _ _)⟩
  case round =>
    obtain ⟨key, t, ht, rfl, rfl, hkt, hBel⟩ := hrel
    obtain ⟨e1, e2, e3⟩ := hkt.out
    have BXr := (hBel.out.block _ (blk_lt BX4.out)).trans BX4.out
    have FXr := (hBel.out.block _ (blk_lt FX4.out)).trans FX4.out
    obtain ⟨d0, d1, d2, d3, -⟩ := four_free BXr
    obtain ⟨g0, g1, g2, g3, g4, g5, g6⟩ := seven_cells FXr
    rcases t with _ | t
    · obtain rfl : key = K := by rw [Nat.pow_zero] at e2; omega
      have hb : bitAt 0 = 0 := rfl
      rw [hb]
      have u1 : decide ((0 : Int) < ((0 : Nat) : Int)) = false := by decide
      have HBE := Lib.hid (bthen HB4.out hBel.out)
      clear e1 e2 e3 BXr FXr hb
      go_wp2_with fail
      go_ret3
      exact ⟨rfl, HBE.out⟩
    · have hb : bitAt (t + 1) = 2 ^ t := by unfold bitAt; rw [if_neg (by omega), Nat.add_sub_cancel]
      have hb2 := bitAt_next t
      rw [hb] at hb2
      have hp := Nat.two_pow_pos t
      have hroom := near_room e3 (show key < 2 ^ wd from by have := HTP.out; have := HK.out; omega) ht
      have hpp : 2 ^ (t + 1) = 2 * 2 ^ t := by rw [Nat.pow_succ, Nat.mul_comm]
      have hdv : 2 ^ t ∣ key := Nat.dvd_trans ⟨2, by rw [hpp, Nat.mul_comm]⟩ e3
      have hdv2 : 2 ^ t ∣ key + 2 ^ t := Nat.dvd_add hdv (Nat.dvd_refl _)
      obtain ⟨nb, hnb⟩ : ∃ nb, bitAt t = nb := ⟨_, rfl⟩
      rw [hb]
      rw [hnb] at hb2
      have HNB := Lib.hid hnb
      obtain ⟨b, hbb⟩ : ∃ b, 2 ^ t = b := ⟨_, rfl⟩
      rw [hbb] at hb2 hp hpp hdv hdv2
      rw [hpp] at e2 hroom
      rw [hbb]
      have HBB := Lib.hid hbb
      have u1 : decide ((0 : Int) < (b : Int)) = true := decide_eq_true (by omega)
      have u1' : decide (0 < b) = true := decide_eq_true hp
      obtain ⟨x, hx⟩ : ∃ x, key + b = x := ⟨_, rfl⟩
      have hx64 : x < 18446744073709551616 := by have := HPOW.out; omega
      have hxi : (key : Int) + (b : Int) = (x : Int) := by omega
      have hb2i : (b : Int) / 2 = (nb : Int) := by omega
      have hx1 : 1 ≤ x := by omega
      have hxs : (x : Int) - 1 = ((x - 1 : Nat) : Int) := by omega
      have hltb : nb < b := by omega
      have HD := Lib.hid (And.intro hdv (And.intro (hx ▸ hdv2) (And.intro e1 (And.intro e2 (And.intro hx ht)))))
      clear e1 e2 e3 hnb hbb hb hb2 hpp hdv hdv2 hroom hx BXr FXr
      by_cases hle : x ≤ tp
      · have u2 : decide (x ≤ tp) = true := decide_eq_true hle
        have WX := Lib.hid (WI.out wr (bthen HB4.out hBel.out) (x - 1) (by omega))
        obtain ⟨y, hy⟩ : ∃ y, x - 1 = y := ⟨_, rfl⟩
        rw [hy] at hxs WX
        have HY := Lib.hid hy
        clear hy hle
        by_cases hxk : x ≤ K
        · have hwx : decide (K ≤ y) = false := decide_eq_false (by have := HY.out; omega)
          rw [hwx] at WX
          have HXK := Lib.hid hxk
          clear hxk hwx
          go_wp2_with fail
          with_reducible (refine WX.out.mono ?_)
          rintro en w5 ⟨rfl, b5⟩
          have HB5 := Lib.hid (bthen hBel.out b5)
          clear b5
          go_wp2_with fail
          go_roundw
          case rel =>
            obtain ⟨q1, q2, q3, q4, q5, q6⟩ := HD.out
            have q7 := HBB.out
            exact ⟨x, t, by omega, rfl, by rw [HNB.out], Lib.hid ⟨HXK.out, by rw [q7]; omega, by rw [q7]; exact q2⟩, HB5⟩
          case measure => simp [intOf]; omega
        · have hwx : decide (K ≤ y) = true := decide_eq_true (by have := HY.out; omega)
          rw [hwx] at WX
          have HXK := Lib.hid hxk
          clear hxk hwx
          go_wp2_with fail
          with_reducible (refine WX.out.mono ?_)
          rintro en w5 ⟨rfl, b5⟩
          have HB5 := Lib.hid (bthen hBel.out b5)
          clear b5
          go_wp2_with fail
          go_roundw
          case rel =>
            obtain ⟨q1, q2, q3, q4, q5, q6⟩ := HD.out
            have q7 := HBB.out
            have q8 := HXK.out
            exact ⟨key, t, by omega, rfl, by rw [HNB.out], Lib.hid ⟨q3, by rw [q7]; omega, by rw [q7]; exact q1⟩, HB5⟩
          case measure => simp [intOf]; omega
      · have u2 : decide (x ≤ tp) = false := decide_eq_false hle
        have HXK := Lib.hid hle
        clear hle
        go_wp2_with fail
        go_roundw
        case rel =>
          obtain ⟨q1, q2, q3, q4, q5, q6⟩ := HD.out
          have q7 := HBB.out
          have q8 := HXK.out
          have q9 := HK.out
          exact ⟨key, t, by omega, rfl, by rw [HNB.out], Lib.hid ⟨q3, by rw [q7]; omega, by rw [q7]; exact q1⟩, hBel⟩
        case measure => simp [intOf]; omega
end Go.Proofs.YtlmeobokpibifaaGreatDoor
end

section
set_option linter.unusedSimpArgs false
set_option linter.unusedVariables false
set_option linter.unusedVariables false
namespace Go.Proofs.YtlmeobokpibifaaGreatDoor
open Go.RowKit

abbrev fbox (k wd mn bs : Int) (tp nf nn : Nat) : Obj := .cells #[.int .i64 k, .int .i64 wd, .int .i64 mn, .int .i64 bs, .int .u64 tp, .int .u64 nf, .int .u64 nn] 56
/-- Round of a number that is not too large, of a form that is no scale -/
theorem round_by (n : Nat) (mode : Int) (k wd mn bs : Int) (tp nf nn K p : Nat) (neg : Bool) (v : Value) (s ff : Int) (N : Nat) (w : World) (hn : 1 ≤ n) (hn2 : n < 15) (hmode : mode = 1 ∨ mode = 2) (h : FormAt w n k wd mn bs tp nf nn) (k4 : (k == 4) = false) (hx : XOk w v N s ff) (hs5 : -5000 ≤ s ∧ s ≤ 5000) (hf5 : -5000 ≤ ff ∧ ff ≤ 5000) (hfit : fitB N = true)
    (NE : Hid (∀ w', Below w.heap.size w w' → Calls Tryz.prog 29 #[.int .i64 n, .bool neg, xv neg v s ff] w' fun en w'' => en = .returned (.tuple #[.int .u64 K, .bool false, .int .i64 0]) ∧ Below w'.heap.size w' w''))
    (PT : Hid (∀ w', Below w.heap.size w w' → Calls Tryz.prog 31 #[.int .i64 n, .bool neg, .int .u64 K] w' fun en w'' => en = .returned (.tuple #[.int .u64 p, .int .i64 0]) ∧ Below w'.heap.size w' w'')) :
    Calls Tryz.prog 11 #[.int .i64 n, .int .i64 mode, xv neg v s ff] w fun en w' => en = .returned (.tuple #[.int .u64 p, .int .i64 0]) ∧ Below w.heap.size w w' := by
  obtain ⟨Av, nv, cv, rfl, -⟩ := nlen hx.isn
  have HX := Lib.hid hx
  have HA := Lib.hid (bgrow (Below.refl w.heap.size w) (xbox neg (.slice Av nv cv) s ff))
  have BX : Hid ((w.alloc (xbox neg (.slice Av nv cv) s ff)).heap[w.heap.size]? = some (.cells #[.bool neg, .slice Av nv cv, .int .i64 s, .int .i64 ff] 41 (0, 0))) := Lib.hid (Deep.blk_alloc_new _ _)
  have FO := Lib.hid (fun w' h1 => form_of n k wd mn bs tp nf nn w' hn hn2 h1)
  have HF := Lib.hid h
  have hin : (fitB N && (inB s && inB ff)) = true := by
    rw [hfit]
    unfold inB
    simp; omega
  have RI := Lib.hid (fun w' h => right_N neg (.slice Av nv cv) N s ff true w' h hin)
  clear h hn hn2 hx hin hfit hs5 hf5
  unfold xv xbox fv at *
  go_enter Tryz.func11, Tryz.ntmps11
  go_wp2_with fail
  have HX0 := Lib.hid (HX.out.below HA.out)
  have HAA : Hid (Below w.heap.size w (w.alloc (.cells #[.bool neg, .slice Av nv cv, .int .i64 s, .int .i64 ff] 41))) := HA
  generalize (w.alloc (.cells #[.bool neg, .slice Av nv cv, .int .i64 s, .int .i64 ff] 41)) = WB at HAA BX HX0 ⊢
  clear HA
  with_reducible (refine (FO.out _ (HF.out.below HAA.out)).mono ?_)
  rintro en w1 ⟨rfl, b1⟩
  have HB1 := Lib.hid (bgrow (bthen HAA.out b1) (fbox k wd mn bs tp nf nn))
  have BX1 := Lib.hid ((Deep.blk_alloc_lt w1 (fbox k wd mn bs tp nf nn) _ (blk_lt ((b1.block _ (blk_lt BX.out)).trans BX.out))).trans ((b1.block _ (blk_lt BX.out)).trans BX.out))
  have HX1 := Lib.hid ((HX0.out.below b1).below (bgrow (Below.refl _ _) (fbox k wd mn bs tp nf nn)))
  have FX1 : Hid ((w1.alloc (fbox k wd mn bs tp nf nn)).heap[w1.heap.size]? = some (.cells #[.int .i64 k, .int .i64 wd, .int .i64 mn, .int .i64 bs, .int .u64 tp, .int .u64 nf, .int .u64 nn] 56 (0, 0))) := Lib.hid (Deep.blk_alloc_new _ _)
  clear b1 BX HX0 HAA
  unfold fbox at HB1 BX1 HX1 FX1
  obtain ⟨d0, d1, d2, d3, -⟩ := four_free BX1.out
  rcases hmode with rfl | rfl
  all_goals
    go_wp2_with fail
    generalize (w1.alloc (.cells #[.int .i64 k, .int .i64 wd, .int .i64 mn, .int .i64 bs, .int .u64 tp, .int .u64 nf, .int .u64 nn] 56)) = WF at HB1 BX1 HX1 FX1 d0 d1 d2 d3 ⊢
    with_reducible (refine (RI.out _ HX1.out.isn).mono ?_)
    rintro en w2 ⟨rfl, b2⟩
    have HB2 := Lib.hid (bthen HB1.out b2)
    have BX2 := Lib.hid ((b2.block _ (blk_lt BX1.out)).trans BX1.out)
    have FX2 := Lib.hid ((b2.block _ (blk_lt FX1.out)).trans FX1.out)
    clear b2 BX1 HX1 HB1 d0 d1 d2 d3 FX1
    obtain ⟨d0, d1, d2, d3, -⟩ := four_free BX2.out
    obtain ⟨g0, g1, g2, g3, g4, g5, g6⟩ := seven_cells FX2.out
    go_wp2_with fail
    with_reducible (refine (NE.out _ HB2.out).mono ?_)
    rintro en w3 ⟨rfl, b3⟩
    have HB3 := Lib.hid (bthen HB2.out b3)
    have BX3 := Lib.hid ((b3.block _ (blk_lt BX2.out)).trans BX2.out)
    clear b3 BX2 HB2 d0 d1 d2 d3 g0 g1 g2 g3 g4 g5 g6 FX2
    obtain ⟨d0, d1, d2, d3, -⟩ := four_free BX3.out
    go_wp2_with fail
    with_reducible (refine (PT.out _ HB3.out).mono ?_)
    rintro en w4 ⟨rfl, b4⟩
    have HB4 := Lib.hid (bthen HB3.out b4)
    clear b4
    go_wp2_with fail
    go_ret2
    exact ⟨rfl, HB4.out⟩
end Go.Proofs.YtlmeobokpibifaaGreatDoor
end

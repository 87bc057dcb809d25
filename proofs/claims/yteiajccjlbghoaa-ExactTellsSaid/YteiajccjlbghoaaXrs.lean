/- package exact's Reduced: its closure walked. Conditions: as each theorem names them. -/
import Derived.Test.YteiajccjlbghoaaXlgw
set_option linter.unusedVariables false
namespace Go.Proofs.Yteiajccjlbghoaa
open Go.RowKit

theorem red_zero (neg : Bool) (v : Value) (s f : Int) (w : World) (h : IsN w v 0) :
    Calls Try.prog 33 #[xv neg v s f] w fun e w' => e = .returned (xv neg (.slice none 0 0) 0 0) ∧ Below w.heap.size w w' := by
  obtain ⟨Av, nv, cv, rfl, -⟩ := nlen h
  have B := Lib.hid (fun w h => bits_N (.slice Av nv cv) 0 0 w h rfl)
  have HH := Lib.hid h
  clear h
  unfold xv
  go_enter Try.func33, Try.ntmps33
  go_wp2_with fail
  with_reducible (refine (B.out _ ((HH.out.alloc _).alloc _)).mono ?_)
  rintro e w1 ⟨rfl, rfl⟩
  go_wp2_with fail
  refine bodyPost_ret (v := .agg #[.bool neg, .slice none 0 0, .int .i64 0, .int .i64 0]) (by simp [results, Try.results33, go_sem]) rfl ⟨rfl, ?_⟩
  repeat (first | refine Below.setCell ?_ (by simp) _ | refine Below.alloc ?_ (by simp; try omega) _ | refine bdrewN ?_ _)
  exact Below.refl _ _
/-- the two blocks that Reduced turns: x, n -/
def RS (w : World) (gx gn : Nat) (neg : Bool) (v0 v : Value) (s f : Int) : Prop :=
  w.heap[gx]? = some (.cells #[.bool neg, v0, .int .i64 s, .int .i64 f] 25 (0, 0)) ∧ w.heap[gn]? = some (.cells #[v] 23 (0, 0))
theorem heap_lt {w : World} {g : Nat} {o : Obj} (h : w.heap[g]? = some o) : g < w.heap.size := by
  rcases Nat.lt_or_ge g w.heap.size with h1 | h1
  · exact h1
  · rw [Array.getElem?_eq_none h1] at h; cases h
theorem RS.below {w w' : World} {gx gn : Nat} {neg : Bool} {v0 v : Value} {s f : Int} (h : RS w gx gn neg v0 v s f) (hb : Below w.heap.size w w') : RS w' gx gn neg v0 v s f :=
  ⟨(hb.block gx (heap_lt h.1)).trans h.1, (hb.block gn (heap_lt h.2)).trans h.2⟩
theorem RS.cells {w : World} {gx gn : Nat} {neg : Bool} {v0 v : Value} {s f : Int} (h : RS w gx gn neg v0 v s f) :
    w.cell? { block := gx, off := 0 } = some (.bool neg) ∧ w.cell? { block := gx, off := 1 } = some v0 ∧ w.cell? { block := gx, off := 2 } = some (.int .i64 s) ∧ w.cell? { block := gx, off := 3 } = some (.int .i64 f) ∧ w.cell? { block := gn, off := 0 } = some v ∧
    w.frozen? { block := gx, off := 1 } = false ∧ w.frozen? { block := gx, off := 2 } = false ∧ w.frozen? { block := gx, off := 3 } = false ∧ w.frozen? { block := gn, off := 0 } = false := by
  obtain ⟨h1, h2⟩ := h
  refine ⟨?_, ?_, ?_, ?_, ?_, ?_, ?_, ?_, ?_⟩ <;> simp [World.cell?, World.frozen?, h1, h2]
theorem RS.two {w : World} {gx gn : Nat} {neg : Bool} {v0 v u : Value} {s f s' : Int} (h : RS w gx gn neg v0 v s f) (hne : gx ≠ gn) : RS ((w.setCell { block := gn, off := 0 } u).setCell { block := gx, off := 2 } (.int .i64 s')) gx gn neg v0 u s' f := by
  obtain ⟨h1, h2⟩ := h
  constructor
  · simp [World.setCell, Array.getElem?_modify, h1, hne, Ne.symm hne]
  · simp [World.setCell, Array.getElem?_modify, h2, hne, Ne.symm hne]
theorem RS.three {w : World} {gx gn : Nat} {neg : Bool} {v0 v u : Value} {s f f' : Int} (h : RS w gx gn neg v0 v s f) (hne : gx ≠ gn) : RS ((w.setCell { block := gn, off := 0 } u).setCell { block := gx, off := 3 } (.int .i64 f')) gx gn neg v0 u s f' := by
  obtain ⟨h1, h2⟩ := h
  constructor
  · simp [World.setCell, Array.getElem?_modify, h1, hne, Ne.symm hne]
  · simp [World.setCell, Array.getElem?_modify, h2, hne, Ne.symm hne]
/-- a block that holds no words: a store into it turns no number -/
theorem IsN.apart {w : World} {v : Value} {N : Nat} (h : IsN w v N) {p : Addr} {cs : Array Value} {t : TypeId} {q : Nat × Nat} (hg : w.heap[p.block]? = some (.cells cs t q)) (hc : ∀ x ∈ cs.toList, ∀ z, x ≠ .int .u64 z) (x : Value) : IsN (w.setCell p x) v N := by
  obtain ⟨A, n, c, F, e, hr, hn, hs⟩ := h
  refine ⟨A, n, c, F, e, ⟨hr.1, hr.2.1, hr.2.2.1, hr.2.2.2.1, fun h0 => ?_⟩, hn, hs⟩
  obtain ⟨ad, ha, hb, hcell⟩ := hr.2.2.2.2 h0
  have hne : ad.block ≠ p.block := by
    intro e
    have h1 := hcell 0 h0
    unfold World.cell? at h1
    rw [block_add, e, hg] at h1
    simp only [] at h1
    split at h1
    · cases h1
    · have h2 := Array.mem_of_getElem? h1
      exact hc _ (by simpa using h2) _ rfl
  refine ⟨ad, ha, by simpa using hb, fun i hi => ?_⟩
  rw [← hcell i hi]
  have hblk := Deep.blk_setCell_other w p x ad.block hne
  unfold World.cell?
  rw [block_add]
  simp only [hblk]
theorem IsN.but {w w' : World} {v : Value} {N g : Nat} (h : IsN w v N) {cs : Array Value} {t : TypeId} {q : Nat × Nat} (hg : w.heap[g]? = some (.cells cs t q)) (hc : ∀ x ∈ cs.toList, ∀ z, x ≠ .int .u64 z) (hsz : w.heap.size ≤ w'.heap.size) (hk : ∀ b, b ≠ g → w'.heap[b]? = w.heap[b]?) : IsN w' v N := by
  obtain ⟨A, n, c, F, e, hr, hn, hs⟩ := h
  refine ⟨A, n, c, F, e, ⟨hr.1, hr.2.1, hr.2.2.1, hr.2.2.2.1, fun h0 => ?_⟩, hn, hs⟩
  obtain ⟨ad, ha, hb, hcell⟩ := hr.2.2.2.2 h0
  have hne : ad.block ≠ g := by
    intro e
    have h1 := hcell 0 h0
    unfold World.cell? at h1
    rw [block_add, e, hg] at h1
    simp only [] at h1
    split at h1
    · cases h1
    · have h2 := Array.mem_of_getElem? h1
      exact hc _ (by simpa using h2) _ rfl
  refine ⟨ad, ha, by omega, fun i hi => ?_⟩
  rw [← hcell i hi]
  unfold World.cell?
  rw [block_add]
  simp only [hk _ hne]
/-- a result's block -/
def RB (w : World) (g : Nat) : Prop := w.heap[g]? = some (.cells #[.bool false, .slice none 0 0, .int .i64 0, .int .i64 0] 25 (0, 0))
theorem RB.below {w w' : World} {g : Nat} (h : RB w g) (hb : Below w.heap.size w w') : RB w' g := (hb.block g (heap_lt h)).trans h
theorem RB.new (w : World) : RB (w.alloc (.cells #[.bool false, .slice none 0 0, .int .i64 0, .int .i64 0] 25)) w.heap.size := Deep.blk_alloc_new _ _
theorem RB.wr {w : World} {g : Nat} (h : RB w g) : Wr w g 4 25 := ⟨_, rfl, h⟩
theorem RS.isn {w : World} {gx gn : Nat} {neg : Bool} {A0 A1 : Option Addr} {n0 c0 n1 c1 : Nat} {s f : Int} (h : RS w gx gn neg (.slice A0 n0 c0) (.slice A1 n1 c1) s f) (hne : gx ≠ gn) {v : Value} {N : Nat} (hv : IsN w v N) (u u2 : Value) (i : Nat) : IsN ((w.setCell { block := gn, off := 0 } u).setCell { block := gx, off := i } u2) v N := by
  obtain ⟨h1, h2⟩ := h
  refine (hv.apart (p := { block := gn, off := 0 }) h2 (by intro x hx z; simp at hx; subst hx; simp) u).apart (p := { block := gx, off := i }) (cs := #[.bool neg, .slice A0 n0 c0, .int .i64 s, .int .i64 f]) (t := 25) (q := (0, 0)) ?_ ?_ u2
  · show (w.setCell _ _).heap[gx]? = _
    rw [Deep.blk_setCell_other _ _ _ _ hne, h1]
  · intro x hx z
    simp at hx
    rcases hx with rfl | rfl | rfl | rfl <;> simp
theorem div_S (u v : Value) (M N a : Nat) (w : World) (hu : IsN w u M) (hv : IsN w v N) (hM : M < 2 ^ a) (ha : a ≤ 1000000) (h0 : 0 < N) :
    Calls Try.prog 34 #[u, v] w fun e w' => (∃ A n c B m d, e = .returned (.tuple #[.slice A n c, .slice B m d, .bool true]) ∧ IsN w' (.slice A n c) (M / N) ∧ IsN w' (.slice B m d) (M % N)) ∧ Below w.heap.size w w' := by
  refine (div_N u v M N a w hu hv hM ha h0).mono ?_
  rintro e w' ⟨⟨q, r, rfl, h1, h2⟩, hb⟩
  obtain ⟨A, n, c, rfl, -⟩ := nlen h1
  obtain ⟨B, m, d, rfl, -⟩ := nlen h2
  exact ⟨⟨A, n, c, B, m, d, rfl, h1, h2⟩, hb⟩
theorem out_N (gx gn : Nat) (neg : Bool) (A0 A1 : Option Addr) (n0 c0 n1 c1 : Nat) (s f : Int) (N k a B : Nat) (d : Bool) (w : World) (h : RS w gx gn neg (.slice A0 n0 c0) (.slice A1 n1 c1) s f) (hne : gx ≠ gn) (hx : B ≤ gx) (hn : B ≤ gn) (hN : IsN w (.slice A1 n1 c1) N) (hNb : N < 2 ^ a) (ha : a ≤ 200000) (hk : k ≤ 10000) (hf : -1000000 ≤ f ∧ f ≤ 1000000) (hd : decide (N % 5 ^ k = 0) = d) :
    Calls Try.prog 59 #[.int .i64 k, .pointer (some { block := gn, off := 0 }), .pointer (some { block := gx, off := 0 })] w fun e w' => e = .returned (.bool d) ∧ (∃ A2 n2 c2, RS w' gx gn neg (.slice A0 n0 c0) (.slice A2 n2 c2) s (if d = true then f + k else f) ∧ IsN w' (.slice A2 n2 c2) (if d = true then N / 5 ^ k else N)) ∧ Below B w w' ∧ (∀ g, g < w.heap.size → g ≠ gx → g ≠ gn → w'.heap[g]? = w.heap[g]?) := by
  have H := Lib.hid h
  have HN := Lib.hid hN
  have PW := Lib.hid (fun w' => (pow5_N k k w' (by omega)).mono fun e w'' h => And.intro (shaped h.1) h.2)
  have DV := Lib.hid (fun u v w' hu hv => div_S u v N (5 ^ k) a w' hu hv hNb (by omega) (Nat.pow_pos (by decide)))
  have hf2 : IntKind.i64.wrap (f + (k : Int)) = f + (k : Int) := IntWalk.i64_in _ (by omega)
  have HX := Lib.hid (And.intro hx hn)
  obtain ⟨q0, q1, q2, q3, q4, q5, q6, q7, q8⟩ := h.cells
  clear h hN hx hn hf hNb
  go_enter Try.func59, Try.ntmps59
  go_wp2_with fail
  clear q0 q1 q2 q3 q4 q5 q6 q7 q8
  have K1 := Lib.hid (fun w' (hb : Hid (Below w.heap.size w w')) => And.intro hb (H.out.below hb.out).cells)
  have KS := Lib.hid (fun w1 w2 (h : Hid (Below w.heap.size w w1)) (b : Below w1.heap.size w1 w2) => K1.out w2 (hbthen h b))
  have K0 := Lib.hid (K1.out _ (Lib.hid (bdrewN (Below.refl _ _) 1)))
  go_region_held3 (fun w' => Hid (Below w.heap.size w w') ∧ w'.cell? { block := gx, off := 0 } = some (.bool neg) ∧ w'.cell? { block := gx, off := 1 } = some (.slice A0 n0 c0) ∧ w'.cell? { block := gx, off := 2 } = some (.int .i64 s) ∧ w'.cell? { block := gx, off := 3 } = some (.int .i64 f) ∧ w'.cell? { block := gn, off := 0 } = some (.slice A1 n1 c1) ∧
    w'.frozen? { block := gx, off := 1 } = false ∧ w'.frozen? { block := gx, off := 2 } = false ∧ w'.frozen? { block := gx, off := 3 } = false ∧ w'.frozen? { block := gn, off := 0 } = false)
    (first | exact K0.out | exact KS.out _ _ (And.left (by assumption)) (by assumption))
    (first | ((go_at_call 32); (with_reducible (refine Calls.mono (PW.out _) ?_)); (rintro e w1 ⟨⟨Ap, np, cp, rfl, ip⟩, b1⟩))
           | ((go_at_call 34); (with_reducible (refine Calls.mono (DV.out _ _ _ (HN.out.below (Hid.out (And.left (by assumption)))) (by assumption)) ?_)); (rintro e w1 ⟨⟨Aq, nq', cq, Ar, nr, cr, rfl, iq, ir⟩, b2⟩)))
  rename_i hS
  have HB := Lib.hid hS.1.out
  have HRS := Lib.hid (H.out.below HB.out)
  have IQ := Lib.hid iq
  have IR := Lib.hid ir
  have HN1 := Lib.hid (HN.out.below HB.out)
  obtain ⟨-, q0, q1, q2, q3, q4, q5, q6, q7, q8⟩ := hS
  obtain ⟨z, hz⟩ : ∃ z, bitsN (N % 5 ^ k) = z := ⟨_, rfl⟩
  have B5 := Lib.hid (fun w h => bits_N (.slice Ar nr cr) (N % 5 ^ k) z w h hz)
  clear iq ir K0 KS K1 PW DV b1 b2 ip
  rcases Nat.eq_zero_or_pos (N % 5 ^ k) with h0 | h0
  · have hz0 : z = 0 := by rw [← hz, h0]; rfl
    have hd1 : d = true := by rw [← hd]; exact decide_eq_true h0
    subst hz0 hd1
    clear h0 hz hd
    go_wp2_with fail
    with_reducible (refine (B5.out _ IR.out).mono ?_)
    rintro e w2 ⟨rfl, rfl⟩
    go_wp2_with fail
    have hne2 : gn ≠ gx := Ne.symm hne
    have HNE := Lib.hid hne
    go_region
    all_goals
      (go_wp2_with fail
       go_ret
       refine ⟨rfl, ⟨Aq, nq', cq, ?_, ?_⟩, ?_⟩)
    · exact HRS.out.three HNE.out
    · exact (HRS.out.isn HNE.out IQ.out _ _ 3).drewN 1
    · refine ⟨(((HB.out.mono (by have := heap_lt H.out.1; have := HX.out.1; omega)).setCell HX.out.2 _).setCell HX.out.1 _).drew, fun g h1 h2 h3 => ?_⟩
      show ((w1.setCell _ _).setCell _ _).heap[g]? = _
      rw [Deep.blk_setCell_other _ _ _ _ h2, Deep.blk_setCell_other _ _ _ _ h3]
      exact HB.out.block g h1
  · have t1 : decide (0 < z) = true := by
      apply decide_eq_true; rw [← hz]; unfold bitsN; rw [if_neg (by omega)]; omega
    have t1' : decide ((0 : Int) < (z : Int)) = true := by
      simpa using t1
    have hd1 : d = false := by rw [← hd]; exact decide_eq_false (by omega)
    subst hd1
    clear h0 hz hd
    go_wp2_with fail
    with_reducible (refine (B5.out _ IR.out).mono ?_)
    rintro e w2 ⟨rfl, rfl⟩
    go_wp2_with fail
    go_ret
    exact ⟨rfl, ⟨A1, n1, c1, HRS.out, HN1.out⟩, HB.out.mono (by have := heap_lt H.out.1; have := HX.out.1; omega), fun g h1 _ _ => HB.out.block g h1⟩
/-- where Reduced stands between two calls of its closure -/
structure Red (w0 wr : World) (gx gn ga gr : Nat) (neg : Bool) (A0 : Option Addr) (n0 c0 M0 : Nat) (s f : Int) (A : Option Addr) (n c N : Nat) (g : Int) : Prop where
  rs : RS wr gx gn neg (.slice A0 n0 c0) (.slice A n c) s g
  isn : IsN wr (.slice A n c) N
  pos : 0 < N
  odd : N % 2 = 1
  fac : ∃ q : Nat, M0 = N * 5 ^ q ∧ g = f + q
  arr : wr.heap[ga]? = some (.cells #[.int .i64 27, .int .i64 1] 3 (0, 0))
  res : RB wr gr
  below : Below w0.heap.size w0 wr
theorem Red.range {w0 wr : World} {gx gn ga gr : Nat} {neg : Bool} {A0 : Option Addr} {n0 c0 M0 : Nat} {s f : Int} {A : Option Addr} {n c N : Nat} {g : Int} {b : Nat} (h : Red w0 wr gx gn ga gr neg A0 n0 c0 M0 s f A n c N g) (hb : M0 < 2 ^ b) : f ≤ g ∧ g < f + b ∧ N < 2 ^ b := by
  obtain ⟨q, h1, h2⟩ := h.fac
  have h3 : 2 ^ q ≤ 5 ^ q := Nat.pow_le_pow_left (by decide) q
  have h4 : 1 * 5 ^ q ≤ N * 5 ^ q := Nat.mul_le_mul_right _ h.pos
  have h5 : 2 ^ q < 2 ^ b := by rw [h1] at hb; omega
  have h6 := (Nat.pow_lt_pow_iff_right (a := 2) (by decide)).1 h5
  have h7 : N * 1 ≤ N * 5 ^ q := Nat.mul_le_mul_left _ (Nat.pow_pos (by decide))
  refine ⟨by omega, by omega, by omega⟩
/-- one call of the closure -/
theorem Red.step {w0 w w' : World} {gx gn ga gr k : Nat} {neg : Bool} {A0 : Option Addr} {n0 c0 M0 : Nat} {s f : Int} {A : Option Addr} {n c N : Nat} {g : Int} {d : Bool} (h : Red w0 w gx gn ga gr neg A0 n0 c0 M0 s f A n c N g)
    (ha : ga ≠ gx ∧ ga ≠ gn ∧ gr ≠ gx ∧ gr ≠ gn) (hd : decide (N % 5 ^ k = 0) = d)
    (hrs : ∃ A2 n2 c2, RS w' gx gn neg (.slice A0 n0 c0) (.slice A2 n2 c2) s (if d = true then g + k else g) ∧ IsN w' (.slice A2 n2 c2) (if d = true then N / 5 ^ k else N)) (hb : Below w0.heap.size w w') (ho : ∀ g, g < w.heap.size → g ≠ gx → g ≠ gn → w'.heap[g]? = w.heap[g]?) :
    ∃ A2 n2 c2, Red w0 w' gx gn ga gr neg A0 n0 c0 M0 s f A2 n2 c2 (if d = true then N / 5 ^ k else N) (if d = true then g + k else g) := by
  obtain ⟨A2, n2, c2, h1, h2⟩ := hrs
  have har := (ho ga (heap_lt h.arr) ha.1 ha.2.1).trans h.arr
  have hre : RB w' gr := (ho gr (heap_lt h.res) ha.2.2.1 ha.2.2.2).trans h.res
  have hbe := h.below.trans hb
  refine ⟨A2, n2, c2, ?_⟩
  cases d with
  | false => exact ⟨h1, h2, h.pos, h.odd, h.fac, har, hre, hbe⟩
  | true =>
    simp only [if_true] at h1 h2 ⊢
    have hz : N % 5 ^ k = 0 := of_decide_eq_true hd
    have he : N / 5 ^ k * 5 ^ k = N := Nat.div_mul_cancel (Nat.dvd_of_mod_eq_zero hz)
    obtain ⟨q, e1, e2⟩ := h.fac
    refine ⟨h1, h2, ?_, ?_, ⟨q + k, ?_, by omega⟩, har, hre, hbe⟩
    · rcases Nat.eq_zero_or_pos (N / 5 ^ k) with h0 | h0
      · rw [h0] at he; have := h.pos; omega
      · exact h0
    · have h5 := h.odd
      rw [← he, Nat.mul_mod] at h5
      rcases Nat.mod_two_eq_zero_or_one (N / 5 ^ k) with h0 | h0
      · rw [h0] at h5; simp at h5
      · exact h0
    · rw [Nat.pow_add, Nat.mul_comm (5 ^ q), ← Nat.mul_assoc, he, e1]
end Go.Proofs.Yteiajccjlbghoaa

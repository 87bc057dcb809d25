/- For the laws of package caliperlaw02: variables that are an api.Exact; what small leaves. Conditions: as each theorem names them. -/
import Derived.Test.YteiajccjlbghoaaXshown
import Derived.Deep.RegionHeld3
set_option linter.unusedVariables false
namespace Go.Proofs.Yteiajccjlbghoaa
open Go.RowKit

/-- a variable that is an api.Exact -/
def XB (w : World) (g : Nat) (neg : Bool) (v : Value) (s f : Int) : Prop := w.heap[g]? = some (.cells #[.bool neg, v, .int .i64 s, .int .i64 f] 25 (0, 0))
abbrev set4 (w : World) (g : Nat) (a b c d : Value) : World := (((w.setCell { block := g, off := 0 } a).setCell { block := g, off := 1 } b).setCell { block := g, off := 2 } c).setCell { block := g, off := 3 } d
section
variable {w w' : World} {g : Nat} {neg : Bool} {v : Value} {s f : Int}
theorem XB.lt (h : XB w g neg v s f) : g < w.heap.size := heap_lt h
theorem XB.below (h : XB w g neg v s f) (hb : Below w.heap.size w w') : XB w' g neg v s f := (hb.block g h.lt).trans h
theorem XB.alloc (h : XB w g neg v s f) (o : Obj) : XB (w.alloc o) g neg v s f := (Deep.blk_alloc_lt _ _ _ h.lt).trans h
theorem XB.new (w : World) (neg : Bool) (v : Value) (s f : Int) : XB (w.alloc (.cells #[.bool neg, v, .int .i64 s, .int .i64 f] 25)) w.heap.size neg v s f := Deep.blk_alloc_new _ _
theorem XB.far (h : XB w g neg v s f) {p : Addr} (hne : g ≠ p.block) (u : Value) : XB (w.setCell p u) g neg v s f := (Deep.blk_setCell_other _ _ _ _ hne).trans h
theorem XB.far4 (h : XB w g neg v s f) {k : Nat} (hne : g ≠ k) (a b c d : Value) : XB (set4 w k a b c d) g neg v s f := (((h.far (p := { block := k, off := 0 }) hne a).far (p := { block := k, off := 1 }) hne b).far (p := { block := k, off := 2 }) hne c).far (p := { block := k, off := 3 }) hne d
theorem XB.set4 (h : XB w g neg v s f) (neg' : Bool) (v' : Value) (s' f' : Int) : XB (set4 w g (.bool neg') v' (.int .i64 s') (.int .i64 f')) g neg' v' s' f' := by
  unfold XB at h ⊢
  simp [World.setCell, Array.getElem?_modify, h]
theorem XB.setNeg (h : XB w g neg v s f) (neg' : Bool) : XB (w.setCell { block := g, off := 0 } (.bool neg')) g neg' v s f := by
  unfold XB at h ⊢
  simp [World.setCell, Array.getElem?_modify, h]
theorem XB.cells (h : XB w g neg v s f) :
    w.cell? { block := g, off := 0 } = some (.bool neg) ∧ w.cell? { block := g, off := 1 } = some v ∧ w.cell? { block := g, off := 2 } = some (.int .i64 s) ∧ w.cell? { block := g, off := 3 } = some (.int .i64 f) ∧
    w.frozen? { block := g, off := 0 } = false ∧ w.frozen? { block := g, off := 1 } = false ∧ w.frozen? { block := g, off := 2 } = false ∧ w.frozen? { block := g, off := 3 } = false ∧ g < w.heap.size ∧ g ≠ w.heap.size := by
  have hl := h.lt
  unfold XB at h
  refine ⟨?_, ?_, ?_, ?_, ?_, ?_, ?_, ?_, hl, Nat.ne_of_lt hl⟩ <;> simp [World.cell?, World.frozen?, h]
theorem XB.four (h : XB w g neg v s f) : w.cell? { block := g, off := 0 } = some (.bool neg) ∧ w.cell? { block := g, off := 1 } = some v ∧ w.cell? { block := g, off := 2 } = some (.int .i64 s) ∧ w.cell? { block := g, off := 3 } = some (.int .i64 f) :=
  ⟨h.cells.1, h.cells.2.1, h.cells.2.2.1, h.cells.2.2.2.1⟩
theorem noWord4 {A : Option Addr} {n c : Nat} : ∀ x ∈ (#[Value.bool neg, .slice A n c, .int .i64 s, .int .i64 f] : Array Value).toList, ∀ z, x ≠ .int .u64 z := by
  intro x hx z; simp at hx; rcases hx with rfl | rfl | rfl | rfl <;> simp
theorem IsN.set4 {u : Value} {N : Nat} {A : Option Addr} {n c : Nat} (h : IsN w u N) (hx : XB w g neg (.slice A n c) s f) (a b d e : Value) : IsN (set4 w g a b d e) u N :=
  h.but hx noWord4 (by simp) (fun k hk => by rw [Deep.blk_setCell_other _ _ _ _ hk, Deep.blk_setCell_other _ _ _ _ hk, Deep.blk_setCell_other _ _ _ _ hk, Deep.blk_setCell_other _ _ _ _ hk])
theorem IsN.set1 {u : Value} {N : Nat} {A : Option Addr} {n c : Nat} (h : IsN w u N) (hx : XB w g neg (.slice A n c) s f) (i : Nat) (a : Value) : IsN (w.setCell { block := g, off := i } a) u N :=
  h.but hx noWord4 (by simp) (fun k hk => by rw [Deep.blk_setCell_other _ _ _ _ hk])
theorem XOk.set4 {u : Value} {N : Nat} {s1 f1 : Int} {A : Option Addr} {n c : Nat} (h : XOk w u N s1 f1) (hx : XB w g neg (.slice A n c) s f) (a b d e : Value) : XOk (Go.Proofs.Yteiajccjlbghoaa.set4 w g a b d e) u N s1 f1 := ⟨h.isn.set4 hx a b d e, h.bits, h.s1, h.s2, h.f1, h.f2⟩
theorem XOk.set1 {u : Value} {N : Nat} {s1 f1 : Int} {A : Option Addr} {n c : Nat} (h : XOk w u N s1 f1) (hx : XB w g neg (.slice A n c) s f) (i : Nat) (a : Value) : XOk (w.setCell { block := g, off := i } a) u N s1 f1 := ⟨h.isn.set1 hx i a, h.bits, h.s1, h.s2, h.f1, h.f2⟩
theorem XOk.alloc {u : Value} {N : Nat} {s1 f1 : Int} (h : XOk w u N s1 f1) (o : Obj) : XOk (w.alloc o) u N s1 f1 := h.below (bgrow (Below.refl _ _) o)
theorem below_set4 {w0 : World} (h : Below w0.heap.size w0 w) (hg : w0.heap.size ≤ g) (a b c d : Value) : Below w0.heap.size w0 (set4 w g a b c d) :=
  (((h.setCell (p := { block := g, off := 0 }) hg a).setCell (p := { block := g, off := 1 }) hg b).setCell (p := { block := g, off := 2 }) hg c).setCell (p := { block := g, off := 3 }) hg d
theorem RdW.set4 {A B : Option Addr} {n c m d : Nat} {F : Nat → Nat} (h : RdW w A n c F) (hx : XB w g neg (.slice B m d) s f) (x0 x1 x2 x3 : Value) : RdW (set4 w g x0 x1 x2 x3) A n c F := by
  refine ⟨h.1, h.2.1, h.2.2.1, h.2.2.2.1, fun h0 => ?_⟩
  obtain ⟨ad, ha, hb, hcell⟩ := h.2.2.2.2 h0
  have hne : ad.block ≠ g := by
    intro e
    have h1 := hcell 0 h0
    unfold World.cell? at h1
    unfold XB at hx
    rw [block_add, e, hx] at h1
    simp only [] at h1
    split at h1
    · cases h1
    · have h2 := Array.mem_of_getElem? h1
      simp at h2
  refine ⟨ad, ha, by simpa using hb, fun i hi => ?_⟩
  rw [← hcell i hi]
  unfold World.cell?
  rw [block_add]
  have e : (Go.Proofs.Yteiajccjlbghoaa.set4 w g x0 x1 x2 x3).heap[ad.block]? = w.heap[ad.block]? := by
    rw [Deep.blk_setCell_other _ _ _ _ hne, Deep.blk_setCell_other _ _ _ _ hne, Deep.blk_setCell_other _ _ _ _ hne, Deep.blk_setCell_other _ _ _ _ hne]
  simp only [e]
end
/-- what small leaves: of twelve words, powers up to m -/
structure Sm (m : Nat) (M : Nat) (s f : Int) : Prop where
  bits : bitsN M ≤ 768
  s1 : -(m : Int) ≤ s
  s2 : s ≤ m
  f1 : -(m : Int) ≤ f
  f2 : f ≤ m
theorem Sm.ok {m M : Nat} {s f : Int} (h : Sm m M s f) (hm : m ≤ 5000) {w : World} {v : Value} (hi : IsN w v M) : XOk w v M s f :=
  ⟨hi, Nat.le_trans h.bits (by decide), by have := h.s1; omega, by have := h.s2; omega, by have := h.f1; omega, by have := h.f2; omega⟩
theorem tmod_range (s : Int) (m : Nat) : -(m : Int) ≤ s.tmod ((m + 1 : Nat) : Int) ∧ s.tmod ((m + 1 : Nat) : Int) ≤ m := by
  have a1 := Int.natAbs_tmod s ((m + 1 : Nat) : Int)
  have a3 := Nat.mod_lt s.natAbs (show 0 < ((m + 1 : Nat) : Int).natAbs by omega)
  omega
theorem bitsN_le {M b : Nat} (h : M < 2 ^ b) : bitsN M ≤ b := by
  rcases Nat.eq_zero_or_pos M with h0 | h0
  · subst h0; exact Nat.zero_le _
  · have h1 := (bitsN_low h0)
    have := (Nat.pow_lt_pow_iff_right (a := 2) (by decide)).1 (Nat.lt_of_le_of_lt h1.1 h)
    omega
theorem small_X (neg : Bool) (A : Option Addr) (n c : Nat) (F : Nat → Nat) (s f : Int) (m : Nat) (w : World) (h : RdW w A n c F) (hm : m ≤ 5000) :
    Calls Try.prog 12 #[xv neg (.slice A n c) s f, .int .i64 m] w fun e w' => (∃ A' n' c', e = .returned (xv neg (.slice A' n' c') (s.tmod ((m + 1 : Nat) : Int)) (f.tmod ((m + 1 : Nat) : Int))) ∧ IsN w' (.slice A' n' c') (S F (min n 12))) ∧ Below w.heap.size w w' :=
  small_any neg A n c F s f m (m + 1) _ _ w h hm rfl rfl rfl
theorem twelve {n b : Nat} {F : Nat → Nat} (h : ∀ i, i < n → F i < Wd) (hb : 64 * n ≤ b) : bitsN (S F n) ≤ b := by
  apply bitsN_le
  have h3 := S_lt (F := F) (n := n) h
  rw [Wp_two] at h3
  exact Nat.lt_of_lt_of_le h3 (Nat.pow_le_pow_right (by decide) hb)
theorem small_sm (A : Option Addr) (n c : Nat) (F : Nat → Nat) (s f : Int) (m : Nat) (w : World) (h : RdW w A n c F) : Sm m (S F (min n 12)) (s.tmod ((m + 1 : Nat) : Int)) (f.tmod ((m + 1 : Nat) : Int)) := by
  have h1 := tmod_range s m
  have h2 := tmod_range f m
  exact ⟨twelve (fun i hi => h.word i (by omega)) (by omega), h1.1, h1.2, h2.1, h2.2⟩
theorem Lg.range {M : Nat} {s f k : Int} (h : Lg M s f k) (hs : -6000 ≤ s ∧ s ≤ 6000) (hf : -6000 ≤ f ∧ f ≤ 6000) (hb : bitsN M ≤ 9000) : -9800 ≤ k ∧ k ≤ 9700 := by
  obtain ⟨h1, h2, ⟨_, rfl⟩ | ⟨h0, h3, h4⟩⟩ := h
  · exact ⟨by decide, by decide⟩
  · constructor
    · rcases Int.lt_or_le k (-9800) with hk | hk
      · exfalso
        have := tenx_mono (j := k + 1) (k := -9800) (by omega) (by omega)
        have := lg_low (k := -9800) h0 hs hf (by decide) (by omega)
        omega
      · exact hk
    · rcases Int.lt_or_le 9700 k with hk | hk
      · exfalso
        have hd : -14000 ≤ d5 f ∧ d5 f ≤ 14000 := by
          rcases d5_form f with ⟨h3, h4⟩ | ⟨h3, h4⟩ <;> rw [h4] <;> omega
        have e : d5 9701 = 22525 := by decide
        have := far_less (M := M) (N := 1) (s := s) (f := f) (t := 9701) (g := 9701) h0 (by decide) (by omega) (by omega) (by omega) (by omega) (by rw [bitsN_one, e]; omega)
        have h5 := (cmpN_cases _ _).1.1 this
        have := tenx_mono (j := 9701) (k := k) (by omega) (by omega)
        unfold tenx at this h3
        omega
      · exact hk
end Go.Proofs.Yteiajccjlbghoaa

/- package scan's item. Conditions: as each theorem names them. package scan's words and word, at a text that is no word. Conditions: as each theorem names them. package scan's number of the texts that are asked for; a law for a scope whose jumps are taken one by one. Conditions: as each theorem names them. package scan's number of one digit. Conditions: as each theorem names them. package scan's number of -1e99. Conditions: as each theorem names them. -/
import Derived.Test.YtlmeobokpibifaaGreatDoorG17
import Derived.Test.YtlmeobokpibifaaGreatDoorG09
import Derived.Test.YtlmeobokpibifaaGreatDoorG14
import Derived.ScopeJumps
section
set_option linter.unusedSimpArgs false
set_option linter.unusedVariables false
set_option linter.unusedVariables false
namespace Go.Proofs.YtlmeobokpibifaaGreatDoor
open Go.RowKit

/-- a scan.Item that is a number -/
def itv (kd : Int) (neg : Bool) (v : Value) (k big : Int) (cut : Bool) : Value := .agg #[.int .i64 kd, .bool neg, v, .int .i64 k, .int .i64 big, .bool cut]
abbrev itbox (kd : Int) (neg : Bool) (v : Value) (k big : Int) (cut : Bool) : Obj := .cells #[.int .i64 kd, .bool neg, v, .int .i64 k, .int .i64 big, .bool cut] 61
theorem six_free {w : World} {g : Nat} {a b c d e f : Value} {t : TypeId} (hb : w.heap[g]? = some (.cells #[a, b, c, d, e, f] t (0, 0))) :
    (w.cell? { block := g, off := 0 } = some a ∧ w.cell? { block := g, off := 1 } = some b ∧ w.cell? { block := g, off := 2 } = some c ∧ w.cell? { block := g, off := 3 } = some d ∧ w.cell? { block := g, off := 4 } = some e ∧ w.cell? { block := g, off := 5 } = some f)
    ∧ w.frozen? { block := g, off := 0 } = false ∧ w.frozen? { block := g, off := 1 } = false ∧ w.frozen? { block := g, off := 2 } = false ∧ w.frozen? { block := g, off := 3 } = false ∧ w.frozen? { block := g, off := 4 } = false ∧ w.frozen? { block := g, off := 5 } = false := by
  refine ⟨⟨?_, ?_, ?_, ?_, ?_, ?_⟩, ?_, ?_, ?_, ?_, ?_, ?_⟩ <;> simp [World.cell?, World.frozen?, hb]
theorem al2 (w : World) (o1 o2 : Obj) : ((w.alloc o1).alloc o2).heap[w.heap.size]? = some o1 ∧ ((w.alloc o1).alloc o2).heap[w.heap.size + 1]? = some o2 := by
  have e1 : (w.alloc o1).heap.size = w.heap.size + 1 := by simp
  refine ⟨?_, ?_⟩
  · exact (Deep.blk_alloc_lt _ _ _ (by omega)).trans (Deep.blk_alloc_new _ _)
  · rw [← e1]; exact Deep.blk_alloc_new _ _
theorem tl_calls (l t : List UInt8) (w : World) (h : Lib.trimLeftB l 48 = t) :
    Calls Tryz.prog 70 #[.string ⟨l.toArray⟩, .string ⟨#[48]⟩] w fun e w' => e = .returned (.string ⟨t.toArray⟩) ∧ w = w' := by
  subst h
  refine (Tryz.strings_TrimLeft_one ⟨l.toArray⟩ 48 (by decide) w).mono ?_
  rintro e w' ⟨rfl, rfl⟩
  exact ⟨rfl, rfl⟩
theorem tr_calls (l t : List UInt8) (w : World) (h : Lib.trimRightB l 48 = t) (hl : l.length ≤ 1000) :
    Calls Tryz.prog 71 #[.string ⟨l.toArray⟩, .string ⟨#[48]⟩] w fun e w' => e = .returned (.string ⟨t.toArray⟩) ∧ w = w' := by
  subst h
  refine (Tryz.strings_TrimRight_one ⟨l.toArray⟩ 48 (by decide) w (by show l.toArray.size ≤ _; simp; omega)).mono ?_
  rintro e w' ⟨rfl, rfl⟩
  exact ⟨rfl, rfl⟩

set_option maxRecDepth 100000 in
set_option maxHeartbeats 1000000 in
theorem item_zero (l : List UInt8) (w : World) (hL : Lib.trimLeftB l 48 = []) :
    Calls Tryz.prog 41 #[.string ⟨l.toArray⟩, .int .i64 0] w fun en w' => en = .returned (itv 1 false (.slice none 0 0) 0 0 false) ∧ Below w.heap.size w w' := by
  have TL := Lib.hid (fun w' => tl_calls l [] w' hL)
  have TR := Lib.hid (fun w' => tr_calls [] [] w' rfl (by decide))
  have HB := Lib.hid (bgrow (bgrow (Below.refl w.heap.size w) (itbox 0 false (.slice none 0 0) 0 0 false)) (itbox 1 false (.slice none 0 0) 0 0 false))
  have e0 := nil_empty
  clear hL
  unfold itbox itv at *
  go_enter Tryz.func41, Tryz.ntmps41
  go_wp2_with fail
  with_reducible (refine (TL.out _).mono ?_)
  rintro e w1 ⟨rfl, rfl⟩
  go_wp2_with fail
  with_reducible (refine (TR.out _).mono ?_)
  rintro e w1 ⟨rfl, rfl⟩
  go_wp2_with fail
  have HZ := Lib.hid (bgrow (bgrow (Below.refl w.heap.size w) (.cells #[.int .i64 1, .bool false, .slice none 0 0, .int .i64 0, .int .i64 0, .bool false] 61)) (.cells #[.int .i64 1, .bool false, .slice none 0 0, .int .i64 0, .int .i64 0, .bool false] 61))
  obtain ⟨⟨d0, d1, d2, d3, d4, d5⟩, -⟩ := six_free (al2 w (.cells #[.int .i64 1, .bool false, .slice none 0 0, .int .i64 0, .int .i64 0, .bool false] 61) (.cells #[.int .i64 1, .bool false, .slice none 0 0, .int .i64 0, .int .i64 0, .bool false] 61)).1
  refine bodyPost_ret (v := .agg #[.int .i64 1, .bool false, .slice none 0 0, .int .i64 0, .int .i64 0, .bool false]) (by simp [results, Tryz.results41, go_sem, d0, d1, d2, d3, d4, d5]) rfl ⟨rfl, HZ.out⟩

theorem six_put {w : World} {g : Nat} {a b c d e f a' b' c' d' e' f' : Value} {t : TypeId} (hb : w.heap[g]? = some (.cells #[a, b, c, d, e, f] t (0, 0))) : ((((((w.setCell { block := g, off := 0 } a').setCell { block := g, off := 1 } b').setCell { block := g, off := 2 } c').setCell { block := g, off := 3 } d').setCell { block := g, off := 4 } e').setCell { block := g, off := 5 } f').heap[g]? = some (.cells #[a', b', c', d', e', f'] t (0, 0)) := by
  simp [World.setCell, Array.getElem?_modify, hb]
theorem isn_put2 {w : World} {u : Value} {N : Nat} (h : IsN w u N) {g : Nat} {a b : Bool} {A : Option Addr} {n c : Nat} {k1 k2 k3 : Int} (hx : w.heap[g]? = some (.cells #[.int .i64 k1, .bool a, .slice A n c, .int .i64 k2, .int .i64 k3, .bool b] 61 (0, 0))) (x2 x3 : Value) : IsN ((w.setCell { block := g, off := 2 } x2).setCell { block := g, off := 3 } x3) u N :=
  IsN.off h hx (by intro x hx z; simp at hx; rcases hx with rfl | rfl | rfl | rfl | rfl | rfl <;> simp) (by simp) (fun k hk => by iterate 2 rw [Deep.blk_setCell_other _ _ _ _ hk])
theorem isn_put6 {w : World} {u : Value} {N : Nat} (h : IsN w u N) {g : Nat} {a b : Bool} {A : Option Addr} {n c : Nat} {k1 k2 k3 : Int} (hx : w.heap[g]? = some (.cells #[.int .i64 k1, .bool a, .slice A n c, .int .i64 k2, .int .i64 k3, .bool b] 61 (0, 0))) (x0 x1 x2 x3 x4 x5 : Value) : IsN ((((((w.setCell { block := g, off := 0 } x0).setCell { block := g, off := 1 } x1).setCell { block := g, off := 2 } x2).setCell { block := g, off := 3 } x3).setCell { block := g, off := 4 } x4).setCell { block := g, off := 5 } x5) u N :=
  IsN.off h hx (by intro x hx z; simp at hx; rcases hx with rfl | rfl | rfl | rfl | rfl | rfl <;> simp) (by simp) (fun k hk => by iterate 6 rw [Deep.blk_setCell_other _ _ _ _ hk])
theorem below6 {B : Nat} {a w : World} (h : Below B a w) {g : Nat} (hg : B ≤ g) (x0 x1 x2 x3 x4 x5 : Value) : Below B a ((((((w.setCell { block := g, off := 0 } x0).setCell { block := g, off := 1 } x1).setCell { block := g, off := 2 } x2).setCell { block := g, off := 3 } x3).setCell { block := g, off := 4 } x4).setCell { block := g, off := 5 } x5) :=
  (((((h.setCell (p := { block := g, off := 0 }) hg x0).setCell (p := { block := g, off := 1 }) hg x1).setCell (p := { block := g, off := 2 }) hg x2).setCell (p := { block := g, off := 3 }) hg x3).setCell (p := { block := g, off := 4 }) hg x4).setCell (p := { block := g, off := 5 }) hg x5
set_option maxRecDepth 100000 in
set_option maxHeartbeats 1000000 in
theorem item_num (l t : List UInt8) (k : Int) (N : Nat) (w : World) (hL : Lib.trimLeftB l 48 = t) (hR : Lib.trimRightB t 48 = t) (ht : t ≠ []) (htl : t.length ≤ 10) (hk : -200 ≤ k ∧ k ≤ 200)
    (NP : Hid (∀ w', Calls Tryz.prog 72 #[tv t] w' fun en w'' => (∃ A n c, en = .returned (.tuple #[.slice A n c, .bool true]) ∧ IsN w'' (.slice A n c) N) ∧ Below w'.heap.size w' w'')) :
    Calls Tryz.prog 41 #[.string ⟨l.toArray⟩, .int .i64 k] w fun en w' => (∃ A n c, en = .returned (itv 1 false (.slice A n c) k 0 false) ∧ IsN w' (.slice A n c) N) ∧ Below w.heap.size w w' := by
  have TL := Lib.hid (fun w' => tl_calls l t w' hL)
  have TR := Lib.hid (fun w' => tr_calls t t w' hR (by omega))
  have HB := Lib.hid (bgrow (bgrow (Below.refl w.heap.size w) (itbox 0 false (.slice none 0 0) 0 0 false)) (itbox 1 false (.slice none 0 0) 0 0 false))
  have B4 := Lib.hid (al2 w (itbox 0 false (.slice none 0 0) 0 0 false) (itbox 1 false (.slice none 0 0) 0 0 false)).1
  have B5 := Lib.hid (al2 w (itbox 0 false (.slice none 0 0) 0 0 false) (itbox 1 false (.slice none 0 0) 0 0 false)).2
  have e0 : ((⟨t.toArray⟩ : ByteArray).toList.isEmpty) = false := by
    rw [Lib.toList_data]
    show t.isEmpty = false
    cases t with
    | nil => exact absurd rfl ht
    | cons _ _ => rfl
  have e1 : t.isEmpty = false := by
    cases t with
    | nil => exact absurd rfl ht
    | cons _ _ => rfl
  have htp : 1 ≤ t.length := by
    cases t with
    | nil => exact absurd rfl ht
    | cons _ _ => simp
  obtain ⟨m, hm⟩ : ∃ m, t.length = m := ⟨_, rfl⟩
  have n0 : IntKind.i64.wrap (k + 0) = k := by rw [Int.add_zero]; exact IntWalk.i64_in _ (by omega)
  have n0' : IntKind.i64.wrap k = k := IntWalk.i64_in _ (by omega)
  have n1 : IntKind.i64.wrap ((m : Int) + k) = (m : Int) + k := IntWalk.i64_in _ (by omega)
  have n2 : IntKind.i64.wrap ((m : Int) + k - 1) = (m : Int) + k - 1 := IntWalk.i64_in _ (by omega)
  have q1 : decide (1000 ≤ (m : Int) + k - 1) = false := decide_eq_false (by omega)
  have q2 : decide ((m : Int) + k - 1 < -1000) = false := decide_eq_false (by omega)
  have q3 : decide ((1990 : Int) < (m : Int)) = false := decide_eq_false (by omega)
  have q3' : decide (1990 < m) = false := decide_eq_false (by omega)
  clear hL hR ht htl hk htp
  unfold itbox itv tv at *
  go_enter Tryz.func41, Tryz.ntmps41
  go_wp2_with fail
  generalize ((w.alloc (.cells #[.int .i64 0, .bool false, .slice none 0 0, .int .i64 0, .int .i64 0, .bool false] 61)).alloc (.cells #[.int .i64 1, .bool false, .slice none 0 0, .int .i64 0, .int .i64 0, .bool false] 61)) = WB at HB B4 B5 ⊢
  with_reducible (refine (TL.out _).mono ?_)
  rintro e w1 ⟨rfl, rfl⟩
  go_wp2_with fail
  with_reducible (refine (TR.out _).mono ?_)
  rintro e w1 ⟨rfl, rfl⟩
  go_wp2_with fail
  with_reducible (refine (NP.out _).mono ?_)
  rintro e w1 ⟨⟨A, n, c, rfl, hi⟩, b1⟩
  have HB1 := Lib.hid (bthen HB.out b1)
  have C4 := Lib.hid ((b1.block _ (blk_lt B4.out)).trans B4.out)
  have C5 := Lib.hid ((b1.block _ (blk_lt B5.out)).trans B5.out)
  have HI := Lib.hid hi
  clear b1 hi HB B4 B5
  obtain ⟨⟨d0, d1, d2, d3, d4, d5⟩, f0, f1, f2, f3, f4, f5⟩ := six_free C4.out
  obtain ⟨⟨g0, g1, g2, g3, g4, g5⟩, h0, h1, h2, h3, h4, h5⟩ := six_free C5.out
  have hne : ¬ w.heap.size = w.heap.size + 1 := by omega
  have hne' : ¬ w.heap.size + 1 = w.heap.size := by omega
  go_wp2_with fail
  have I2 := Lib.hid (isn_put2 HI.out C5.out (.slice A n c) (.int .i64 k))
  have D4 := Lib.hid (show ((w1.setCell { block := w.heap.size + 1, off := 2 } (.slice A n c)).setCell { block := w.heap.size + 1, off := 3 } (.int .i64 k)).heap[w.heap.size]? = _ from (Deep.blk_setCell_other _ _ _ _ hne).trans ((Deep.blk_setCell_other _ _ _ _ hne).trans C4.out))
  have HB2 := Lib.hid ((HB1.out.setCell (p := { block := w.heap.size + 1, off := 2 }) (by simp) (.slice A n c)).setCell (p := { block := w.heap.size + 1, off := 3 }) (by simp) (.int .i64 k))
  clear d0 d1 d2 d3 d4 d5 f0 f1 f2 f3 f4 f5 g0 g1 g2 g3 g4 g5 h0 h1 h2 h3 h4 h5
  generalize (w1.setCell { block := w.heap.size + 1, off := 2 } (.slice A n c)).setCell { block := w.heap.size + 1, off := 3 } (.int .i64 k) = W2 at I2 D4 HB2 ⊢
  have P6 := six_put (a' := .int .i64 1) (b' := .bool false) (c' := .slice A n c) (d' := .int .i64 k) (e' := .int .i64 0) (f' := .bool false) D4.out
  have I3 := Lib.hid (isn_put6 I2.out D4.out (.int .i64 1) (.bool false) (.slice A n c) (.int .i64 k) (.int .i64 0) (.bool false))
  have HB3 := Lib.hid (below6 HB2.out (g := w.heap.size) (Nat.le_refl _) (.int .i64 1) (.bool false) (.slice A n c) (.int .i64 k) (.int .i64 0) (.bool false))
  obtain ⟨⟨d0, d1, d2, d3, d4, d5⟩, -⟩ := six_free P6
  refine bodyPost_ret (v := .agg #[.int .i64 1, .bool false, .slice A n c, .int .i64 k, .int .i64 0, .bool false]) (by simp [results, Tryz.results41, go_sem, d0, d1, d2, d3, d4, d5]) rfl ⟨⟨_, _, _, rfl, I3.out⟩, HB3.out⟩
end Go.Proofs.YtlmeobokpibifaaGreatDoor
end

section
set_option linter.unusedSimpArgs false
set_option linter.unusedVariables false
set_option linter.unusedVariables false
namespace Go.Proofs.YtlmeobokpibifaaGreatDoor
open Go.RowKit

/-- the words' cells -/
abbrev wbox : Obj := .cells #[.string ⟨#[]⟩, .string ⟨#[]⟩, .string ⟨#[105, 110, 102]⟩, .string ⟨#[110, 97, 110]⟩, .string ⟨#[78, 97, 82]⟩] 9
theorem words_all (w : World) :
    Calls Tryz.prog 68 #[] w fun e w' => e = .returned (.slice (some ⟨w.heap.size, 0, none⟩) 5 5) ∧ w' = w.alloc wbox := by
  go_enter Tryz.func68, Tryz.ntmps68
  go_wp2_with fail
  go_ret
  exact ⟨rfl, rfl⟩

theorem five_cells {w : World} {g : Nat} {a b c d e : Value} {t : TypeId} (hb : w.heap[g]? = some (.cells #[a, b, c, d, e] t (0, 0))) :
    w.cell? { block := g, off := 0 } = some a ∧ w.cell? { block := g, off := 1 } = some b ∧ w.cell? { block := g, off := 2 } = some c ∧ w.cell? { block := g, off := 3 } = some d ∧ w.cell? { block := g, off := 4 } = some e := by
  refine ⟨?_, ?_, ?_, ?_, ?_⟩ <;> simp [World.cell?, hb]
set_option maxHeartbeats 2000000 in
/-- word, where a digit stands -/
theorem word_none (l : List UInt8) (p : Nat) (d : UInt8) (w : World) (hd : l[p]? = some d) (h1 : 48 ≤ d.toNat) (h2 : d.toNat ≤ 57) (hl : l.length ≤ 1000) :
    Calls Tryz.prog 39 #[tv l, .int .i64 p] w fun e w' => e = .returned (.tuple #[.int .i64 0, .int .i64 p, .bool false]) ∧ Below w.heap.size w w' := by
  have hp : p < l.length := by
    rcases Nat.lt_or_ge p l.length with h | h
    · exact h
    · rw [List.getElem?_eq_none h] at hd; cases hd
  have WO := Lib.hid (words_all w)
  have HB := Lib.hid (bgrow (Below.refl w.heap.size w) wbox)
  have BX : Hid ((w.alloc wbox).heap[w.heap.size]? = some (.cells #[.string ⟨#[]⟩, .string ⟨#[]⟩, .string ⟨#[105, 110, 102]⟩, .string ⟨#[110, 97, 110]⟩, .string ⟨#[78, 97, 82]⟩] 9 (0, 0))) := Lib.hid (Deep.blk_alloc_new _ _)
  have HP := Lib.hid (And.intro hd (And.intro h1 (And.intro h2 (And.intro hl hp))))
  clear hd h1 h2 hl hp
  unfold wbox at *
  go_enter Tryz.func39, Tryz.ntmps39
  go_wp2_with fail
  with_reducible (refine WO.out.mono ?_)
  rintro e w1 ⟨rfl, rfl⟩
  go_wp2_with fail
  obtain ⟨hd, h1, h2, hl, hp⟩ := HP.out
  have hix : (({ data := l.toArray } : ByteArray)[p]'(by show p < l.toArray.size; simpa using hp)) = d := by
    have e : l[p] = d := by
      have := List.getElem?_eq_getElem hp
      rw [hd] at this; exact (Option.some.inj this).symm
    exact e
  have hpl : decide ((p : Int) < (l.length : Int)) = true := decide_eq_true (by omega)
  have hpl2 : decide (p < l.length) = true := decide_eq_true hp
  have n1 : IntKind.i64.wrap ((p : Int) + 0) = (p : Int) := IntWalk.i64_in _ (by omega)
  have n2 : IntKind.i64.wrap (p : Int) = (p : Int) := IntWalk.i64_in _ (by omega)
  have q1 : ((d.toNat : Int) == 105) = false := by simp; omega
  have q2 : ((d.toNat : Int) == 110) = false := by simp; omega
  have q3 : ((d.toNat : Int) == 78) = false := by simp; omega
  have n3 : ((p : Int) == (l.length : Int)) = false := by simp; omega
  have y1 : ((d.toNat : Int) == ((({ data := #[105, 110, 102] } : ByteArray)[0]'(by decide)).toNat : Int)) = false := q1
  have y2 : ((d.toNat : Int) == ((({ data := #[110, 97, 110] } : ByteArray)[0]'(by decide)).toNat : Int)) = false := q2
  have y3 : ((d.toNat : Int) == ((({ data := #[78, 97, 82] } : ByteArray)[0]'(by decide)).toNat : Int)) = false := q3
  clear hd h1 h2 hl q1 q2 q3
  have HBr := Lib.hid (Below.refl (w.alloc (.cells #[.string ⟨#[]⟩, .string ⟨#[]⟩, .string ⟨#[105, 110, 102]⟩, .string ⟨#[110, 97, 110]⟩, .string ⟨#[78, 97, 82]⟩] 9)).heap.size (w.alloc (.cells #[.string ⟨#[]⟩, .string ⟨#[]⟩, .string ⟨#[105, 110, 102]⟩, .string ⟨#[110, 97, 110]⟩, .string ⟨#[78, 97, 82]⟩] 9)))
  generalize w.alloc (.cells #[.string ⟨#[]⟩, .string ⟨#[]⟩, .string ⟨#[105, 110, 102]⟩, .string ⟨#[110, 97, 110]⟩, .string ⟨#[78, 97, 82]⟩] 9) = WB at HB BX HBr ⊢
  go_loopw [13, 5] (fun i at_ wr => ∃ k : Nat, k ≤ 5 ∧ i = .int .i64 k ∧ at_ = .int .i64 p ∧ Hid (Below WB.heap.size WB wr)) (fun i _ _ => (5 - intOf i).toNat)
  case atStart => exact ⟨0, by decide, rfl, rfl, HBr⟩
  case round =>
    obtain ⟨k, hk, rfl, rfl, hB⟩ := hrel
    have BR := Lib.hid ((hB.out.block _ (blk_lt BX.out)).trans BX.out)
    obtain ⟨c0, c1, c2, c3, c4⟩ := five_cells BR.out
    rcases (show k = 0 ∨ k = 1 ∨ k = 2 ∨ k = 3 ∨ k = 4 ∨ k = 5 from by omega) with rfl | rfl | rfl | rfl | rfl | rfl
    case inr.inr.inr.inr.inr =>
      go_wp2_with fail
      go_ret3
      exact ⟨rfl, bthen HB.out hB.out⟩
    all_goals
      go_wp2_with fail
      go_loopw [9] (fun n wq => n = .int .i64 0 ∧ Hid (Below WB.heap.size WB wq)) (fun _ _ => 0)
      case atStart => exact ⟨rfl, hB⟩
      case round =>
        obtain ⟨rfl, hB2⟩ := hrel
        go_wp2_with fail
        go_quiet (fail)
        have hB3 := Lib.hid (bdrewN hB2.out nq)
        generalize wr.drewN nq = W7 at hB3 ⊢
        go_wp2_with fail
        go_roundw
        case rel => exact ⟨_, by decide, rfl, rfl, hB3⟩
        case measure => simp [intOf]
end Go.Proofs.YtlmeobokpibifaaGreatDoor
end

section
set_option linter.unusedSimpArgs false
set_option linter.unusedVariables false
set_option linter.unusedVariables false
namespace Go.Proofs.YtlmeobokpibifaaGreatDoor
open Go.RowKit

/-- as Q; by a goto: to that label's code, where U must hold -/
def hop (c : Code) (U : Code → Act → World → Prop) (Q : Exit → Act → World → Prop) : Exit → Act → World → Prop
  | .goto l, a, w => ∃ r, findLabel c l = some r ∧ U r a w
  | e, a, w => Q e a w
theorem hop_ret {c : Code} {U : Code → Act → World → Prop} {Q : Exit → Act → World → Prop} {a : Act} {w : World} : hop c U Q .ret a w = Q .ret a w := rfl
/-- with n jumps at most -/
def Hops (P : Program) (c : Code) (Q : Exit → Act → World → Prop) : Nat → Code → Act → World → Prop
  | 0, _, _, _ => False
  | n + 1, r, a, w => r.wp P (hop c (Hops P c Q n) Q) a w
theorem wp_scope_hops {P : Program} {a : Act} {w : World} {Q : Exit → Act → World → Prop} {c : Code} (n : Nat) (h : Hops P c Q n c a w) : (Code.scope c).wp P Q a w := by
  intro b k cs
  have key : ∀ n r a w, Hops P c Q n r a w → ∃ e a' w', Q e a' w' ∧ Arrives P (lone (b.at a (.code r :: .inScope c :: k)) cs w) b k cs e a' w' := by
    intro n
    induction n with
    | zero => intro r a w h; exact h.elim
    | succ n ih =>
      intro r a w h
      obtain ⟨e, a₁, w₁, hq, harr⟩ := h b (.inScope c :: k) cs
      cases e with
      | normal => exact ⟨.normal, a₁, w₁, hq, Steps.trans harr (.one step_inScope)⟩
      | exit id => exact ⟨.exit id, a₁, w₁, hq, fun k' hk => harr k' (by simp [exitTo, hk])⟩
      | goto l =>
        obtain ⟨r', hf, hU⟩ := hq
        have hg : gotoIn l (.inScope c :: k) = some (.code r' :: .inScope c :: k) := by simp [gotoIn, hf]
        obtain ⟨e₂, a₂, w₂, hq₂, harr₂⟩ := ih r' a₁ w₁ hU
        exact ⟨e₂, a₂, w₂, hq₂, .of_steps (harr _ hg) harr₂⟩
      | ret => exact ⟨_, a₁, w₁, hq, harr⟩
      | panic ch => exact ⟨_, a₁, w₁, hq, harr⟩
      | outgrown => exact ⟨_, a₁, w₁, hq, harr⟩
  obtain ⟨e, a₁, w₁, hq, harr⟩ := key n c a w h
  cases e with
  | normal => exact ⟨.normal, a₁, w₁, hq, .head step_scope harr⟩
  | exit id => exact ⟨.exit id, a₁, w₁, hq, fun k' hk => .head step_scope (harr k' hk)⟩
  | goto l => exact ⟨.goto l, a₁, w₁, hq, fun k' hk => .head step_scope (harr k' hk)⟩
  | ret => exact ⟨_, a₁, w₁, hq, .of_steps (.one step_scope) harr⟩
  | panic ch => exact ⟨_, a₁, w₁, hq, .of_steps (.one step_scope) harr⟩
  | outgrown => exact ⟨_, a₁, w₁, hq, .of_steps (.one step_scope) harr⟩

/-- where number keeps its text, and its place in it -/
structure NB (w : World) (gs ga : Nat) (l : List UInt8) (i : Int) : Prop where
  ne : gs ≠ ga
  s : w.heap[gs]? = some (.cells #[tv l] 9 (0, 0))
  a : w.heap[ga]? = some (.cells #[.int .i64 i] 3 (0, 0))
theorem NB.step {w : World} {gs ga : Nat} {l : List UInt8} {i : Int} (h : NB w gs ga l i) (j : Int) : NB (w.setCell ⟨ga, 0, none⟩ (.int .i64 j)) gs ga l j :=
  ⟨h.ne, (Deep.blk_setCell_other _ _ _ _ h.ne).trans h.s, by simp [World.setCell, Array.getElem?_modify, h.a]⟩
theorem NB.cells {w : World} {gs ga : Nat} {l : List UInt8} {i : Int} (h : NB w gs ga l i) : w.cell? { block := gs, off := 0 } = some (tv l) ∧ w.cell? { block := ga, off := 0 } = some (.int .i64 i) ∧ w.frozen? { block := ga, off := 0 } = false := by
  refine ⟨?_, ?_, ?_⟩ <;> simp [World.cell?, World.frozen?, h.s, h.a]
theorem NB.drewN {w : World} {gs ga : Nat} {l : List UInt8} {i : Int} (h : NB w gs ga l i) (n : Nat) : NB (w.drewN n) gs ga l i := ⟨h.ne, h.s, h.a⟩
theorem dig_end (gs ga : Nat) (l : List UInt8) (i : Nat) (w : World) (h : NB w gs ga l i) (hi : i = l.length) :
    Calls Tryz.prog 69 #[.pointer (some ⟨ga, 0, none⟩), .pointer (some ⟨gs, 0, none⟩)] w fun e w' => e = .returned (.bool false) ∧ w = w' := by
  obtain ⟨c0, c1, -⟩ := h.cells
  have u1 : decide ((i : Int) < (l.length : Int)) = false := decide_eq_false (by omega)
  have u2 : decide (i < l.length) = false := decide_eq_false (by omega)
  clear h hi
  go_enter Tryz.func69, Tryz.ntmps69
  go_wp2_with fail
  go_ret
  exact ⟨rfl, rfl⟩
theorem dig_at (gs ga : Nat) (l : List UInt8) (i : Nat) (d : UInt8) (b : Bool) (w : World) (h : NB w gs ga l i) (hd : l[i]? = some d) (hb : (decide (48 ≤ d.toNat) && decide (d.toNat ≤ 57)) = b) :
    Calls Tryz.prog 69 #[.pointer (some ⟨ga, 0, none⟩), .pointer (some ⟨gs, 0, none⟩)] w fun e w' => e = .returned (.bool b) ∧ w = w' := by
  obtain ⟨c0, c1, -⟩ := h.cells
  have hp : i < l.length := by
    rcases Nat.lt_or_ge i l.length with h | h
    · exact h
    · rw [List.getElem?_eq_none h] at hd; cases hd
  have u1 : decide ((i : Int) < (l.length : Int)) = true := decide_eq_true (by omega)
  have u2 : decide (i < l.length) = true := decide_eq_true (by omega)
  have hix : (({ data := l.toArray } : ByteArray)[i]'(by show i < l.toArray.size; simpa using hp)) = d := by
    have e : l[i] = d := by
      have := List.getElem?_eq_getElem hp
      rw [hd] at this; exact (Option.some.inj this).symm
    exact e
  clear h hd
  by_cases h1 : 48 ≤ d.toNat
  · have v1 : decide ((48 : Int) ≤ (d.toNat : Int)) = true := decide_eq_true (by omega)
    have v1' : decide (48 ≤ d.toNat) = true := decide_eq_true h1
    rw [v1', Bool.true_and] at hb
    have v2 : decide ((d.toNat : Int) ≤ 57) = b := by rw [← hb]; exact decide_eq_decide.2 (by omega)
    clear h1 hb
    go_enter Tryz.func69, Tryz.ntmps69
    go_wp2_with fail
    go_ret
    exact ⟨rfl, rfl⟩
  · have v1 : decide ((48 : Int) ≤ (d.toNat : Int)) = false := decide_eq_false (by omega)
    have v1' : decide (48 ≤ d.toNat) = false := decide_eq_false h1
    rw [v1', Bool.false_and] at hb
    subst hb
    clear h1
    go_enter Tryz.func69, Tryz.ntmps69
    go_wp2_with fail
    go_ret
    exact ⟨rfl, rfl⟩
end Go.Proofs.YtlmeobokpibifaaGreatDoor
end

section
set_option linter.unusedSimpArgs false
set_option linter.unusedVariables false
set_option linter.unusedVariables false
namespace Go.Proofs.YtlmeobokpibifaaGreatDoor
open Go.RowKit

set_option maxRecDepth 100000 in
set_option maxHeartbeats 2000000 in
theorem num_d (d : UInt8) (w : World) (h1 : 48 ≤ d.toNat) (h2 : d.toNat ≤ 57) :
    Calls Tryz.prog 40 #[tv [d], .int .i64 0] w fun e w' => e = .returned (.tuple #[tv [d], .int .i64 0, .int .i64 0, .int .i64 1, .bool true]) ∧ Below w.heap.size w w' := by
  have HB := Lib.hid (bgrow (bgrow (Below.refl w.heap.size w) (.cells #[tv [d]] 9)) (.cells #[.int .i64 0] 3))
  have N0 : Hid (NB ((w.alloc (.cells #[tv [d]] 9)).alloc (.cells #[.int .i64 0] 3)) w.heap.size (w.heap.size + 1) [d] 0) := Lib.hid ⟨by omega, (Deep.blk_alloc_lt _ _ _ (by simp)).trans (Deep.blk_alloc_new _ _), by
    have e : (w.alloc (.cells #[tv [d]] 9)).heap.size = w.heap.size + 1 := by simp
    rw [← e]; exact Deep.blk_alloc_new _ _⟩
  have D0 := Lib.hid (fun w' h => dig_at w.heap.size (w.heap.size + 1) [d] 0 d true w' h rfl (by rw [decide_eq_true h1, decide_eq_true h2]; rfl))
  have D1 := Lib.hid (fun w' h => dig_end w.heap.size (w.heap.size + 1) [d] 1 w' h rfl)
  clear h1 h2
  go_enter Tryz.func40, Tryz.ntmps40
  go_wp2_with fail
  refine wp_scope_hops 4 ?_
  unfold Hops
  go_wp2_with fail
  refine wp_label ?_
  go_wp2_with fail
  generalize ((w.alloc (.cells #[tv [d]] 9)).alloc (.cells #[.int .i64 0] 3)) = WB at HB N0 ⊢
  with_reducible (refine (D0.out _ N0.out).mono ?_)
  rintro e w1 ⟨rfl, rfl⟩
  obtain ⟨c0, c1, f1⟩ := N0.out.cells
  go_wp2_with fail
  refine wp_goto ?_
  refine ⟨_, rfl, ?_⟩
  unfold Hops
  have HB1 := Lib.hid (HB.out.setCell (p := ⟨w.heap.size + 1, 0, none⟩) (by simp) (.int .i64 1))
  have N1 := Lib.hid (N0.out.step 1)
  clear c0 c1 f1 HB N0
  generalize WB.setCell ⟨w.heap.size + 1, 0, none⟩ (.int .i64 1) = W1 at HB1 N1 ⊢
  go_wp2_with fail
  with_reducible (refine (D1.out _ N1.out).mono ?_)
  rintro e w1 ⟨rfl, rfl⟩
  obtain ⟨c0, c1, f1⟩ := N1.out.cells
  go_wp2_with fail
  refine wp_goto ?_
  refine ⟨_, rfl, ?_⟩
  unfold Hops
  have hx : (({ data := #[d] } : ByteArray).extract 0 1) = ⟨#[d]⟩ := rfl
  rw [hx]
  have he : (({ data := #[d] } : ByteArray).toList.isEmpty) = false := by rw [Lib.toList_data]; rfl
  go_wp2_with fail
  go_quiet (fail)
  have HB2 := Lib.hid (bdrewN HB1.out nq)
  generalize W1.drewN nq = W2 at HB2 ⊢
  go_wp2_with fail
  rw [hop_ret]
  refine bodyPost_ret (v := .tuple #[tv [d], .int .i64 0, .int .i64 0, .int .i64 1, .bool true]) (by simp [results, Tryz.results40, go_sem]) rfl ⟨rfl, HB2.out⟩
end Go.Proofs.YtlmeobokpibifaaGreatDoor
end

section
set_option linter.unusedSimpArgs false
set_option linter.unusedVariables false
set_option linter.unusedVariables false
namespace Go.Proofs.YtlmeobokpibifaaGreatDoor
open Go.RowKit

/-- where number stands in the exponent of -1e99 -/
def NumE (w : World) (x : Int) (wr : World) : Prop :=
  (x = 0 ∧ Hid (NB wr w.heap.size (w.heap.size + 1) [45, 49, 101, 57, 57] 3) ∧ Hid (Below w.heap.size w wr)) ∨ (x = 9 ∧ Hid (NB wr w.heap.size (w.heap.size + 1) [45, 49, 101, 57, 57] 4) ∧ Hid (Below w.heap.size w wr)) ∨ (x = 99 ∧ Hid (NB wr w.heap.size (w.heap.size + 1) [45, 49, 101, 57, 57] 5) ∧ Hid (Below w.heap.size w wr))

set_option maxRecDepth 100000 in
set_option maxHeartbeats 4000000 in
theorem num_exp (w : World) :
    Calls Tryz.prog 40 #[tv [45, 49, 101, 57, 57], .int .i64 1] w fun en w' => en = .returned (.tuple #[tv [49], .int .i64 0, .int .i64 99, .int .i64 5, .bool true]) ∧ Below w.heap.size w w' := by
  have HB := Lib.hid (bgrow (bgrow (Below.refl w.heap.size w) (.cells #[tv [45, 49, 101, 57, 57]] 9)) (.cells #[.int .i64 1] 3))
  have N0 : Hid (NB ((w.alloc (.cells #[tv [45, 49, 101, 57, 57]] 9)).alloc (.cells #[.int .i64 1] 3)) w.heap.size (w.heap.size + 1) [45, 49, 101, 57, 57] 1) := Lib.hid ⟨by omega, (Deep.blk_alloc_lt _ _ _ (by simp)).trans (Deep.blk_alloc_new _ _), by
    have e : (w.alloc (.cells #[tv [45, 49, 101, 57, 57]] 9)).heap.size = w.heap.size + 1 := by simp
    rw [← e]; exact Deep.blk_alloc_new _ _⟩
  have D1 := Lib.hid (fun w' h => dig_at w.heap.size (w.heap.size + 1) [45, 49, 101, 57, 57] 1 49 true w' h rfl (by decide))
  have D2 := Lib.hid (fun w' h => dig_at w.heap.size (w.heap.size + 1) [45, 49, 101, 57, 57] 2 101 false w' h rfl (by decide))
  have D3 := Lib.hid (fun w' h => dig_at w.heap.size (w.heap.size + 1) [45, 49, 101, 57, 57] 3 57 true w' h rfl (by decide))
  have D4 := Lib.hid (fun w' h => dig_at w.heap.size (w.heap.size + 1) [45, 49, 101, 57, 57] 4 57 true w' h rfl (by decide))
  have D5 := Lib.hid (fun w' h => dig_end w.heap.size (w.heap.size + 1) [45, 49, 101, 57, 57] 5 w' h rfl)
  go_enter Tryz.func40, Tryz.ntmps40
  go_wp2_with fail
  refine wp_scope_hops 8 ?_
  unfold Hops
  go_wp2_with fail
  refine wp_label ?_
  go_wp2_with fail
  generalize ((w.alloc (.cells #[tv [45, 49, 101, 57, 57]] 9)).alloc (.cells #[.int .i64 1] 3)) = WB at HB N0 ⊢
  with_reducible (refine (D1.out _ N0.out).mono ?_)
  rintro e_ w1 ⟨rfl, rfl⟩
  obtain ⟨c0, c1, f1⟩ := N0.out.cells
  go_wp2_with fail
  refine wp_goto ?_
  refine ⟨_, rfl, ?_⟩
  unfold Hops
  have HB1 := Lib.hid (HB.out.setCell (p := ⟨w.heap.size + 1, 0, none⟩) (by simp) (.int .i64 2))
  have N1_ := Lib.hid (N0.out.step 2)
  clear c0 c1 f1 HB N0
  generalize WB.setCell ⟨w.heap.size + 1, 0, none⟩ (.int .i64 2) = W1 at HB1 N1_ ⊢
  go_wp2_with fail
  with_reducible (refine (D2.out _ N1_.out).mono ?_)
  rintro e_ w1 ⟨rfl, rfl⟩
  obtain ⟨c0, c1, f1⟩ := N1_.out.cells
  have hy : (((({ data := #[45, 49, 101, 57, 57] } : ByteArray)[2]'(by decide)).toNat : Int) != 46) = true := rfl
  go_wp2_with fail
  refine wp_goto ?_
  refine ⟨_, rfl, ?_⟩
  unfold Hops
  have hx1 : (({ data := #[45, 49, 101, 57, 57] } : ByteArray).extract 1 2) = ⟨#[49]⟩ := rfl
  rw [hx1]
  have he : ((⟨#[49]⟩ : ByteArray).toList.isEmpty) = false := by rw [Lib.toList_data]; rfl
  obtain ⟨c0, c1, f1⟩ := N1_.out.cells
  have hv2 : (((({ data := #[45, 49, 101, 57, 57] } : ByteArray)[2]'(by decide)).toNat : Int)) = 101 := rfl
  have hv3 : (((({ data := #[45, 49, 101, 57, 57] } : ByteArray)[3]'(by decide)).toNat : Int)) = 57 := rfl
  have hv4 : (((({ data := #[45, 49, 101, 57, 57] } : ByteArray)[4]'(by decide)).toNat : Int)) = 57 := rfl
  go_wp2_with fail
  have HB2 := Lib.hid (HB1.out.setCell (p := ⟨w.heap.size + 1, 0, none⟩) (by simp) (.int .i64 3))
  have N2_ := Lib.hid (N1_.out.step 3)
  clear c0 c1 f1 HB1 N1_
  generalize W1.setCell ⟨w.heap.size + 1, 0, none⟩ (.int .i64 3) = W2 at HB2 N2_ ⊢
  go_loopw [6] (fun x wr => ∃ e : Int, x = .int .i64 e ∧ Hid (NumE w e wr)) (fun x _ => (100 - intOf x).toNat)
  case atStart => exact ⟨0, rfl, Lib.hid (Or.inl ⟨rfl, N2_, HB2⟩)⟩
  case round =>
    obtain ⟨e0, rfl, he0⟩ := hrel
    rcases he0.out with ⟨rfl, NR, HR⟩ | ⟨rfl, NR, HR⟩ | ⟨rfl, NR, HR⟩
    · go_wp2_with fail
      with_reducible (refine (D3.out _ NR.out).mono ?_)
      rintro e_ w1 ⟨rfl, rfl⟩
      obtain ⟨c0, c1, f1⟩ := NR.out.cells
      go_wp2_with fail
      have HBn := Lib.hid (HR.out.setCell (p := ⟨w.heap.size + 1, 0, none⟩) (by simp) (.int .i64 4))
      have Nn := Lib.hid (NR.out.step 4)
      go_roundw
      case rel => exact ⟨_, rfl, Lib.hid (Or.inr (Or.inl ⟨rfl, Nn, HBn⟩))⟩
      case measure => (simp [intOf]; try omega)
    · go_wp2_with fail
      with_reducible (refine (D4.out _ NR.out).mono ?_)
      rintro e_ w1 ⟨rfl, rfl⟩
      obtain ⟨c0, c1, f1⟩ := NR.out.cells
      go_wp2_with fail
      have HBn := Lib.hid (HR.out.setCell (p := ⟨w.heap.size + 1, 0, none⟩) (by simp) (.int .i64 5))
      have Nn := Lib.hid (NR.out.step 5)
      go_roundw
      case rel => exact ⟨_, rfl, Lib.hid (Or.inr (Or.inr ⟨rfl, Nn, HBn⟩))⟩
      case measure => (simp [intOf]; try omega)
    · go_wp2_with fail
      with_reducible (refine (D5.out _ NR.out).mono ?_)
      rintro e_ w1 ⟨rfl, rfl⟩
      obtain ⟨c0, c1, f1⟩ := NR.out.cells
      go_wp2_with fail
      go_quiet (fail)
      have HBz := Lib.hid (bdrewN HR.out nq)
      generalize wr.drewN nq = Wz at HBz ⊢
      go_wp2_with fail
      rw [hop_ret]
      refine bodyPost_ret (v := .tuple #[tv [49], .int .i64 0, .int .i64 99, .int .i64 5, .bool true]) (by simp [results, Tryz.results40, go_sem]) rfl ⟨rfl, HBz.out⟩
end Go.Proofs.YtlmeobokpibifaaGreatDoor
end

/- package scan's number of short texts. Conditions: as each theorem names them. package scan's Scan of numbers. Conditions: as each theorem names them. package parse's must, number, and the closure that finds no panic. Conditions: as each theorem names them. package parse's Parse of numbers. Conditions: as each theorem names them. -/
import Derived.Test.YtlmeobokpibifaaGreatDoorG18
import Derived.Lib.SlBytesRow
import Derived.Test.YtlmeobokpibifaaGreatDoorG13
import Derived.BigQuiet
import Derived.Deep.QuietTactic
import Derived.Lib.Hide
import Derived.Recover
import Derived.WalkLawsBesides
import Derived.Test.YtlmeobokpibifaaGreatDoorG09
import Derived.Test.YtlmeobokpibifaaGreatDoorG16
section
set_option linter.unusedSimpArgs false
set_option linter.unusedVariables false
set_option linter.unusedVariables false
namespace Go.Proofs.YtlmeobokpibifaaGreatDoor
open Go.RowKit

set_option maxRecDepth 100000 in
set_option maxHeartbeats 4000000 in
theorem num_nd (d : UInt8) (w : World) (hd1 : 48 ≤ d.toNat) (hd2 : d.toNat ≤ 57) :
    Calls Tryz.prog 40 #[tv [45, d], .int .i64 1] w fun en w' => en = .returned (.tuple #[tv [d], .int .i64 0, .int .i64 0, .int .i64 2, .bool true]) ∧ Below w.heap.size w w' := by
  have HB := Lib.hid (bgrow (bgrow (Below.refl w.heap.size w) (.cells #[tv [45, d]] 9)) (.cells #[.int .i64 1] 3))
  have N0 : Hid (NB ((w.alloc (.cells #[tv [45, d]] 9)).alloc (.cells #[.int .i64 1] 3)) w.heap.size (w.heap.size + 1) [45, d] 1) := Lib.hid ⟨by omega, (Deep.blk_alloc_lt _ _ _ (by simp)).trans (Deep.blk_alloc_new _ _), by
    have e : (w.alloc (.cells #[tv [45, d]] 9)).heap.size = w.heap.size + 1 := by simp
    rw [← e]; exact Deep.blk_alloc_new _ _⟩
  have D1 := Lib.hid (fun w' h => dig_at w.heap.size (w.heap.size + 1) [45, d] 1 d true w' h rfl (by rw [decide_eq_true hd1, decide_eq_true hd2]; rfl))
  have D2 := Lib.hid (fun w' h => dig_end w.heap.size (w.heap.size + 1) [45, d] 2 w' h rfl)
  clear hd1 hd2
  go_enter Tryz.func40, Tryz.ntmps40
  go_wp2_with fail
  refine wp_scope_hops 8 ?_
  unfold Hops
  go_wp2_with fail
  refine wp_label ?_
  go_wp2_with fail
  generalize ((w.alloc (.cells #[tv [45, d]] 9)).alloc (.cells #[.int .i64 1] 3)) = WB at HB N0 ⊢
  with_reducible (refine (D1.out _ N0.out).mono ?_)
  rintro e_ w1 ⟨rfl, rfl⟩
  obtain ⟨c0, c1, f1⟩ := N0.out.cells
  go_wp2_with fail
  refine wp_goto ?_
  refine ⟨_, rfl, ?_⟩
  unfold Hops
  have HB1 := Lib.hid (HB.out.setCell (p := ⟨w.heap.size + 1, 0, none⟩) (by simp) (.int .i64 2))
  have N1_ := Lib.hid (N0.out.step 2)
  clear c0 c1 f1 HB N0
  generalize WB.setCell ⟨w.heap.size + 1, 0, none⟩ (.int .i64 2) = W1 at HB1 N1_ ⊢
  go_wp2_with fail
  with_reducible (refine (D2.out _ N1_.out).mono ?_)
  rintro e_ w1 ⟨rfl, rfl⟩
  obtain ⟨c0, c1, f1⟩ := N1_.out.cells
  go_wp2_with fail
  refine wp_goto ?_
  refine ⟨_, rfl, ?_⟩
  unfold Hops
  have hx1 : (({ data := #[45, d] } : ByteArray).extract 1 2) = ⟨#[d]⟩ := rfl
  rw [hx1]
  have he : ((⟨#[d]⟩ : ByteArray).toList.isEmpty) = false := by rw [Lib.toList_data]; rfl
  go_wp2_with fail
  go_quiet (fail)
  have HBz := Lib.hid (bdrewN HB1.out nq)
  generalize W1.drewN nq = Wz at HBz ⊢
  go_wp2_with fail
  rw [hop_ret]
  refine bodyPost_ret (v := .tuple #[tv [d], .int .i64 0, .int .i64 0, .int .i64 2, .bool true]) (by simp [results, Tryz.results40, go_sem]) rfl ⟨rfl, HBz.out⟩

set_option maxRecDepth 100000 in
set_option maxHeartbeats 4000000 in
theorem num_de (d e : UInt8) (w : World) (hd1 : 48 ≤ d.toNat) (hd2 : d.toNat ≤ 57) (he1 : 48 ≤ e.toNat) (he2 : e.toNat ≤ 57) :
    Calls Tryz.prog 40 #[tv [d, 46, e], .int .i64 0] w fun en w' => en = .returned (.tuple #[tv [d, e], .int .i64 1, .int .i64 0, .int .i64 3, .bool true]) ∧ Below w.heap.size w w' := by
  have HB := Lib.hid (bgrow (bgrow (Below.refl w.heap.size w) (.cells #[tv [d, 46, e]] 9)) (.cells #[.int .i64 0] 3))
  have N0 : Hid (NB ((w.alloc (.cells #[tv [d, 46, e]] 9)).alloc (.cells #[.int .i64 0] 3)) w.heap.size (w.heap.size + 1) [d, 46, e] 0) := Lib.hid ⟨by omega, (Deep.blk_alloc_lt _ _ _ (by simp)).trans (Deep.blk_alloc_new _ _), by
    have e : (w.alloc (.cells #[tv [d, 46, e]] 9)).heap.size = w.heap.size + 1 := by simp
    rw [← e]; exact Deep.blk_alloc_new _ _⟩
  have D0 := Lib.hid (fun w' h => dig_at w.heap.size (w.heap.size + 1) [d, 46, e] 0 d true w' h rfl (by rw [decide_eq_true hd1, decide_eq_true hd2]; rfl))
  have D1 := Lib.hid (fun w' h => dig_at w.heap.size (w.heap.size + 1) [d, 46, e] 1 46 false w' h rfl (by decide))
  have D2 := Lib.hid (fun w' h => dig_at w.heap.size (w.heap.size + 1) [d, 46, e] 2 e true w' h rfl (by rw [decide_eq_true he1, decide_eq_true he2]; rfl))
  have D3 := Lib.hid (fun w' h => dig_end w.heap.size (w.heap.size + 1) [d, 46, e] 3 w' h rfl)
  clear hd1 hd2 he1 he2
  go_enter Tryz.func40, Tryz.ntmps40
  go_wp2_with fail
  refine wp_scope_hops 8 ?_
  unfold Hops
  go_wp2_with fail
  refine wp_label ?_
  go_wp2_with fail
  generalize ((w.alloc (.cells #[tv [d, 46, e]] 9)).alloc (.cells #[.int .i64 0] 3)) = WB at HB N0 ⊢
  with_reducible (refine (D0.out _ N0.out).mono ?_)
  rintro e_ w1 ⟨rfl, rfl⟩
  obtain ⟨c0, c1, f1⟩ := N0.out.cells
  go_wp2_with fail
  refine wp_goto ?_
  refine ⟨_, rfl, ?_⟩
  unfold Hops
  have HB1 := Lib.hid (HB.out.setCell (p := ⟨w.heap.size + 1, 0, none⟩) (by simp) (.int .i64 1))
  have N1_ := Lib.hid (N0.out.step 1)
  clear c0 c1 f1 HB N0
  generalize WB.setCell ⟨w.heap.size + 1, 0, none⟩ (.int .i64 1) = W1 at HB1 N1_ ⊢
  go_wp2_with fail
  with_reducible (refine (D1.out _ N1_.out).mono ?_)
  rintro e_ w1 ⟨rfl, rfl⟩
  obtain ⟨c0, c1, f1⟩ := N1_.out.cells
  have hy : (((({ data := #[d, 46, e] } : ByteArray)[1]'(by show 1 < 3; decide)).toNat : Int) != 46) = false := rfl
  go_wp2_with fail
  have HB2 := Lib.hid (HB1.out.setCell (p := ⟨w.heap.size + 1, 0, none⟩) (by simp) (.int .i64 2))
  have N2_ := Lib.hid (N1_.out.step 2)
  clear c0 c1 f1 HB1 N1_
  generalize W1.setCell ⟨w.heap.size + 1, 0, none⟩ (.int .i64 2) = W2 at HB2 N2_ ⊢
  refine wp_label ?_
  go_wp2_with fail
  with_reducible (refine (D2.out _ N2_.out).mono ?_)
  rintro e_ w1 ⟨rfl, rfl⟩
  obtain ⟨c0, c1, f1⟩ := N2_.out.cells
  go_wp2_with fail
  refine wp_goto ?_
  refine ⟨_, rfl, ?_⟩
  unfold Hops
  have HB3 := Lib.hid (HB2.out.setCell (p := ⟨w.heap.size + 1, 0, none⟩) (by simp) (.int .i64 3))
  have N3_ := Lib.hid (N2_.out.step 3)
  clear c0 c1 f1 HB2 N2_
  generalize W2.setCell ⟨w.heap.size + 1, 0, none⟩ (.int .i64 3) = W3 at HB3 N3_ ⊢
  go_wp2_with fail
  with_reducible (refine (D3.out _ N3_.out).mono ?_)
  rintro e_ w1 ⟨rfl, rfl⟩
  obtain ⟨c0, c1, f1⟩ := N3_.out.cells
  go_wp2_with fail
  refine wp_label ?_
  have hx0 : (({ data := #[d, 46, e] } : ByteArray).extract 0 1) = ⟨#[d]⟩ := rfl
  rw [hx0]
  have hx2 : (({ data := #[d, 46, e] } : ByteArray).extract 2 3) = ⟨#[e]⟩ := rfl
  rw [hx2]
  have hz : ((⟨#[d]⟩ : ByteArray) ++ ⟨#[e]⟩) = ⟨#[d, e]⟩ := rfl
  rw [hz]
  have he : ((⟨#[d, e]⟩ : ByteArray).toList.isEmpty) = false := by rw [Lib.toList_data]; rfl
  go_wp2_with fail
  go_quiet (fail)
  have HBz := Lib.hid (bdrewN HB3.out nq)
  generalize W3.drewN nq = Wz at HBz ⊢
  go_wp2_with fail
  rw [hop_ret]
  refine bodyPost_ret (v := .tuple #[tv [d, e], .int .i64 1, .int .i64 0, .int .i64 3, .bool true]) (by simp [results, Tryz.results40, go_sem]) rfl ⟨rfl, HBz.out⟩

set_option maxRecDepth 100000 in
set_option maxHeartbeats 4000000 in
theorem num_nde (d e : UInt8) (w : World) (hd1 : 48 ≤ d.toNat) (hd2 : d.toNat ≤ 57) (he1 : 48 ≤ e.toNat) (he2 : e.toNat ≤ 57) :
    Calls Tryz.prog 40 #[tv [45, d, 46, e], .int .i64 1] w fun en w' => en = .returned (.tuple #[tv [d, e], .int .i64 1, .int .i64 0, .int .i64 4, .bool true]) ∧ Below w.heap.size w w' := by
  have HB := Lib.hid (bgrow (bgrow (Below.refl w.heap.size w) (.cells #[tv [45, d, 46, e]] 9)) (.cells #[.int .i64 1] 3))
  have N0 : Hid (NB ((w.alloc (.cells #[tv [45, d, 46, e]] 9)).alloc (.cells #[.int .i64 1] 3)) w.heap.size (w.heap.size + 1) [45, d, 46, e] 1) := Lib.hid ⟨by omega, (Deep.blk_alloc_lt _ _ _ (by simp)).trans (Deep.blk_alloc_new _ _), by
    have e : (w.alloc (.cells #[tv [45, d, 46, e]] 9)).heap.size = w.heap.size + 1 := by simp
    rw [← e]; exact Deep.blk_alloc_new _ _⟩
  have D1 := Lib.hid (fun w' h => dig_at w.heap.size (w.heap.size + 1) [45, d, 46, e] 1 d true w' h rfl (by rw [decide_eq_true hd1, decide_eq_true hd2]; rfl))
  have D2 := Lib.hid (fun w' h => dig_at w.heap.size (w.heap.size + 1) [45, d, 46, e] 2 46 false w' h rfl (by decide))
  have D3 := Lib.hid (fun w' h => dig_at w.heap.size (w.heap.size + 1) [45, d, 46, e] 3 e true w' h rfl (by rw [decide_eq_true he1, decide_eq_true he2]; rfl))
  have D4 := Lib.hid (fun w' h => dig_end w.heap.size (w.heap.size + 1) [45, d, 46, e] 4 w' h rfl)
  clear hd1 hd2 he1 he2
  go_enter Tryz.func40, Tryz.ntmps40
  go_wp2_with fail
  refine wp_scope_hops 8 ?_
  unfold Hops
  go_wp2_with fail
  refine wp_label ?_
  go_wp2_with fail
  generalize ((w.alloc (.cells #[tv [45, d, 46, e]] 9)).alloc (.cells #[.int .i64 1] 3)) = WB at HB N0 ⊢
  with_reducible (refine (D1.out _ N0.out).mono ?_)
  rintro e_ w1 ⟨rfl, rfl⟩
  obtain ⟨c0, c1, f1⟩ := N0.out.cells
  go_wp2_with fail
  refine wp_goto ?_
  refine ⟨_, rfl, ?_⟩
  unfold Hops
  have HB1 := Lib.hid (HB.out.setCell (p := ⟨w.heap.size + 1, 0, none⟩) (by simp) (.int .i64 2))
  have N1_ := Lib.hid (N0.out.step 2)
  clear c0 c1 f1 HB N0
  generalize WB.setCell ⟨w.heap.size + 1, 0, none⟩ (.int .i64 2) = W1 at HB1 N1_ ⊢
  go_wp2_with fail
  with_reducible (refine (D2.out _ N1_.out).mono ?_)
  rintro e_ w1 ⟨rfl, rfl⟩
  obtain ⟨c0, c1, f1⟩ := N1_.out.cells
  have hy : (((({ data := #[45, d, 46, e] } : ByteArray)[2]'(by show 2 < 4; decide)).toNat : Int) != 46) = false := rfl
  go_wp2_with fail
  have HB2 := Lib.hid (HB1.out.setCell (p := ⟨w.heap.size + 1, 0, none⟩) (by simp) (.int .i64 3))
  have N2_ := Lib.hid (N1_.out.step 3)
  clear c0 c1 f1 HB1 N1_
  generalize W1.setCell ⟨w.heap.size + 1, 0, none⟩ (.int .i64 3) = W2 at HB2 N2_ ⊢
  refine wp_label ?_
  go_wp2_with fail
  with_reducible (refine (D3.out _ N2_.out).mono ?_)
  rintro e_ w1 ⟨rfl, rfl⟩
  obtain ⟨c0, c1, f1⟩ := N2_.out.cells
  go_wp2_with fail
  refine wp_goto ?_
  refine ⟨_, rfl, ?_⟩
  unfold Hops
  have HB3 := Lib.hid (HB2.out.setCell (p := ⟨w.heap.size + 1, 0, none⟩) (by simp) (.int .i64 4))
  have N3_ := Lib.hid (N2_.out.step 4)
  clear c0 c1 f1 HB2 N2_
  generalize W2.setCell ⟨w.heap.size + 1, 0, none⟩ (.int .i64 4) = W3 at HB3 N3_ ⊢
  go_wp2_with fail
  with_reducible (refine (D4.out _ N3_.out).mono ?_)
  rintro e_ w1 ⟨rfl, rfl⟩
  obtain ⟨c0, c1, f1⟩ := N3_.out.cells
  go_wp2_with fail
  refine wp_label ?_
  have hx1 : (({ data := #[45, d, 46, e] } : ByteArray).extract 1 2) = ⟨#[d]⟩ := rfl
  rw [hx1]
  have hx3 : (({ data := #[45, d, 46, e] } : ByteArray).extract 3 4) = ⟨#[e]⟩ := rfl
  rw [hx3]
  have hz : ((⟨#[d]⟩ : ByteArray) ++ ⟨#[e]⟩) = ⟨#[d, e]⟩ := rfl
  rw [hz]
  have he : ((⟨#[d, e]⟩ : ByteArray).toList.isEmpty) = false := by rw [Lib.toList_data]; rfl
  go_wp2_with fail
  go_quiet (fail)
  have HBz := Lib.hid (bdrewN HB3.out nq)
  generalize W3.drewN nq = Wz at HBz ⊢
  go_wp2_with fail
  rw [hop_ret]
  refine bodyPost_ret (v := .tuple #[tv [d, e], .int .i64 1, .int .i64 0, .int .i64 4, .bool true]) (by simp [results, Tryz.results40, go_sem]) rfl ⟨rfl, HBz.out⟩
end Go.Proofs.YtlmeobokpibifaaGreatDoor
end

section
set_option linter.unusedSimpArgs false
set_option linter.unusedVariables false
set_option linter.unusedVariables false
namespace Go.Proofs.YtlmeobokpibifaaGreatDoor
open Go.RowKit

theorem hp_calls (l : List UInt8) (b : Bool) (w : World) (h : Lib.hasPrefix l [45] = b) :
    Calls Tryz.prog 38 #[.string ⟨l.toArray⟩, .string ⟨#[45]⟩] w fun e w' => e = .returned (.bool b) ∧ w = w' := by
  subst h
  refine (Tryz.strings_HasPrefix ⟨l.toArray⟩ ⟨#[45]⟩ w).mono ?_
  rintro e w' ⟨rfl, rfl⟩
  exact ⟨rfl, rfl⟩
set_option maxRecDepth 100000 in
set_option maxHeartbeats 1000000 in
theorem scan_of (l ds : List UInt8) (neg : Bool) (p : Nat) (d : UInt8) (beh ex en df k : Int) (N bk c m : Nat) (w : World) (hm : l.length = m) (hbk : bk < w.heap.size)
    (hCV : ∀ w', Below w.heap.size w w' → (convert 64 9 (.slice (some ⟨bk, 0, none⟩) m c)).run Tryz.prog w' = .ok (.string ⟨l.toArray⟩) w')
    (hp : Lib.hasPrefix l [45] = neg) (hpp : p = if neg then 1 else 0) (hd : l[p]? = some d) (h1 : 48 ≤ d.toNat) (h2 : d.toNat ≤ 57) (hl : l.length ≤ 1000) (hdf : IntKind.i64.wrap (ex - beh) = df)
    (NU : Hid (∀ w', Calls Tryz.prog 40 #[tv l, .int .i64 p] w' fun e w'' => e = .returned (.tuple #[tv ds, .int .i64 beh, .int .i64 ex, .int .i64 en, .bool true]) ∧ Below w'.heap.size w' w''))
    (IT : Hid (∀ w', Calls Tryz.prog 41 #[tv ds, .int .i64 df] w' fun en w'' => (∃ A n c, en = .returned (itv 1 false (.slice A n c) k 0 false) ∧ IsN w'' (.slice A n c) N) ∧ Below w'.heap.size w' w'')) :
    Calls Tryz.prog 19 #[.slice (some ⟨bk, 0, none⟩) m c] w fun en w' => (∃ A n c, en = .returned (.tuple #[itv 1 neg (.slice A n c) k 0 false, .int .i64 0, .int .i64 0]) ∧ IsN w' (.slice A n c) N) ∧ Below w.heap.size w w' := by
  have HP := Lib.hid (fun w' => hp_calls l neg w' hp)
  have WN := Lib.hid (fun w' => word_none l p d w' hd h1 h2 hl)
  have HB := Lib.hid (bgrow (Below.refl w.heap.size w) (itbox 0 false (.slice none 0 0) 0 0 false))
  have B2 : Hid ((w.alloc (itbox 0 false (.slice none 0 0) 0 0 false)).heap[w.heap.size]? = some (itbox 0 false (.slice none 0 0) 0 0 false)) := Lib.hid (Deep.blk_alloc_new _ _)
  have CV := hCV _ HB.out
  clear hCV hp hd h1 h2 hl hm hbk
  unfold itbox itv tv at *
  go_enter Tryz.func19, Tryz.ntmps19
  subst hpp
  cases neg
  · have WN1 : Hid (∀ w', Calls Tryz.prog 39 #[.string ⟨l.toArray⟩, .int .i64 0] w' fun e w'' => e = .returned (.tuple #[.int .i64 0, .int .i64 0, .bool false]) ∧ Below w'.heap.size w' w'') := WN
    have NU1 : Hid (∀ w', Calls Tryz.prog 40 #[.string ⟨l.toArray⟩, .int .i64 0] w' fun e w'' => e = .returned (.tuple #[.string ⟨ds.toArray⟩, .int .i64 beh, .int .i64 ex, .int .i64 en, .bool true]) ∧ Below w'.heap.size w' w'') := NU
    clear WN NU
    go_wp2_with fail
    generalize (w.alloc (.cells #[.int .i64 0, .bool false, .slice none 0 0, .int .i64 0, .int .i64 0, .bool false] 61)) = WB at HB B2 CV ⊢
    with_reducible (refine (HP.out _).mono ?_)
    rintro e w1 ⟨rfl, rfl⟩
    clear CV
    go_wp2_with fail
    with_reducible (refine (WN1.out _).mono ?_)
    rintro e w1 ⟨rfl, b1⟩
    have HB1 := Lib.hid (bthen HB.out b1)
    have C2 := Lib.hid ((b1.block _ (blk_lt B2.out)).trans B2.out)
    clear b1 HB B2
    go_wp2_with fail
    with_reducible (refine (NU1.out _).mono ?_)
    rintro e w2 ⟨rfl, b2⟩
    have HB2 := Lib.hid (bthen HB1.out b2)
    have D2 := Lib.hid ((b2.block _ (blk_lt C2.out)).trans C2.out)
    clear b2 HB1 C2
    go_wp2_with fail
    with_reducible (refine (IT.out _).mono ?_)
    rintro e w3 ⟨⟨A, n, c', rfl, hi⟩, b3⟩
    have HB3 := Lib.hid (bthen HB2.out b3)
    have E3 := Lib.hid ((b3.block _ (blk_lt D2.out)).trans D2.out)
    have HI := Lib.hid hi
    have hlt : w.heap.size < w3.heap.size := by have := blk_lt D2.out; have := b3.size; omega
    have hne : ¬ w.heap.size = w3.heap.size := by omega
    have hne' : ¬ w3.heap.size = w.heap.size := by omega
    clear b3 hi HB2
    obtain ⟨⟨d0, d1, d2, d3, d4, d5⟩, f0, f1, f2, f3, f4, f5⟩ := six_free E3.out
    go_wp2_with fail
    have P6 := six_put (a' := .int .i64 1) (b' := .bool false) (c' := .slice A n c') (d' := .int .i64 k) (e' := .int .i64 0) (f' := .bool false) E3.out
    have I3 := Lib.hid ((isn_put6 HI.out E3.out (.int .i64 1) (.bool false) (.slice A n c') (.int .i64 k) (.int .i64 0) (.bool false)).alloc (.cells #[.int .i64 1, .bool false, .slice A n c', .int .i64 k, .int .i64 0, .bool false] 61))
    have HB4 := Lib.hid (bgrow (below6 HB3.out (g := w.heap.size) (Nat.le_refl _) (.int .i64 1) (.bool false) (.slice A n c') (.int .i64 k) (.int .i64 0) (.bool false)) (.cells #[.int .i64 1, .bool false, .slice A n c', .int .i64 k, .int .i64 0, .bool false] 61))
    have P7 := (Deep.blk_alloc_lt _ (.cells #[.int .i64 1, .bool false, .slice A n c', .int .i64 k, .int .i64 0, .bool false] 61) _ (blk_lt P6)).trans P6
    clear d0 d1 d2 d3 d4 d5 f0 f1 f2 f3 f4 f5
    obtain ⟨⟨d0, d1, d2, d3, d4, d5⟩, -⟩ := six_free P7
    refine bodyPost_ret (v := .tuple #[.agg #[.int .i64 1, .bool false, .slice A n c', .int .i64 k, .int .i64 0, .bool false], .int .i64 0, .int .i64 0]) (by simp only [results, Tryz.results19]; simp [go_sem, d0, d1, d2, d3, d4, d5]) rfl ⟨⟨_, _, _, rfl, I3.out⟩, HB4.out⟩
  · have WN1 : Hid (∀ w', Calls Tryz.prog 39 #[.string ⟨l.toArray⟩, .int .i64 1] w' fun e w'' => e = .returned (.tuple #[.int .i64 0, .int .i64 1, .bool false]) ∧ Below w'.heap.size w' w'') := WN
    have NU1 : Hid (∀ w', Calls Tryz.prog 40 #[.string ⟨l.toArray⟩, .int .i64 1] w' fun e w'' => e = .returned (.tuple #[.string ⟨ds.toArray⟩, .int .i64 beh, .int .i64 ex, .int .i64 en, .bool true]) ∧ Below w'.heap.size w' w'') := NU
    clear WN NU
    go_wp2_with fail
    generalize (w.alloc (.cells #[.int .i64 0, .bool false, .slice none 0 0, .int .i64 0, .int .i64 0, .bool false] 61)) = WB at HB B2 CV ⊢
    with_reducible (refine (HP.out _).mono ?_)
    rintro e w1 ⟨rfl, rfl⟩
    clear CV
    go_wp2_with fail
    with_reducible (refine (WN1.out _).mono ?_)
    rintro e w1 ⟨rfl, b1⟩
    have HB1 := Lib.hid (bthen HB.out b1)
    have C2 := Lib.hid ((b1.block _ (blk_lt B2.out)).trans B2.out)
    clear b1 HB B2
    go_wp2_with fail
    with_reducible (refine (NU1.out _).mono ?_)
    rintro e w2 ⟨rfl, b2⟩
    have HB2 := Lib.hid (bthen HB1.out b2)
    have D2 := Lib.hid ((b2.block _ (blk_lt C2.out)).trans C2.out)
    clear b2 HB1 C2
    go_wp2_with fail
    with_reducible (refine (IT.out _).mono ?_)
    rintro e w3 ⟨⟨A, n, c', rfl, hi⟩, b3⟩
    have HB3 := Lib.hid (bthen HB2.out b3)
    have E3 := Lib.hid ((b3.block _ (blk_lt D2.out)).trans D2.out)
    have HI := Lib.hid hi
    have hlt : w.heap.size < w3.heap.size := by have := blk_lt D2.out; have := b3.size; omega
    have hne : ¬ w.heap.size = w3.heap.size := by omega
    have hne' : ¬ w3.heap.size = w.heap.size := by omega
    clear b3 hi HB2
    obtain ⟨⟨d0, d1, d2, d3, d4, d5⟩, f0, f1, f2, f3, f4, f5⟩ := six_free E3.out
    go_wp2_with fail
    have P6 := six_put (a' := .int .i64 1) (b' := .bool true) (c' := .slice A n c') (d' := .int .i64 k) (e' := .int .i64 0) (f' := .bool false) E3.out
    have I3 := Lib.hid ((isn_put6 HI.out E3.out (.int .i64 1) (.bool true) (.slice A n c') (.int .i64 k) (.int .i64 0) (.bool false)).alloc (.cells #[.int .i64 1, .bool true, .slice A n c', .int .i64 k, .int .i64 0, .bool false] 61))
    have HB4 := Lib.hid (bgrow (below6 HB3.out (g := w.heap.size) (Nat.le_refl _) (.int .i64 1) (.bool true) (.slice A n c') (.int .i64 k) (.int .i64 0) (.bool false)) (.cells #[.int .i64 1, .bool true, .slice A n c', .int .i64 k, .int .i64 0, .bool false] 61))
    have P7 := (Deep.blk_alloc_lt _ (.cells #[.int .i64 1, .bool true, .slice A n c', .int .i64 k, .int .i64 0, .bool false] 61) _ (blk_lt P6)).trans P6
    clear d0 d1 d2 d3 d4 d5 f0 f1 f2 f3 f4 f5
    obtain ⟨⟨d0, d1, d2, d3, d4, d5⟩, -⟩ := six_free P7
    refine bodyPost_ret (v := .tuple #[.agg #[.int .i64 1, .bool true, .slice A n c', .int .i64 k, .int .i64 0, .bool false], .int .i64 0, .int .i64 0]) (by simp only [results, Tryz.results19]; simp [go_sem, d0, d1, d2, d3, d4, d5]) rfl ⟨⟨_, _, _, rfl, I3.out⟩, HB4.out⟩
end Go.Proofs.YtlmeobokpibifaaGreatDoor
end

section
set_option linter.unusedSimpArgs false
set_option linter.unusedVariables false
set_option linter.unusedVariables false
namespace Go.Proofs.YtlmeobokpibifaaGreatDoor
open Go.RowKit

theorem pmust_ok (at_ : Int) (w : World) :
    Calls Tryz.prog 18 #[.int .i64 at_, .int .i64 0] w fun e w' => e = .returned (.tuple #[]) ∧ w = w' := by
  go_enter Tryz.func18, Tryz.ntmps18
  go_wp2_with fail
  go_end0
  exact ⟨rfl, rfl⟩
set_option maxRecDepth 100000 in
set_option maxHeartbeats 1000000 in
theorem pnumber (neg : Bool) (v : Value) (k : Int) (N : Nat) (w : World) (h : IsN w v N) (hf : fitB N = true) (hk : inB k = true) :
    Calls Tryz.prog 21 #[itv 1 neg v k 0 false] w fun en w' => (∃ A n c, en = .returned (xv neg (.slice A n c) k k) ∧ IsN w' (.slice A n c) N) ∧ Below w.heap.size w w' := by
  obtain ⟨Av, nv, cv, rfl, -⟩ := nlen h
  have HA := Lib.hid (bgrow (bgrow (Below.refl w.heap.size w) (itbox 1 neg (.slice Av nv cv) k 0 false)) (xbox false (.slice none 0 0) 0 0))
  have I1 := Lib.hid (al2 w (itbox 1 neg (.slice Av nv cv) k 0 false) (xbox false (.slice none 0 0) 0 0)).1
  have X2 : Hid (xcells ((w.alloc (itbox 1 neg (.slice Av nv cv) k 0 false)).alloc (xbox false (.slice none 0 0) 0 0)) (w.heap.size + 1) false (.slice none 0 0) 0 0) := Lib.hid (al2 w (itbox 1 neg (.slice Av nv cv) k 0 false) (xbox false (.slice none 0 0) 0 0)).2
  have DE := Lib.hid (fun w' h => dec_N neg (.slice Av nv cv) N k w' h)
  have HH := Lib.hid (h.below HA.out)
  have HFK := Lib.hid (And.intro hf hk)
  clear h hf hk
  unfold itv itbox xv xbox at *
  go_enter Tryz.func21, Tryz.ntmps21
  go_wp2_with fail
  generalize ((w.alloc (.cells #[.int .i64 1, .bool neg, .slice Av nv cv, .int .i64 k, .int .i64 0, .bool false] 61)).alloc (.cells #[.bool false, .slice none 0 0, .int .i64 0, .int .i64 0] 41)) = WB at HA I1 X2 HH ⊢
  with_reducible (refine (DE.out _ HH.out).mono ?_)
  rintro en w1 ⟨⟨r, rfl, hr⟩, b1⟩
  rcases hr with ⟨_, A, n, c, hf, rfl⟩ | ⟨h, _⟩
  · have HB1 := Lib.hid (bthen HA.out b1)
    have X3 := Lib.hid (show xcells w1 _ _ _ _ _ from (b1.block _ (blk_lt X2.out)).trans X2.out)
    have HV := Lib.hid hf.isn
    have hlt := blk_lt X3.out
    have hne : ¬ w.heap.size + 1 = w1.heap.size := by omega
    have hne' : ¬ w1.heap.size = w.heap.size + 1 := by omega
    clear b1 hf X2 HA I1
    obtain ⟨d0, d1, d2, d3, f0, f1, f2, f3⟩ := four_free X3.out
    unfold xv
    go_wp2_with fail
    have P4 := put4 (a' := .bool neg) (b' := .slice A n c) (c' := .int .i64 k) (d' := .int .i64 k) X3.out
    have P5 := (Deep.blk_alloc_lt _ (.cells #[.bool neg, .slice A n c, .int .i64 k, .int .i64 k] 41) _ (blk_lt P4)).trans P4
    have HB3 := Lib.hid (bgrow (below4 HB1.out (g := w.heap.size + 1) (by omega) (.bool neg) (.slice A n c) (.int .i64 k) (.int .i64 k)) (.cells #[.bool neg, .slice A n c, .int .i64 k, .int .i64 k] 41))
    have HV3 := Lib.hid ((isn_put4 HV.out X3.out (.bool neg) (.slice A n c) (.int .i64 k) (.int .i64 k)).alloc (.cells #[.bool neg, .slice A n c, .int .i64 k, .int .i64 k] 41))
    clear d0 d1 d2 d3 f0 f1 f2 f3 hne hne'
    obtain ⟨d0, d1, d2, d3, -⟩ := four_free P5
    refine bodyPost_ret (v := .agg #[.bool neg, .slice A n c, .int .i64 k, .int .i64 k]) (by simp only [results, Tryz.results21]; simp [go_sem, d0, d1, d2, d3]) rfl ⟨⟨_, _, _, rfl, HV3.out⟩, HB3.out⟩
  · exfalso
    rw [HFK.out.1, HFK.out.2] at h
    exact absurd h (by decide)
theorem pcaught_idle (p q r : Addr) (w : World) :
    CallsD Tryz.prog 16 #[.pointer (some p), .pointer (some q), .pointer (some r)] .returning w fun e u' w' => e = .returned (.tuple #[]) ∧ u' = .returning ∧ w = w' := by
  refine callsD_of_wpS Tryz.func16 rfl fun c₀ cs hu => ?_
  apply wpS_seq
  apply wpS_region
  simp [wpOpsS, go_sem, recoverD, hu, Tryz.ntmps16, Exit.thenS]
  simp only [Array.replicate_succ, Array.replicate_zero, List.push_toArray, List.append_toArray, List.nil_append, List.cons_append, List.setIfInBounds_toArray, List.set]
  apply wpS_of_wp
  go_wp2
  cases c₀
  simp_all [bodyPostS, results, Tryz.results16]
end Go.Proofs.YtlmeobokpibifaaGreatDoor
end

section
set_option linter.unusedSimpArgs false
set_option linter.unusedVariables false
set_option linter.unusedVariables false
namespace Go.Proofs.YtlmeobokpibifaaGreatDoor
open Go.RowKit

theorem pleaves_ret {P : Program} {fn : Func} {tmps : Array Value} {R : Ending → World → Prop} {w : World} {v : Value} (h1 : (results fn tmps).run P w = .ok v w) (h2 : R (.returned v) w) :
    Leaves P fn tmps R [] (settle .returning) w := ⟨v, h1, h2⟩
theorem conv_to (l : List UInt8) (w : World) : (convert 9 64 (.string ⟨l.toArray⟩)).run Tryz.prog w = .ok (.slice (some ⟨w.heap.size, 0, none⟩) l.length (grownCap w l.length 0 5)) (Lib.bytesWorld w 5 ⟨l.toArray⟩) := by
  have h := Lib.run_convert_string_bytes (P := Tryz.prog) (u := .string) w 9 64 5 ⟨l.toArray⟩ (by kernel_rfl) (by kernel_rfl) (by kernel_rfl)
  have e : (⟨l.toArray⟩ : ByteArray).size = l.length := by show l.toArray.size = _; simp
  rw [e] at h
  exact h

theorem bytes_new (w : World) (s : ByteArray) : Lib.Bytes (Lib.bytesWorld w 5 s) w.heap.size 0 s := by
  intro i hi
  rw [Nat.zero_add, Lib.bytesWorld_cell w 5 s i hi]
  have e : s.data.toList.getD i 0 = s[i] := by
    have h2 : i < s.data.toList.length := by simpa using hi
    rw [List.getD_eq_getElem?_getD, List.getElem?_eq_getElem h2, Option.getD_some]
    rfl
  rw [e]
theorem one_free {w : World} {g : Nat} {a : Value} {t : TypeId} (hb : w.heap[g]? = some (.cells #[a] t (0, 0))) : w.cell? { block := g, off := 0 } = some a ∧ w.frozen? { block := g, off := 0 } = false := by
  refine ⟨?_, ?_⟩ <;> simp [World.cell?, World.frozen?, hb]
theorem one_put {w : World} {g : Nat} {a b : Value} {t : TypeId} (hb : w.heap[g]? = some (.cells #[a] t (0, 0))) : (w.setCell { block := g, off := 0 } b).heap[g]? = some (.cells #[b] t (0, 0)) := by
  simp [World.setCell, Array.getElem?_modify, hb]
theorem isn_one {w : World} {u : Value} {N : Nat} (h : IsN w u N) {g : Nat} {k : Int} {t : TypeId} (hx : w.heap[g]? = some (.cells #[.int .i64 k] t (0, 0))) (x : Value) : IsN (w.setCell { block := g, off := 0 } x) u N :=
  IsN.off h hx (by intro x hx z; simp at hx; subst hx; simp) (by simp) (fun k hk => by rw [Deep.blk_setCell_other _ _ _ _ hk])
/-- where Parse keeps its results -/
structure PR (w : World) (g : Nat) (p a e : Int) : Prop where
  p : w.heap[g]? = some (.cells #[.int .u64 p] 22 (0, 0))
  a : w.heap[g + 1]? = some (.cells #[.int .i64 a] 3 (0, 0))
  e : w.heap[g + 1 + 1]? = some (.cells #[.int .i64 e] 25 (0, 0))
theorem PR.below {w w' : World} {g : Nat} {p a e : Int} (h : PR w g p a e) (hb : Below w.heap.size w w') : PR w' g p a e :=
  ⟨(hb.block _ (blk_lt h.p)).trans h.p, (hb.block _ (blk_lt h.a)).trans h.a, (hb.block _ (blk_lt h.e)).trans h.e⟩
theorem PR.putp {w : World} {g : Nat} {p a e : Int} (h : PR w g p a e) (x : Int) : PR (w.setCell { block := g, off := 0 } (.int .u64 x)) g x a e :=
  ⟨one_put h.p, (Deep.blk_setCell_other _ _ _ _ (by simp)).trans h.a, (Deep.blk_setCell_other _ _ _ _ (by simp; omega)).trans h.e⟩
theorem PR.puta {w : World} {g : Nat} {p a e : Int} (h : PR w g p a e) (x : Int) : PR (w.setCell { block := g + 1, off := 0 } (.int .i64 x)) g p x e :=
  ⟨(Deep.blk_setCell_other _ _ _ _ (by simp)).trans h.p, one_put h.a, (Deep.blk_setCell_other _ _ _ _ (by simp)).trans h.e⟩
theorem PR.pute {w : World} {g : Nat} {p a e : Int} (h : PR w g p a e) (x : Int) : PR (w.setCell { block := g + 1 + 1, off := 0 } (.int .i64 x)) g p a x :=
  ⟨(Deep.blk_setCell_other _ _ _ _ (by simp; omega)).trans h.p, (Deep.blk_setCell_other _ _ _ _ (by simp)).trans h.a, one_put h.e⟩

set_option maxRecDepth 100000 in
set_option maxHeartbeats 2000000 in
theorem parse_of (n : Nat) (mode kd wd mn bs : Int) (tp nf nn N p : Nat) (neg : Bool) (k : Int) (l : List UInt8) (w : World) (hn : 1 ≤ n) (hn2 : n < 15) (hF : FormAt w n kd wd mn bs tp nf nn) (hmode : mode = 1 ∨ mode = 2) (hf : fitB N = true) (hk : inB k = true)
    (SC : Hid (∀ bk c w', Below w.heap.size w w' → bk < w'.heap.size → Lib.Bytes w' bk 0 ⟨l.toArray⟩ → Calls Tryz.prog 19 #[.slice (some ⟨bk, 0, none⟩) l.length c] w' fun en w'' => (∃ A n c, en = .returned (.tuple #[itv 1 neg (.slice A n c) k 0 false, .int .i64 0, .int .i64 0]) ∧ IsN w'' (.slice A n c) N) ∧ Below w'.heap.size w' w''))
    (RD : Hid (∀ A m c w', Below w.heap.size w w' → IsN w' (.slice A m c) N → Calls Tryz.prog 11 #[.int .i64 n, .int .i64 mode, xv neg (.slice A m c) k k] w' fun en w'' => en = .returned (.tuple #[.int .u64 p, .int .i64 0]) ∧ Below w'.heap.size w' w'')) :
    Calls Tryz.prog 8 #[.int .i64 n, .int .i64 mode, tv l] w fun en w' => en = .returned (.tuple #[.int .u64 p, .int .i64 0, .int .i64 0]) ∧ Below w.heap.size w w' := by
  have FO := Lib.hid (fun w' h => form_of n kd wd mn bs tp nf nn w' hn hn2 h)
  have HF := Lib.hid hF
  have NU := Lib.hid (fun v w' h => pnumber neg v k N w' h hf hk)
  have MU := Lib.hid (fun w' => pmust_ok 0 w')
  have CT := conv_to l
  have HA := Lib.hid (bgrow (bgrow (bgrow (Below.refl w.heap.size w) (.cells #[.int .u64 0] 22)) (.cells #[.int .i64 0] 3)) (.cells #[.int .i64 0] 25))
  have hm1 : (mode != 1 && mode != 2) = false := by rcases hmode with rfl | rfl <;> rfl
  clear hF hn hn2 hf hk
  unfold fv xv itv tv at *
  go_enter_defers Tryz.func8, Tryz.ntmps8
  go_wp2_with fail
  have P0 : Hid (PR (((w.alloc (.cells #[.int .u64 0] 22)).alloc (.cells #[.int .i64 0] 3)).alloc (.cells #[.int .i64 0] 25)) w.heap.size 0 0 0) := Lib.hid ⟨(al3 w _ _ _).1, (al3 w _ _ _).2.1, (al3 w _ _ _).2.2⟩
  generalize (((w.alloc (.cells #[.int .u64 0] 22)).alloc (.cells #[.int .i64 0] 3)).alloc (.cells #[.int .i64 0] 25)) = WB at HA P0 ⊢
  with_reducible (refine (FO.out _ (HF.out.below HA.out)).mono ?_)
  rintro e w1 ⟨rfl, b1⟩
  have HB1 := Lib.hid (bthen HA.out b1)
  have P1 := Lib.hid (P0.out.below b1)
  have hlt : w.heap.size + 1 + 1 < w1.heap.size := blk_lt P1.out.e
  have hn1 : ¬ w.heap.size + 1 + 1 = w1.heap.size := by omega
  have hn2 : ¬ w1.heap.size = w.heap.size + 1 + 1 := by omega
  clear b1 P0 HA FO HF
  obtain ⟨c0, f0⟩ := one_free P1.out.e
  go_wp2_with fail
  have HB2 := Lib.hid (bgrow (HB1.out.setCell (p := { block := w.heap.size + 1 + 1, off := 0 }) (by simp; omega) (.int .i64 0)) (.cells #[.int .i64 kd, .int .i64 wd, .int .i64 mn, .int .i64 bs, .int .u64 tp, .int .u64 nf, .int .u64 nn] 56))
  have P2 := Lib.hid ((P1.out.pute 0).below (bgrow (Below.refl _ _) (.cells #[.int .i64 kd, .int .i64 wd, .int .i64 mn, .int .i64 bs, .int .u64 tp, .int .u64 nf, .int .u64 nn] 56)))
  generalize (w1.setCell { block := w.heap.size + 1 + 1, off := 0 } (.int .i64 0)).alloc (.cells #[.int .i64 kd, .int .i64 wd, .int .i64 mn, .int .i64 bs, .int .u64 tp, .int .u64 nf, .int .u64 nn] 56) = W2 at HB2 P2 ⊢
  clear c0 f0 hn1 hn2 hlt HB1 P1
  with_reducible (refine (MU.out _).mono ?_)
  rintro e w2 ⟨rfl, rfl⟩
  have hm2 : (mode != 1) = false ∨ ((mode != 1) = true ∧ (mode != 2) = false) := by rcases hmode with rfl | rfl <;> simp
  clear hm1 hmode
  rcases hm2 with m1 | ⟨m1, m2⟩
  all_goals
    go_wp2_with fail
    have HB3 := Lib.hid (bthen HB2.out (_root_.Go.Joins.below_bytesWorld _ W2 5 ⟨l.toArray⟩ (Nat.le_refl _)))
    have P3 := Lib.hid (P2.out.below (_root_.Go.Joins.below_bytesWorld _ W2 5 ⟨l.toArray⟩ (Nat.le_refl _)))
    have BY := Lib.hid (bytes_new W2 ⟨l.toArray⟩)
    have hbl : W2.heap.size < (Lib.bytesWorld W2 5 ⟨l.toArray⟩).heap.size := by rw [Lib.bytesWorld_size]; omega
    with_reducible (refine (SC.out _ _ _ HB3.out hbl BY.out).mono ?_)
    rintro e w4 ⟨⟨A, n4, c4, rfl, hi⟩, b4⟩
    have HB4 := Lib.hid (bthen HB3.out b4)
    have P4 := Lib.hid (P3.out.below b4)
    have HI := Lib.hid hi
    have hlt : w.heap.size + 1 + 1 < w4.heap.size := blk_lt P4.out.e
    have hn1 : ¬ w.heap.size + 1 + 1 = w4.heap.size := by omega
    have hn2 : ¬ w4.heap.size = w.heap.size + 1 + 1 := by omega
    have hn3 : ¬ w.heap.size + 1 = w4.heap.size := by omega
    have hn4 : ¬ w4.heap.size = w.heap.size + 1 := by omega
    clear b4 hi HB2 P2 HB3 P3 BY hbl SC CT
    obtain ⟨c0, f0⟩ := one_free P4.out.e
    obtain ⟨c1, f1⟩ := one_free P4.out.a
    have P5 := P4.out.below (bgrow (Below.refl _ _) (.cells #[.int .i64 1, .bool neg, .slice A n4 c4, .int .i64 k, .int .i64 0, .bool false] 61))
    obtain ⟨c0', f0'⟩ := one_free P5.e
    obtain ⟨c1', f1'⟩ := one_free P5.a
    have P5h := Lib.hid P5
    clear P5
    go_wp2_with fail
    have P6a := P5h.out.puta 0
    have P6 := Lib.hid (P6a.pute 0)
    have HI5 := HI.out.alloc (.cells #[.int .i64 1, .bool neg, .slice A n4 c4, .int .i64 k, .int .i64 0, .bool false] 61)
    have HI6 := Lib.hid (isn_one (isn_one HI5 P5h.out.a (.int .i64 0)) P6a.e (.int .i64 0))
    have I6 : Hid ((((w4.alloc (.cells #[.int .i64 1, .bool neg, .slice A n4 c4, .int .i64 k, .int .i64 0, .bool false] 61)).setCell { block := w.heap.size + 1, off := 0 } (.int .i64 0)).setCell { block := w.heap.size + 1 + 1, off := 0 } (.int .i64 0)).heap[w4.heap.size]? = some (.cells #[.int .i64 1, .bool neg, .slice A n4 c4, .int .i64 k, .int .i64 0, .bool false] 61 (0, 0))) := Lib.hid ((Deep.blk_setCell_other _ _ _ _ hn2).trans ((Deep.blk_setCell_other _ _ _ _ hn4).trans (Deep.blk_alloc_new w4 (.cells #[.int .i64 1, .bool neg, .slice A n4 c4, .int .i64 k, .int .i64 0, .bool false] 61))))
    have HB6 := Lib.hid (((bgrow HB4.out (.cells #[.int .i64 1, .bool neg, .slice A n4 c4, .int .i64 k, .int .i64 0, .bool false] 61)).setCell (p := { block := w.heap.size + 1, off := 0 }) (by simp) (.int .i64 0)).setCell (p := { block := w.heap.size + 1 + 1, off := 0 }) (by simp; omega) (.int .i64 0))
    have hl4 : w.heap.size < w4.heap.size := by omega
    have NG := Lib.hid hl4
    clear c0 f0 c1 f1 c0' f0' c1' f1' hn1 hn2 hn3 hn4 hlt hl4 P6a HI5 P5h P4 HI HB4
    obtain ⟨g4, hg4⟩ : ∃ g, w4.heap.size = g := ⟨_, rfl⟩
    rw [hg4] at I6 NG ⊢
    generalize ((w4.alloc (.cells #[.int .i64 1, .bool neg, .slice A n4 c4, .int .i64 k, .int .i64 0, .bool false] 61)).setCell { block := w.heap.size + 1, off := 0 } (.int .i64 0)).setCell { block := w.heap.size + 1 + 1, off := 0 } (.int .i64 0) = W6 at P6 HI6 I6 HB6 ⊢
    clear hg4
    with_reducible (refine (MU.out _).mono ?_)
    rintro e w2 ⟨rfl, rfl⟩
    obtain ⟨⟨d0, d1, d2, d3, d4, d5⟩, -⟩ := six_free I6.out
    go_wp2_with fail
    with_reducible (refine (NU.out _ _ HI6.out).mono ?_)
    rintro e w7 ⟨⟨A7, n7, c7, rfl, h7⟩, b7⟩
    have HB7 := Lib.hid (bthen HB6.out b7)
    have P7 := Lib.hid (P6.out.below b7)
    have HI7 := Lib.hid h7
    clear b7 h7 d0 d1 d2 d3 d4 d5 I6 P6 HB6 HI6
    go_wp2_with fail
    with_reducible (refine (RD.out _ _ _ _ HB7.out HI7.out).mono ?_)
    rintro e w8 ⟨rfl, b8⟩
    have HB8 := Lib.hid (bthen HB7.out b8)
    have P8 := Lib.hid (P7.out.below b8)
    clear b8 HB7 P7 HI7
    obtain ⟨c0, f0⟩ := one_free P8.out.e
    obtain ⟨c1, f1⟩ := one_free P8.out.p
    obtain ⟨c2, f2⟩ := one_free P8.out.a
    go_wp2_with fail
    have P9 := Lib.hid ((P8.out.putp p).pute 0)
    have HB9 := Lib.hid ((HB8.out.setCell (p := { block := w.heap.size, off := 0 }) (Nat.le_refl _) (.int .u64 p)).setCell (p := { block := w.heap.size + 1 + 1, off := 0 }) (by simp; omega) (.int .i64 0))
    clear c0 f0 c1 f1 c2 f2 P8 HB8
    generalize (w8.setCell { block := w.heap.size, off := 0 } (.int .u64 p)).setCell { block := w.heap.size + 1 + 1, off := 0 } (.int .i64 0) = W9 at P9 HB9 ⊢
    with_reducible (refine (MU.out _).mono ?_)
    rintro e w2 ⟨rfl, rfl⟩
    obtain ⟨c0, f0⟩ := one_free P9.out.e
    obtain ⟨c1, f1⟩ := one_free P9.out.p
    obtain ⟨c2, f2⟩ := one_free P9.out.a
    go_wp2_with fail
    have Pa := Lib.hid (((P9.out.putp p).puta 0).pute 0)
    have HBa := Lib.hid (((HB9.out.setCell (p := { block := w.heap.size, off := 0 }) (Nat.le_refl _) (.int .u64 p)).setCell (p := { block := w.heap.size + 1, off := 0 }) (by simp) (.int .i64 0)).setCell (p := { block := w.heap.size + 1 + 1, off := 0 }) (by simp; omega) (.int .i64 0))
    clear c0 f0 c1 f1 c2 f2
    generalize ((W9.setCell { block := w.heap.size, off := 0 } (.int .u64 p)).setCell { block := w.heap.size + 1, off := 0 } (.int .i64 0)).setCell { block := w.heap.size + 1 + 1, off := 0 } (.int .i64 0) = Wa at Pa HBa ⊢
    refine leaves_cons (f := 16) (args := #[.pointer (some ⟨w.heap.size, 0, none⟩), .pointer (some ⟨w.heap.size + 1, 0, none⟩), .pointer (some ⟨w.heap.size + 1 + 1, 0, none⟩)]) (by simp) (by simp [go_sem]) ?_
    refine (pcaught_idle _ _ _ _).mono ?_
    rintro e u' w'' ⟨rfl, rfl, rfl⟩
    obtain ⟨c0, -⟩ := one_free Pa.out.e
    obtain ⟨c1, -⟩ := one_free Pa.out.p
    obtain ⟨c2, -⟩ := one_free Pa.out.a
    refine pleaves_ret (v := .tuple #[.int .u64 p, .int .i64 0, .int .i64 0]) ?_ ⟨rfl, HBa.out⟩
    simp only [results, Tryz.results8]
    simp [go_sem, c0, c1, c2]
end Go.Proofs.YtlmeobokpibifaaGreatDoor
end

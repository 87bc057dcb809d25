/- package nat's Text of a number below a hundred. Conditions: as each theorem names them. package layout's joined and zeros. Conditions: as each theorem names them. package short's finite. Conditions: as each theorem names them. package short's digits. Conditions: as each theorem names them. package layout's Right and Layout of short digits. Conditions: as each theorem names them. package layout's Layout of short digits. Conditions: as each theorem names them. -/
import Derived.Test.YtlmeobokpibifaaGreatDoorG07
import Derived.Test.YtlmeobokpibifaaGreatDoorShelf
import Derived.Test.YtlmeobokpibifaaGreatDoorG13
section
set_option linter.unusedSimpArgs false
set_option linter.unusedVariables false
set_option linter.unusedVariables false
namespace Go.Proofs.YtlmeobokpibifaaGreatDoor
open Go.RowKit

/-- the text of the list of bytes -/
abbrev tv (l : List UInt8) : Value := .string ⟨l.toArray⟩
theorem fmt_in (n : Nat) (hn : n < 100) (w : World) :
    Calls Tryz.prog 112 #[.int .u64 n, .int .i64 10] w fun e w' => e = .returned (tv (Lib.decDigits n)) ∧ w = w' := by
  have S := Lib.hid (Tryz.internal_strconv_small n hn w)
  have u1 : decide (n < 100) = true := decide_eq_true hn
  have u1' : decide ((n : Int) < 100) = true := decide_eq_true (by omega)
  have n1 : IntKind.i64.wrap (n : Int) = (n : Int) := IntWalk.i64_in _ (by omega)
  go_enter Tryz.func112, Tryz.ntmps112
  go_wp2_with fail
  with_reducible (refine S.out.mono ?_)
  rintro e w1 ⟨rfl, rfl⟩
  go_wp2_with fail
  go_ret
  exact ⟨rfl, rfl⟩
theorem fmt_small (n : Nat) (hn : n < 100) (w : World) :
    Calls Tryz.prog 79 #[.int .u64 n, .int .i64 10] w fun e w' => e = .returned (tv (Lib.decDigits n)) ∧ w = w' := by
  have S := Lib.hid (fmt_in n hn w)
  go_enter Tryz.func79, Tryz.ntmps79
  go_wp2_with fail
  with_reducible (refine S.out.mono ?_)
  rintro e w1 ⟨rfl, rfl⟩
  go_wp2_with fail
  go_ret
  exact ⟨rfl, rfl⟩

theorem join_flat (ls : List (List UInt8)) : Lib.join ls [] = ls.flatten := by
  cases ls with
  | nil => rfl
  | cons x r =>
    rw [Lib.join_cons, List.flatten_cons]
    unfold Lib.joinTail
    rw [show (fun y : List UInt8 => [] ++ y) = id from rfl, List.map_id]
/-- strings.Join without a separator -/
theorem join_calls (bk c n : Nat) (ls : List (List UInt8)) (w : World) (hn : ls.length = n) (hc : ∀ (j : Nat) x, ls[j]? = some x → w.cell? ⟨bk, j, none⟩ = some (tv x)) (hbk : bk < w.heap.size) (hcap : n ≤ c) (hn2 : n ≤ 1000) (hlen : ls.flatten.length ≤ 140737488355328) :
    Calls Tryz.prog 75 #[.slice (some ⟨bk, 0, none⟩) n c, .string ⟨#[]⟩] w fun e w' => e = .returned (tv ls.flatten) ∧ Below w.heap.size w w' := by
  have e1 : (ls.map fun l => (⟨l.toArray⟩ : ByteArray)).map (·.data.toList) = ls := by
    rw [List.map_map]
    exact List.map_id'' (fun _ => rfl) _
  have J := Tryz.strings_Join bk 0 c (ls.map fun l => ⟨l.toArray⟩) ⟨#[]⟩ w (fun j x hx => by
    rw [List.getElem?_map] at hx
    cases hj : ls[j]? with
    | none => rw [hj] at hx; cases hx
    | some y => rw [hj] at hx; simp at hx; subst hx; rw [Nat.zero_add]; exact hc j y hj) hbk (by rw [List.length_map]; omega) (by rw [List.length_map]; omega) (by
    rw [e1]; show (Lib.join ls []).length ≤ _; rw [join_flat]; exact hlen)
  rw [e1, List.length_map, hn] at J
  change Calls _ _ _ _ (fun e w' => e = .returned (tv (Lib.join ls [])) ∧ _) at J
  rw [join_flat] at J
  exact J
theorem put_cell (w : World) (g : Nat) (x y : Value) {Z : Array Value} {t : TypeId} (h : w.heap[g]? = some (Obj.cells (#[x] ++ Z) t (0, 0))) : (w.setCell ⟨g, 0, none⟩ y).cell? ⟨g, 0, none⟩ = some y := by
  simp [World.cell?, World.setCell, Array.getElem?_modify, h]
  simp [Array.getElem?_append]
set_option maxHeartbeats 1000000 in
theorem text_small (v : Value) (N : Nat) (w : World) (h : IsN w v N) (h0 : 0 < N) (hn : N < 100) :
    Calls Tryz.prog 53 #[v] w fun e w' => e = .returned (tv (Lib.decDigits N)) ∧ Below w.heap.size w w' := by
  have T := Lib.hid (trim_N v N w h)
  obtain ⟨Av, nv, cv, rfl, -⟩ := nlen h
  have F := Lib.hid (fun w' => fmt_small N hn w')
  have HN := Lib.hid (And.intro h0 hn)
  clear h h0 hn
  go_enter Tryz.func53, Tryz.ntmps53
  go_wp2_with fail
  with_reducible (refine T.out.mono ?_)
  rintro e w1 ⟨⟨A, n, F1, rfl, hr, hm, hs⟩, rfl⟩
  have hn1 : n = 1 := by
    have h1 := nm_len (k := 1) hm hs (by have := HN.out; unfold Wd; omega)
    rcases Nat.eq_zero_or_pos n with rfl | h
    · rw [S_zero] at hs; have := HN.out; omega
    · omega
  subst hn1
  have hF0 : F1 0 = N := by rw [← hs, S_succ, S_zero]; simp
  have AT := Lib.hid (at_any A 1 1 F1 0 w hr N (by rw [if_pos (by omega)]; exact hF0.symm))
  have u1 : decide (10000000000000000000 ≤ (N : Int)) = false := decide_eq_false (by have := HN.out; omega)
  have u1' : decide (10000000000000000000 ≤ N) = false := decide_eq_false (by have := HN.out; omega)
  clear hr hm hs hF0 T
  go_wp2_with fail
  have HB := Lib.hid (Below.refl w.heap.size w)
  go_loopw [0, 3] (fun a l wr => a = .slice A 1 1 ∧ l = .slice none 0 0 ∧ wr = w) (fun _ _ _ => 0)
  case atStart => exact ⟨rfl, rfl, rfl⟩
  case round =>
    obtain ⟨rfl, rfl, rfl⟩ := hrel
    go_wp2_with fail
    with_reducible (refine AT.out.mono ?_)
    rintro e w2 ⟨rfl, rfl⟩
    go_wp2_with fail
    with_reducible (refine AT.out.mono ?_)
    rintro e w2 ⟨rfl, rfl⟩
    go_wp2_with fail
    with_reducible (refine (F.out _).mono ?_)
    rintro e w2 ⟨rfl, rfl⟩
    go_wp2_with fail
    obtain ⟨cc, hcc⟩ : ∃ cc, (Question.appendCap 1 0 9).cut (wr.tape wr.drawn (Question.appendCap 1 0 9)) = cc := ⟨_, rfl⟩
    have hc1 : 1 ≤ cc := by rw [← hcc]; show 1 ≤ 1 + _; omega
    rw [hcc]
    obtain ⟨Z, hZ⟩ : ∃ Z, Builtin.zeroCells #[Value.string { data := #[] }] (cc - 1) = Z := ⟨_, rfl⟩
    rw [hZ]
    have HBa := Lib.hid (show Below wr.heap.size wr ((wr.alloc (Obj.cells #[tv (Lib.decDigits N)] 9)).alloc (Obj.cells (#[tv (Lib.decDigits N)] ++ Z) 9)).drew from (bgrow (bgrow HB.out _) _).drew)
    have PB : Hid (((wr.alloc (Obj.cells #[tv (Lib.decDigits N)] 9)).alloc (Obj.cells (#[tv (Lib.decDigits N)] ++ Z) 9)).drew.heap[wr.heap.size + 1]? = some (Obj.cells (#[tv (Lib.decDigits N)] ++ Z) 9 (0, 0))) := Lib.hid (by
      have e : (wr.alloc (Obj.cells #[tv (Lib.decDigits N)] 9)).heap.size = wr.heap.size + 1 := by simp
      rw [← e]; exact Deep.blk_alloc_new _ _)
    generalize ((wr.alloc (Obj.cells #[tv (Lib.decDigits N)] 9)).alloc (Obj.cells (#[tv (Lib.decDigits N)] ++ Z) 9)).drew = WA at HBa PB ⊢
    have PC : WA.cell? ⟨wr.heap.size + 1, 0, none⟩ = some (tv (Lib.decDigits N)) := by
      have e : (#[tv (Lib.decDigits N)] ++ Z)[0]? = some (tv (Lib.decDigits N)) := by simp [Array.getElem?_append]
      simp only [World.cell?, PB.out]; exact e
    have PF : WA.frozen? ⟨wr.heap.size + 1, 0, none⟩ = false := by simp [World.frozen?, PB.out]
    have RV := Lib.hid (Tryz.slices_Reverse_string_cells (wr.heap.size + 1) 0 1 cc (fun _ => ⟨(Lib.decDigits N).toArray⟩) WA (by decide) (fun i hi => by
      have h0 : i = 0 := by omega
      subst h0; exact PC) (fun i hi => by
      have h0 : i = 0 := by omega
      subst h0; exact PF))
    with_reducible (refine RV.out.mono ?_)
    rintro e w2 ⟨rfl, q, hw2⟩
    have hw3 : w2 = (WA.drewN q).setCell ⟨wr.heap.size + 1, 0, none⟩ (tv (Lib.decDigits N)) := hw2
    have HB3 := Lib.hid (show Below wr.heap.size wr w2 by rw [hw3]; exact (bdrewN HBa.out q).setCell (p := ⟨wr.heap.size + 1, 0, none⟩) (by simp) _)
    have hsz : wr.heap.size + 1 < w2.heap.size := by
      have h1 := blk_lt PB.out
      rw [hw3]; simpa using h1
    have PC3 : w2.cell? ⟨wr.heap.size + 1, 0, none⟩ = some (tv (Lib.decDigits N)) := by
      rw [hw3]; exact put_cell _ _ _ _ (by simpa using PB.out)
    clear RV PC PF PB HBa hw2 hw3
    go_wp2_with fail
    have JN := Lib.hid (join_calls (wr.heap.size + 1) cc 1 [Lib.decDigits N] w2 rfl (fun j x hx => by
      cases j with
      | zero => simp at hx; subst hx; exact PC3
      | succ j => simp at hx) hsz hc1 (by decide) (by
      have := HN.out.2
      have h3 : ∀ m < 100, (Lib.decDigits m).length ≤ 2 := by decide +kernel
      have := h3 N this
      rw [List.flatten_cons, List.flatten_nil, List.append_nil]
      omega))
    rw [List.flatten_cons, List.flatten_nil, List.append_nil] at JN
    with_reducible (refine JN.out.mono ?_)
    rintro e w3 ⟨rfl, b3⟩
    have HB4 := Lib.hid (bthen HB3.out b3)
    clear JN PC3 b3
    go_wp2_with fail
    go_ret
    exact ⟨rfl, HB4.out⟩
end Go.Proofs.YtlmeobokpibifaaGreatDoor
end

section
set_option linter.unusedSimpArgs false
set_option linter.unusedVariables false
set_option linter.unusedVariables false
namespace Go.Proofs.YtlmeobokpibifaaGreatDoor
open Go.RowKit

theorem zeros_none (w : World) : Calls Tryz.prog 54 #[.int .i64 0] w fun e w' => e = .returned (tv []) ∧ w = w' := by
  have S := Lib.hid (Tryz.strings_Repeat_zero ⟨#[48]⟩ w)
  go_enter Tryz.func54, Tryz.ntmps54
  go_wp2_with fail
  with_reducible (refine S.out.mono ?_)
  rintro e w1 ⟨rfl, rfl⟩
  go_wp2_with fail
  go_ret
  exact ⟨rfl, rfl⟩

theorem joined_pos (bk c n : Nat) (ls : List (List UInt8)) (w : World) (hn : ls.length = n) (hc : ∀ (j : Nat) x, ls[j]? = some x → w.cell? ⟨bk, j, none⟩ = some (tv x)) (hbk : bk < w.heap.size) (hcap : n ≤ c) (hn2 : n ≤ 1000) (hlen : ls.flatten.length ≤ 140737488355328) :
    Calls Tryz.prog 52 #[.bool false, .slice (some ⟨bk, 0, none⟩) n c] w fun e w' => e = .returned (tv ls.flatten) ∧ Below w.heap.size w w' := by
  have S := Lib.hid (join_calls bk c n ls w hn hc hbk hcap hn2 hlen)
  clear hn hc hbk hcap hn2 hlen
  go_enter Tryz.func52, Tryz.ntmps52
  go_wp2_with fail
  with_reducible (refine S.out.mono ?_)
  rintro e w1 ⟨rfl, b1⟩
  have HB := Lib.hid b1
  clear b1
  go_wp2_with fail
  go_ret
  exact ⟨rfl, HB.out⟩


theorem joined_neg2 (bk c : Nat) (x y : List UInt8) (w : World) (h0 : w.cell? ⟨bk, 0, none⟩ = some (tv x)) (h1 : w.cell? ⟨bk, 1, none⟩ = some (tv y)) (hbk : bk < w.heap.size) (hcap : 2 ≤ c) (hlen : x.length + y.length ≤ 1000) :
    Calls Tryz.prog 52 #[.bool true, .slice (some ⟨bk, 0, none⟩) 2 c] w fun e w' => e = .returned (tv (45 :: (x ++ y))) ∧ Below w.heap.size w w' := by
  have u1 : ¬ bk = w.heap.size := by omega
  have HL := Lib.hid hlen
  have HB := Lib.hid (Below.refl w.heap.size w)
  clear hlen
  go_enter Tryz.func52, Tryz.ntmps52
  go_wp2_with fail
  obtain ⟨cc, hcc⟩ : ∃ cc, (Question.appendCap 3 1 9).cut (w.tape w.drawn (Question.appendCap 3 1 9)) = cc := ⟨_, rfl⟩
  have hc1 : 3 ≤ cc := by rw [← hcc]; show 3 ≤ 3 + _; omega
  rw [hcc]
  obtain ⟨Z, hZ⟩ : ∃ Z, Builtin.zeroCells #[Value.string { data := #[] }] (cc - 3) = Z := ⟨_, rfl⟩
  rw [hZ]
  have HBa := Lib.hid (show Below w.heap.size w ((w.alloc (Obj.cells #[Value.string { data := #[45] }] 9)).alloc (Obj.cells (#[Value.string { data := #[45] }] ++ (#[tv x, tv y] ++ Z)) 9)).drew from (bgrow (bgrow HB.out _) _).drew)
  have PB : Hid (((w.alloc (Obj.cells #[Value.string { data := #[45] }] 9)).alloc (Obj.cells (#[Value.string { data := #[45] }] ++ (#[tv x, tv y] ++ Z)) 9)).drew.heap[w.heap.size + 1]? = some (Obj.cells (#[Value.string { data := #[45] }] ++ (#[tv x, tv y] ++ Z)) 9 (0, 0))) := Lib.hid (by
    have e : (w.alloc (Obj.cells #[Value.string { data := #[45] }] 9)).heap.size = w.heap.size + 1 := by simp
    rw [← e]; exact Deep.blk_alloc_new _ _)
  generalize ((w.alloc (Obj.cells #[Value.string { data := #[45] }] 9)).alloc (Obj.cells (#[Value.string { data := #[45] }] ++ (#[tv x, tv y] ++ Z)) 9)).drew = WA at HBa PB ⊢
  have JN := Lib.hid (join_calls (w.heap.size + 1) cc 3 [[45], x, y] WA rfl (fun j t hx => by
    have hj : j < 3 := by
      rcases Nat.lt_or_ge j 3 with h | h
      · exact h
      · rw [List.getElem?_eq_none (by simpa using h)] at hx; cases hx
    have e1 : WA.cell? ⟨w.heap.size + 1, j, none⟩ = (#[Value.string { data := #[45] }] ++ (#[tv x, tv y] ++ Z))[j]? := by simp [World.cell?, PB.out]
    rw [e1]
    rcases (show j = 0 ∨ j = 1 ∨ j = 2 from by omega) with rfl | rfl | rfl <;> (simp at hx; subst hx; simp [Array.getElem?_append])) (blk_lt PB.out) hc1 (by decide) (by
    have := HL.out
    simp only [List.flatten_cons, List.flatten_nil, List.append_nil, List.length_append, List.length_cons, List.length_nil]
    omega))
  simp only [List.flatten_cons, List.flatten_nil, List.append_nil, List.singleton_append] at JN
  with_reducible (refine JN.out.mono ?_)
  rintro e w3 ⟨rfl, b3⟩
  have HB4 := Lib.hid (bthen HBa.out b3)
  clear JN b3
  go_wp2_with fail
  go_ret
  exact ⟨rfl, HB4.out⟩

theorem joined_neg3 (bk c : Nat) (x y z : List UInt8) (w : World) (h0 : w.cell? ⟨bk, 0, none⟩ = some (tv x)) (h1 : w.cell? ⟨bk, 1, none⟩ = some (tv y)) (h2 : w.cell? ⟨bk, 2, none⟩ = some (tv z)) (hbk : bk < w.heap.size) (hcap : 3 ≤ c) (hlen : x.length + y.length + z.length ≤ 1000) :
    Calls Tryz.prog 52 #[.bool true, .slice (some ⟨bk, 0, none⟩) 3 c] w fun e w' => e = .returned (tv (45 :: (x ++ (y ++ z)))) ∧ Below w.heap.size w w' := by
  have u1 : ¬ bk = w.heap.size := by omega
  have HL := Lib.hid hlen
  have HB := Lib.hid (Below.refl w.heap.size w)
  clear hlen
  go_enter Tryz.func52, Tryz.ntmps52
  go_wp2_with fail
  obtain ⟨cc, hcc⟩ : ∃ cc, (Question.appendCap 4 1 9).cut (w.tape w.drawn (Question.appendCap 4 1 9)) = cc := ⟨_, rfl⟩
  have hc1 : 4 ≤ cc := by rw [← hcc]; show 4 ≤ 4 + _; omega
  rw [hcc]
  obtain ⟨Z, hZ⟩ : ∃ Z, Builtin.zeroCells #[Value.string { data := #[] }] (cc - 4) = Z := ⟨_, rfl⟩
  rw [hZ]
  have HBa := Lib.hid (show Below w.heap.size w ((w.alloc (Obj.cells #[Value.string { data := #[45] }] 9)).alloc (Obj.cells (#[Value.string { data := #[45] }] ++ (#[tv x, tv y, tv z] ++ Z)) 9)).drew from (bgrow (bgrow HB.out _) _).drew)
  have PB : Hid (((w.alloc (Obj.cells #[Value.string { data := #[45] }] 9)).alloc (Obj.cells (#[Value.string { data := #[45] }] ++ (#[tv x, tv y, tv z] ++ Z)) 9)).drew.heap[w.heap.size + 1]? = some (Obj.cells (#[Value.string { data := #[45] }] ++ (#[tv x, tv y, tv z] ++ Z)) 9 (0, 0))) := Lib.hid (by
    have e : (w.alloc (Obj.cells #[Value.string { data := #[45] }] 9)).heap.size = w.heap.size + 1 := by simp
    rw [← e]; exact Deep.blk_alloc_new _ _)
  generalize ((w.alloc (Obj.cells #[Value.string { data := #[45] }] 9)).alloc (Obj.cells (#[Value.string { data := #[45] }] ++ (#[tv x, tv y, tv z] ++ Z)) 9)).drew = WA at HBa PB ⊢
  have JN := Lib.hid (join_calls (w.heap.size + 1) cc 4 [[45], x, y, z] WA rfl (fun j t hx => by
    have hj : j < 4 := by
      rcases Nat.lt_or_ge j 4 with h | h
      · exact h
      · rw [List.getElem?_eq_none (by simpa using h)] at hx; cases hx
    have e1 : WA.cell? ⟨w.heap.size + 1, j, none⟩ = (#[Value.string { data := #[45] }] ++ (#[tv x, tv y, tv z] ++ Z))[j]? := by simp [World.cell?, PB.out]
    rw [e1]
    rcases (show j = 0 ∨ j = 1 ∨ j = 2 ∨ j = 3 from by omega) with rfl | rfl | rfl | rfl <;> (simp at hx; subst hx; simp [Array.getElem?_append])) (blk_lt PB.out) hc1 (by decide) (by
    have := HL.out
    simp only [List.flatten_cons, List.flatten_nil, List.append_nil, List.length_append, List.length_cons, List.length_nil]
    omega))
  simp only [List.flatten_cons, List.flatten_nil, List.append_nil, List.singleton_append] at JN
  with_reducible (refine JN.out.mono ?_)
  rintro e w3 ⟨rfl, b3⟩
  have HB4 := Lib.hid (bthen HBa.out b3)
  clear JN b3
  go_wp2_with fail
  go_ret
  exact ⟨rfl, HB4.out⟩
end Go.Proofs.YtlmeobokpibifaaGreatDoor
end

section
set_option linter.unusedSimpArgs false
set_option linter.unusedVariables false
set_option linter.unusedVariables false
set_option linter.unusedSimpArgs false
namespace Go.Proofs.YtlmeobokpibifaaGreatDoor
open Go.RowKit

abbrev vcells (w : World) (g : Nat) (cl : Int) (vn : Bool) (m : Nat) (e : Int) : Prop := w.heap[g]? = some (.cells #[.int .i64 cl, .bool vn, .int .u64 m, .int .i64 e] 31 (0, 0))
theorem vc_far {w : World} {g k : Nat} {cs : Array Value} {t : TypeId} (h : w.heap[g]? = some (.cells cs t (0, 0))) (hne : g ≠ k) (a b c d : Value) : ((((w.setCell { block := k, off := 0 } a).setCell { block := k, off := 1 } b).setCell { block := k, off := 2 } c).setCell { block := k, off := 3 } d).heap[g]? = some (.cells cs t (0, 0)) := by
  rw [Deep.blk_setCell_other _ _ _ _ hne, Deep.blk_setCell_other _ _ _ _ hne, Deep.blk_setCell_other _ _ _ _ hne, Deep.blk_setCell_other _ _ _ _ hne]
  exact h

theorem f_put4 {B : Nat} {w : World} {v : Value} {N : Nat} (h : IsF B w v N) {g : Nat} (hg : g < B) (a b c d : Value) : IsF B ((((w.setCell { block := g, off := 0 } a).setCell { block := g, off := 1 } b).setCell { block := g, off := 2 } c).setCell { block := g, off := 3 } d) v N :=
  (((h.set { block := g, off := 0 } a hg).set { block := g, off := 1 } b hg).set { block := g, off := 2 } c hg).set { block := g, off := 3 } d hg
set_option maxRecDepth 100000 in
set_option maxHeartbeats 1000000 in
/-- what a pattern means, and its size, of a number that is not nought -/
theorem finite_fin (n p mm : Nat) (neg : Bool) (ee : Int) (w : World) (hm : mm < 18446744073709551616) (he : inB ee = true)
    (DE : Hid (∀ w', Below w.heap.size w w' → Calls Tryz.prog 9 #[.int .i64 n, .int .u64 p] w' fun e w'' => e = .returned (.tuple #[.agg #[.int .i64 2, .bool neg, .int .u64 mm, .int .i64 ee], .int .i64 0]) ∧ Below w'.heap.size w' w'')) :
    Calls Tryz.prog 33 #[.int .i64 n, .int .u64 p] w fun en w' => (∃ A n c, en = .returned (.tuple #[.agg #[.int .i64 2, .bool neg, .int .u64 mm, .int .i64 ee], xv false (.slice A n c) ee 0, .int .i64 0]) ∧ IsN w' (.slice A n c) mm) ∧ Below w.heap.size w w' := by
  have HA := Lib.hid (bgrow (bgrow (Below.refl w.heap.size w) (.cells #[.int .i64 0, .bool false, .int .u64 0, .int .i64 0] 31)) (xbox false (.slice none 0 0) 0 0))
  have V4 : Hid (vcells ((w.alloc (.cells #[.int .i64 0, .bool false, .int .u64 0, .int .i64 0] 31)).alloc (xbox false (.slice none 0 0) 0 0)) w.heap.size 0 false 0 0) := Lib.hid ((Deep.blk_alloc_lt _ _ _ (by simp)).trans (Deep.blk_alloc_new _ _))
  have X5 : Hid (xcells ((w.alloc (.cells #[.int .i64 0, .bool false, .int .u64 0, .int .i64 0] 31)).alloc (xbox false (.slice none 0 0) 0 0)) (w.heap.size + 1) false (.slice none 0 0) 0 0) := Lib.hid (by
    have := Deep.blk_alloc_new (w.alloc (.cells #[.int .i64 0, .bool false, .int .u64 0, .int .i64 0] 31)) (xbox false (.slice none 0 0) 0 0)
    have e : (w.alloc (.cells #[.int .i64 0, .bool false, .int .u64 0, .int .i64 0] 31)).heap.size = w.heap.size + 1 := by simp
    rw [e] at this
    exact this)
  have OF := Lib.hid (fun w' => of_fin false mm ee w' hm he)
  clear he hm
  unfold vv xbox xv at *
  go_enter Tryz.func33, Tryz.ntmps33
  go_wp2_with fail
  generalize ((w.alloc (.cells #[.int .i64 0, .bool false, .int .u64 0, .int .i64 0] 31)).alloc (.cells #[.bool false, .slice none 0 0, .int .i64 0, .int .i64 0] 41)) = WB at HA V4 X5 ⊢
  with_reducible (refine (DE.out _ HA.out).mono ?_)
  rintro en w1 ⟨rfl, b1⟩
  have bb : Below WB.heap.size WB (w1.alloc (.cells #[.int .i64 2, .bool neg, .int .u64 mm, .int .i64 ee] 31)) := bgrow b1 _
  have HB1 := Lib.hid (bthen HA.out bb)
  have V4b := Lib.hid (show vcells (w1.alloc (.cells #[.int .i64 2, .bool neg, .int .u64 mm, .int .i64 ee] 31)) _ _ _ _ _ from (bb.block _ (blk_lt V4.out)).trans V4.out)
  have X5b := Lib.hid (show xcells (w1.alloc (.cells #[.int .i64 2, .bool neg, .int .u64 mm, .int .i64 ee] 31)) _ _ _ _ _ from (bb.block _ (blk_lt X5.out)).trans X5.out)
  have V7 : Hid (vcells (w1.alloc (.cells #[.int .i64 2, .bool neg, .int .u64 mm, .int .i64 ee] 31)) w1.heap.size 2 neg mm ee) := Lib.hid (Deep.blk_alloc_new _ _)
  have N1 : Hid (w.heap.size + 1 < w1.heap.size) := Lib.hid (by have := blk_lt X5.out; have := b1.size; omega)
  clear b1 bb V4 X5 HA
  go_wp2_with fail
  generalize (w1.alloc (.cells #[.int .i64 2, .bool neg, .int .u64 mm, .int .i64 ee] 31)) = WC at HB1 V4b X5b V7 ⊢
  with_reducible (refine (OF.out _).mono ?_)
  rintro en w2 ⟨⟨A, n2, c, rfl, hv⟩, b2⟩
  · have bb : Below WC.heap.size WC (w2.alloc (.cells #[.bool false, .slice A n2 c, .int .i64 ee, .int .i64 0] 41)) := bgrow b2 _
    have HB2 := Lib.hid (bthen HB1.out bb)
    have V4c := Lib.hid (show vcells (w2.alloc (.cells #[.bool false, .slice A n2 c, .int .i64 ee, .int .i64 0] 41)) _ _ _ _ _ from (bb.block _ (blk_lt V4b.out)).trans V4b.out)
    have X5c := Lib.hid (show xcells (w2.alloc (.cells #[.bool false, .slice A n2 c, .int .i64 ee, .int .i64 0] 41)) _ _ _ _ _ from (bb.block _ (blk_lt X5b.out)).trans X5b.out)
    have V7c := Lib.hid (show vcells (w2.alloc (.cells #[.bool false, .slice A n2 c, .int .i64 ee, .int .i64 0] 41)) _ _ _ _ _ from (bb.block _ (blk_lt V7.out)).trans V7.out)
    have X9 : Hid (xcells (w2.alloc (.cells #[.bool false, .slice A n2 c, .int .i64 ee, .int .i64 0] 41)) w2.heap.size false (.slice A n2 c) ee 0) := Lib.hid (Deep.blk_alloc_new _ _)
    have HV := Lib.hid (hv.below (bgrow (Below.refl _ _) (.cells #[.bool false, .slice A n2 c, .int .i64 ee, .int .i64 0] 41)))
    have N2 : Hid (w1.heap.size < w2.heap.size) := Lib.hid (by have := blk_lt V7.out; have := b2.size; omega)
    have N3 : Hid (w.heap.size + 1 < WC.heap.size) := Lib.hid (by have := N1.out; have := blk_lt V7.out; omega)
    clear b2 bb hv V4b X5b V7 HB1
    go_wp2_with fail
    generalize (w2.alloc (.cells #[.bool false, .slice A n2 c, .int .i64 ee, .int .i64 0] 41)) = W3 at HB2 V4c X5c V7c X9 HV ⊢
    have hn1 := N1.out
    have hn2 := N2.out
    obtain ⟨a0, a1, a2, a3, a4, a5, a6, a7⟩ := four_free V4c.out
    have PA : Hid (∀ w', vcells w' w1.heap.size 2 neg mm ee → xcells w' w2.heap.size false (.slice A n2 c) ee 0 → (w'.cell? { block := w1.heap.size, off := 0 } = some (.int .i64 2) ∧ w'.cell? { block := w1.heap.size, off := 1 } = some (.bool neg) ∧ w'.cell? { block := w1.heap.size, off := 2 } = some (.int .u64 mm) ∧ w'.cell? { block := w1.heap.size, off := 3 } = some (.int .i64 ee)) ∧ (w'.cell? { block := w2.heap.size, off := 0 } = some (.bool false) ∧ w'.cell? { block := w2.heap.size, off := 1 } = some (.slice A n2 c) ∧ w'.cell? { block := w2.heap.size, off := 2 } = some (.int .i64 ee) ∧ w'.cell? { block := w2.heap.size, off := 3 } = some (.int .i64 0))) := Lib.hid (fun w' p q => by
      obtain ⟨a, b, c, d, -⟩ := four_free p
      obtain ⟨a', b', c', d', -⟩ := four_free q
      exact ⟨⟨a, b, c, d⟩, a', b', c', d'⟩)
    refine wp_region_held_drew (S := fun w' => (w'.cell? { block := w1.heap.size, off := 0 } = some (.int .i64 2) ∧ w'.cell? { block := w1.heap.size, off := 1 } = some (.bool neg) ∧ w'.cell? { block := w1.heap.size, off := 2 } = some (.int .u64 mm) ∧ w'.cell? { block := w1.heap.size, off := 3 } = some (.int .i64 ee)) ∧ (w'.cell? { block := w2.heap.size, off := 0 } = some (.bool false) ∧ w'.cell? { block := w2.heap.size, off := 1 } = some (.slice A n2 c) ∧ w'.cell? { block := w2.heap.size, off := 2 } = some (.int .i64 ee) ∧ w'.cell? { block := w2.heap.size, off := 3 } = some (.int .i64 0))) (by kernel_rfl) (PA.out W3.drew V7c.out X9.out) (fun hH => ?_)
    refine take_p (i := 0) (oi := ?_) (v := ?_) ?_ ?_ ?_ ?_ ?_ ?_ ?_ hH ?_
    rotate_left 2
    · (simp only [List.getElem?_toArray, List.getElem?_cons_succ, List.getElem?_cons_zero]; rfl)
    · kernel_rfl
    · kernel_rfl
    · kernel_rfl
    · exact fun _ _ _ h => h
    · rfl
    · (intro w hSw; (try dsimp only at hSw); go_simp; all_goals (with_reducible rfl))
    try simp only [Act.put, List.setIfInBounds_toArray, List.set_cons_zero, List.set_cons_succ]
    refine take_p (i := 1) (oi := ?_) (v := ?_) ?_ ?_ ?_ ?_ ?_ ?_ ?_ hH ?_
    rotate_left 2
    · (simp only [List.getElem?_toArray, List.getElem?_cons_succ, List.getElem?_cons_zero]; rfl)
    · kernel_rfl
    · kernel_rfl
    · kernel_rfl
    · exact fun _ _ _ h => h
    · rfl
    · (intro w hSw; (try dsimp only at hSw); go_simp; all_goals (with_reducible rfl))
    try simp only [Act.put, List.setIfInBounds_toArray, List.set_cons_zero, List.set_cons_succ]
    refine wpAnyH_ready (rs := [2]) (by kernel_rfl) (by simp) ?_
    refine AllReadyH.cons rfl (fun K hK => ?_) AllReadyH.nil
    go_simp
    have V7d := Lib.hid (vc_far V7c.out (k := w.heap.size) (by omega) (.int .i64 2) (.bool neg) (.int .u64 mm) (.int .i64 ee))
    have X9d := Lib.hid (vc_far X9.out (k := w.heap.size) (by omega) (.int .i64 2) (.bool neg) (.int .u64 mm) (.int .i64 ee))
    refine hK.out _ _ (PA.out _ V7d.out X9d.out) (fun hHeld => ?_)
    clear hK K
    try simp only [Act.put, List.setIfInBounds_toArray, List.set_cons_zero, List.set_cons_succ]
    refine at_reg ?_
    intro W8 hW8
    have HB8 : Hid (Below w.heap.size w W8) := Lib.hid (by rw [hW8]; exact (below4 HB2.out (g := w.heap.size) (Nat.le_refl _) (.int .i64 2) (.bool neg) (.int .u64 mm) (.int .i64 ee)).drew)
    have V8 : Hid (vcells W8 w.heap.size 2 neg mm ee) := Lib.hid (by rw [hW8]; exact put4 (a' := .int .i64 2) (b' := .bool neg) (c' := .int .u64 mm) (d' := .int .i64 ee) V4c.out)
    have X8 : Hid (xcells W8 (w.heap.size + 1) false (.slice none 0 0) 0 0) := Lib.hid (by rw [hW8]; exact vc_far X5c.out (k := w.heap.size) (by omega) (.int .i64 2) (.bool neg) (.int .u64 mm) (.int .i64 ee))
    have V7e : Hid (vcells W8 w1.heap.size 2 neg mm ee) := Lib.hid (by rw [hW8]; exact V7d.out)
    have X9e : Hid (xcells W8 w2.heap.size false (.slice A n2 c) ee 0) := Lib.hid (by rw [hW8]; exact X9d.out)
    have I8 : Hid (IsF WC.heap.size W8 (.slice A n2 c) mm) := Lib.hid (by rw [hW8]; exact (f_put4 HV.out (g := w.heap.size) (by have := N3.out; omega) (.int .i64 2) (.bool neg) (.int .u64 mm) (.int .i64 ee)))
    replace hH := PA.out _ V7e.out X9e.out
    clear hW8 V7d X9d a0 a1 a2 a3 a4 a5 a6 a7 HB2 V4c X5c V7c X9 HV
    obtain ⟨a0, a1, a2, a3, a4, a5, a6, a7⟩ := four_free X8.out
    refine wpAnyH_ready (rs := [3]) (by kernel_rfl) (by simp) ?_
    refine AllReadyH.cons rfl (fun K hK => ?_) AllReadyH.nil
    go_simp
    have V7f := Lib.hid (vc_far V7e.out (k := w.heap.size + 1) (by omega) (.bool false) (.slice A n2 c) (.int .i64 ee) (.int .i64 0))
    have X9f := Lib.hid (vc_far X9e.out (k := w.heap.size + 1) (by omega) (.bool false) (.slice A n2 c) (.int .i64 ee) (.int .i64 0))
    refine hK.out _ _ (PA.out _ V7f.out X9f.out) (fun hHeld => ?_)
    clear hK K
    replace hH := hHeld
    clear hHeld
    try simp only [Act.put, List.setIfInBounds_toArray, List.set_cons_zero, List.set_cons_succ]
    refine take_p (i := 4) (oi := ?_) (v := ?_) ?_ ?_ ?_ ?_ ?_ ?_ ?_ hH ?_
    rotate_left 2
    · (simp only [List.getElem?_toArray, List.getElem?_cons_succ, List.getElem?_cons_zero]; rfl)
    · kernel_rfl
    · kernel_rfl
    · kernel_rfl
    · exact fun _ _ _ h => h
    · rfl
    · (intro w hSw; (try dsimp only at hSw); go_simp; all_goals (with_reducible rfl))
    try simp only [Act.put, List.setIfInBounds_toArray, List.set_cons_zero, List.set_cons_succ]
    refine wpAnyH_done (by kernel_rfl) ?_ _
    have HB9 := Lib.hid (below4 HB8.out (g := w.heap.size + 1) (by omega) (.bool false) (.slice A n2 c) (.int .i64 ee) (.int .i64 0))
    have I9 := (f_put4 I8.out (g := w.heap.size + 1) N3.out (.bool false) (.slice A n2 c) (.int .i64 ee) (.int .i64 0)).isn
    have V9 := Lib.hid (vc_far V8.out (k := w.heap.size + 1) (by omega) (.bool false) (.slice A n2 c) (.int .i64 ee) (.int .i64 0))
    have X9g := Lib.hid (put4 (a' := .bool false) (b' := .slice A n2 c) (c' := .int .i64 ee) (d' := .int .i64 0) X8.out)
    clear a0 a1 a2 a3 a4 a5 a6 a7 hH
    obtain ⟨d0, d1, d2, d3, -⟩ := four_free V9.out
    obtain ⟨e0, e1, e2, e3, -⟩ := four_free X9g.out
    go_wp2_with fail
    refine bodyPost_ret (v := .tuple #[.agg #[.int .i64 2, .bool neg, .int .u64 mm, .int .i64 ee], .agg #[.bool false, .slice A n2 c, .int .i64 ee, .int .i64 0], .int .i64 0]) (by simp [results, Tryz.results33, go_sem, d0, d1, d2, d3, e0, e1, e2, e3]) rfl ⟨⟨_, _, _, rfl, I9⟩, HB9.out⟩
end Go.Proofs.YtlmeobokpibifaaGreatDoor
end

section
set_option linter.unusedSimpArgs false
set_option linter.unusedVariables false
set_option linter.unusedVariables false
namespace Go.Proofs.YtlmeobokpibifaaGreatDoor
open Go.RowKit

theorem of_ten_F (w : World) :
    Calls Tryz.prog 44 #[.int .u64 10] w fun e w' => (∃ A n c, e = .returned (.slice A n c) ∧ IsF w.heap.size w' (.slice A n c) 10) ∧ Below w.heap.size w w' := of_F 10 (by decide) w
abbrev dbox (neg : Bool) (v : Value) (k : Int) : Obj := .cells #[.bool neg, v, .int .i64 k] 84
theorem three_free {w : World} {g : Nat} {a b c : Value} {t : TypeId} (hb : w.heap[g]? = some (.cells #[a, b, c] t (0, 0))) :
    w.cell? { block := g, off := 0 } = some a ∧ w.cell? { block := g, off := 1 } = some b ∧ w.cell? { block := g, off := 2 } = some c ∧ w.frozen? { block := g, off := 0 } = false ∧ w.frozen? { block := g, off := 1 } = false ∧ w.frozen? { block := g, off := 2 } = false := by
  refine ⟨?_, ?_, ?_, ?_, ?_, ?_⟩ <;> simp [World.cell?, World.frozen?, hb]
theorem put3' {w : World} {g : Nat} {a b c a' b' c' : Value} {t : TypeId} (hb : w.heap[g]? = some (.cells #[a, b, c] t (0, 0))) :
    (((w.setCell { block := g, off := 0 } a').setCell { block := g, off := 1 } b').setCell { block := g, off := 2 } c').heap[g]? = some (.cells #[a', b', c'] t (0, 0)) := by
  simp [World.setCell, Array.getElem?_modify, hb]
theorem isn_put3 {w : World} {u : Value} {N : Nat} (h : IsN w u N) {g : Nat} {neg : Bool} {A : Option Addr} {n c : Nat} {k : Int} (hx : w.heap[g]? = some (.cells #[.bool neg, .slice A n c, .int .i64 k] 84 (0, 0))) (a b d : Value) : IsN (((w.setCell { block := g, off := 0 } a).setCell { block := g, off := 1 } b).setCell { block := g, off := 2 } d) u N :=
  IsN.off h hx (by intro x hx z; simp at hx; rcases hx with rfl | rfl | rfl <;> simp) (by simp) (fun k hk => by rw [Deep.blk_setCell_other _ _ _ _ hk, Deep.blk_setCell_other _ _ _ _ hk, Deep.blk_setCell_other _ _ _ _ hk])
theorem below3 {B : Nat} {a w : World} (h : Below B a w) {g : Nat} (hg : B ≤ g) (x0 x1 x2 : Value) : Below B a (((w.setCell { block := g, off := 0 } x0).setCell { block := g, off := 1 } x1).setCell { block := g, off := 2 } x2) :=
  ((h.setCell (p := { block := g, off := 0 }) hg x0).setCell (p := { block := g, off := 1 }) hg x1).setCell (p := { block := g, off := 2 }) hg x2

set_option maxHeartbeats 1000000 in
theorem digits_one (neg : Bool) (v : Value) (k : Int) (D : Nat) (w : World) (h : IsN w v D) (hD : D < 2 ^ 200) (h10 : D % 10 ≠ 0) :
    Calls Tryz.prog 37 #[.bool neg, v, .int .i64 k] w fun en w' => (∃ A n c, en = .returned (.agg #[.bool neg, .slice A n c, .int .i64 k]) ∧ IsN w' (.slice A n c) D) ∧ Below w.heap.size w w' := by
  obtain ⟨Av, nv, cv, rfl, hz⟩ := nlen h
  have u1 : ((nv : Int) == 0) = false := by simp; omega
  obtain ⟨E, hE⟩ : ∃ E, E = 200 := ⟨_, rfl⟩
  rw [← hE] at hD
  have DV := Lib.hid (fun u w' q1 q2 => div_N (.slice Av nv cv) u D 10 E w' q1 q2 hD (by omega) (by decide))
  have HH := Lib.hid h
  have HA := Lib.hid (bgrow (Below.refl w.heap.size w) (dbox false (.slice none 0 0) 0))
  have BX : Hid ((w.alloc (dbox false (.slice none 0 0) 0)).heap[w.heap.size]? = some (.cells #[.bool false, .slice none 0 0, .int .i64 0] 84 (0, 0))) := Lib.hid (Deep.blk_alloc_new _ _)
  have OT := Lib.hid (fun w' => of_ten_F w')
  have H10 := Lib.hid h10
  clear h hz hD hE h10
  unfold dbox at *
  go_enter Tryz.func37, Tryz.ntmps37
  go_wp2_with fail
  have H0 := Lib.hid (HH.out.below HA.out)
  generalize (w.alloc (.cells #[.bool false, .slice none 0 0, .int .i64 0] 84)) = WB at HA BX H0 ⊢
  go_loopw [1, 2] (fun d kk wr => d = .slice Av nv cv ∧ kk = .int .i64 k ∧ wr = WB) (fun _ _ _ => 0)
  case atStart => exact ⟨rfl, rfl, rfl⟩
  case round =>
    obtain ⟨rfl, rfl, rfl⟩ := hrel
    go_wp2_with fail
    with_reducible (refine (OT.out _).mono ?_)
    rintro en w1 ⟨⟨A1, n1, c1, rfl, i1⟩, b1⟩
    have HB1 := Lib.hid (bthen HA.out b1)
    have BX1 := Lib.hid ((b1.block _ (blk_lt BX.out)).trans BX.out)
    have H1 := Lib.hid (H0.out.below b1)
    have I1 := Lib.hid i1.isn
    clear b1 i1 BX H0 HA
    go_wp2_with fail
    with_reducible (refine (DV.out _ _ H1.out I1.out).mono ?_)
    rintro en w2 ⟨⟨q, r, rfl, j4, j5⟩, b2⟩
    obtain ⟨A4, n4, c4, rfl, -⟩ := nlen j4
    obtain ⟨A5, n5, c5, rfl, z5⟩ := nlen j5
    have hz5 : 0 < n5 := by have := H10.out; omega
    have u2 : decide ((0 : Int) < (n5 : Int)) = true := decide_eq_true (by omega)
    have u2' : decide (0 < n5) = true := decide_eq_true hz5
    have HB2 := Lib.hid (bthen HB1.out b2)
    have BX2 := Lib.hid ((b2.block _ (blk_lt BX1.out)).trans BX1.out)
    have H2 := Lib.hid (H1.out.below b2)
    obtain ⟨d0, d1, d2, f0, f1, f2⟩ := three_free BX2.out
    clear b2 j4 j5 z5 hz5 BX1 H1 HB1 I1
    go_wp2_with fail
    have P3 := put3' (a' := .bool neg) (b' := .slice Av nv cv) (c' := .int .i64 k) BX2.out
    have HB3 := Lib.hid (below3 HB2.out (g := w.heap.size) (Nat.le_refl _) (.bool neg) (.slice Av nv cv) (.int .i64 k))
    have H3 := Lib.hid (isn_put3 H2.out BX2.out (.bool neg) (.slice Av nv cv) (.int .i64 k))
    clear d0 d1 d2 f0 f1 f2
    obtain ⟨d0, d1, d2, -⟩ := three_free P3
    refine bodyPost_ret (v := .agg #[.bool neg, .slice Av nv cv, .int .i64 k]) (by simp [results, Tryz.results37, go_sem, d0, d1, d2]) rfl ⟨⟨_, _, _, rfl, H3.out⟩, HB3.out⟩
end Go.Proofs.YtlmeobokpibifaaGreatDoor
end

section
set_option linter.unusedSimpArgs false
set_option linter.unusedVariables false
set_option linter.unusedVariables false
namespace Go.Proofs.YtlmeobokpibifaaGreatDoor
open Go.RowKit

theorem one_word {w : World} {v : Value} {N : Nat} (h : IsN w v N) (h0 : 0 < N) (hn : N < 18446744073709551616) : ∃ ad c, v = .slice (some ad) 1 c ∧ ad.block < w.heap.size ∧ w.cell? ad = some (.int .u64 N) := by
  obtain ⟨A, n, c, F, rfl, hr, hm, hs⟩ := h
  have h1 := nm_len (k := 1) hm hs (by unfold Wd; omega)
  have hn1 : n = 1 := by
    rcases Nat.eq_zero_or_pos n with rfl | h
    · rw [S_zero] at hs; omega
    · omega
  subst hn1
  have hF0 : F 0 = N := by rw [← hs, S_succ, S_zero]; simp
  obtain ⟨ad, rfl, hb, hc⟩ := hr.at_ 0 (by decide)
  rw [hF0] at hc
  refine ⟨ad, c, rfl, hb, ?_⟩
  have e : ad.add 0 = ad := by unfold Addr.add; simp
  rw [e] at hc
  exact hc

theorem dig_shape (N : Nat) (hn : N < 100) (h10 : N % 10 ≠ 0) : (∃ b, Lib.decDigits N = [b] ∧ b.toNat ≠ 48) ∨ (∃ a b, Lib.decDigits N = [a, b] ∧ b.toNat ≠ 48) := by
  have H : ∀ m < 100, m % 10 ≠ 0 → (match Lib.decDigits m with | [b] => decide (b.toNat ≠ 48) | [_, b] => decide (b.toNat ≠ 48) | _ => false) = true := by decide +kernel
  have h := H N hn h10
  split at h
  · rename_i b e; exact Or.inl ⟨b, e, of_decide_eq_true h⟩
  · rename_i a b e; exact Or.inr ⟨a, b, e, of_decide_eq_true h⟩
  · cases h
set_option maxHeartbeats 1000000 in
theorem right_small (neg : Bool) (v : Value) (N : Nat) (k : Int) (w : World) (h : IsN w v N) (h0 : 0 < N) (hn : N < 100) (h10 : N % 10 ≠ 0) (hk : -5000 ≤ k ∧ k ≤ 5000) :
    Calls Tryz.prog 51 #[.agg #[.bool neg, v, .int .i64 k]] w fun e w' => e = .returned (.bool true) ∧ Below w.heap.size w w' := by
  have HH := Lib.hid h
  have TX := Lib.hid (fun v w' q => text_small v N w' q h0 hn)
  obtain ⟨ad, c, rfl, hb, hc⟩ := one_word h h0 (by omega)
  have HB := Lib.hid (bgrow (Below.refl w.heap.size w) (dbox neg (.slice (some ad) 1 c) k))
  have BX : Hid ((w.alloc (dbox neg (.slice (some ad) 1 c) k)).heap[w.heap.size]? = some (.cells #[.bool neg, .slice (some ad) 1 c, .int .i64 k] 84 (0, 0))) := Lib.hid (Deep.blk_alloc_new _ _)
  have u1 : ((N : Int) == 0) = false := by simp; omega
  have u2 : decide (k < -5000) = false := decide_eq_false (by omega)
  have u3 : decide ((5000 : Int) < k) = false := decide_eq_false (by omega)
  have hcA : (w.alloc (dbox neg (.slice (some ad) 1 c) k)).cell? ad = some (.int .u64 N) := (HB.out.cell hb).trans hc
  have HN := Lib.hid (And.intro h0 (And.intro hn h10))
  have HT := Lib.hid (HH.out.below HB.out)
  clear h h0 hn h10 hk hc HH
  unfold dbox at *
  go_enter Tryz.func51, Tryz.ntmps51
  go_wp2_with fail
  generalize (w.alloc (.cells #[.bool neg, .slice (some ad) 1 c, .int .i64 k] 84)) = WB at HB BX HT hcA ⊢
  with_reducible (refine (TX.out _ _ HT.out).mono ?_)
  rintro e w1 ⟨rfl, b1⟩
  have HB1 := Lib.hid (bthen HB.out b1)
  clear b1 HB BX HT hcA TX
  obtain ⟨h0, hn, h10⟩ := HN.out
  rcases dig_shape N hn h10 with ⟨b, e, hb8⟩ | ⟨a, b, e, hb8⟩ <;> rw [e]
  all_goals
    have q1 : ((b.toNat : Int) != 48) = true := by simp; omega
    clear e h0 hn h10
    go_wp2_with fail
    go_ret
    exact ⟨congrArg (fun x => Ending.returned (Value.bool x)) q1, HB1.out⟩
end Go.Proofs.YtlmeobokpibifaaGreatDoor
end

section
set_option linter.unusedSimpArgs false
set_option linter.unusedVariables false
set_option linter.unusedVariables false
namespace Go.Proofs.YtlmeobokpibifaaGreatDoor
open Go.RowKit

/-- a text behind its sign -/
def sgl (neg : Bool) (l : List UInt8) : List UInt8 := if neg then 45 :: l else l
theorem pair_at {w : World} {bk : Nat} {x y : List UInt8} (h0 : w.cell? ⟨bk, 0, none⟩ = some (tv x)) (h1 : w.cell? ⟨bk, 1, none⟩ = some (tv y)) : ∀ (j : Nat) t, [x, y][j]? = some t → w.cell? ⟨bk, j, none⟩ = some (tv t) := by
  intro j t h
  match j with
  | 0 => simp at h; subst h; exact h0
  | 1 => simp at h; subst h; exact h1
  | j + 2 => simp at h
theorem three_at {w : World} {bk : Nat} {x y z : List UInt8} (h0 : w.cell? ⟨bk, 0, none⟩ = some (tv x)) (h1 : w.cell? ⟨bk, 1, none⟩ = some (tv y)) (h2 : w.cell? ⟨bk, 2, none⟩ = some (tv z)) : ∀ (j : Nat) t, [x, y, z][j]? = some t → w.cell? ⟨bk, j, none⟩ = some (tv t) := by
  intro j t h
  match j with
  | 0 => simp at h; subst h; exact h0
  | 1 => simp at h; subst h; exact h1
  | 2 => simp at h; subst h; exact h2
  | j + 3 => simp at h
theorem joined2 (neg : Bool) (bk : Nat) (x y : List UInt8) (w : World) (hb : w.heap[bk]? = some (.cells #[tv x, tv y] 9 (0, 0))) (hlen : x.length + y.length ≤ 1000) :
    Calls Tryz.prog 52 #[.bool neg, .slice (some ⟨bk, 0, none⟩) 2 2] w fun e w' => e = .returned (tv (sgl neg (x ++ y))) ∧ Below w.heap.size w w' := by
  have h0 : w.cell? ⟨bk, 0, none⟩ = some (tv x) := by simp [World.cell?, hb]
  have h1 : w.cell? ⟨bk, 1, none⟩ = some (tv y) := by simp [World.cell?, hb]
  cases neg with
  | true => exact joined_neg2 bk 2 x y w h0 h1 (blk_lt hb) (by decide) hlen
  | false =>
    have J := joined_pos bk 2 2 [x, y] w rfl (pair_at h0 h1) (blk_lt hb) (by decide) (by decide) (by simp; omega)
    simpa [sgl] using J
theorem joined3 (neg : Bool) (bk : Nat) (x y z : List UInt8) (w : World) (hb : w.heap[bk]? = some (.cells #[tv x, tv y, tv z] 9 (0, 0))) (hlen : x.length + y.length + z.length ≤ 1000) :
    Calls Tryz.prog 52 #[.bool neg, .slice (some ⟨bk, 0, none⟩) 3 3] w fun e w' => e = .returned (tv (sgl neg (x ++ (y ++ z)))) ∧ Below w.heap.size w w' := by
  have h0 : w.cell? ⟨bk, 0, none⟩ = some (tv x) := by simp [World.cell?, hb]
  have h1 : w.cell? ⟨bk, 1, none⟩ = some (tv y) := by simp [World.cell?, hb]
  have h2 : w.cell? ⟨bk, 2, none⟩ = some (tv z) := by simp [World.cell?, hb]
  cases neg with
  | true => exact joined_neg3 bk 3 x y z w h0 h1 h2 (blk_lt hb) (by decide) hlen
  | false =>
    have J := joined_pos bk 3 3 [x, y, z] w rfl (three_at h0 h1 h2) (blk_lt hb) (by decide) (by decide) (by simp; omega)
    simpa [sgl] using J
theorem three_cells {w : World} {g : Nat} {a b c : Value} {t : TypeId} (hb : w.heap[g]? = some (.cells #[a, b, c] t (0, 0))) :
    w.cell? { block := g, off := 0 } = some a ∧ w.cell? { block := g, off := 1 } = some b ∧ w.cell? { block := g, off := 2 } = some c := by
  refine ⟨?_, ?_, ?_⟩ <;> simp [World.cell?, hb]
end Go.Proofs.YtlmeobokpibifaaGreatDoor
end

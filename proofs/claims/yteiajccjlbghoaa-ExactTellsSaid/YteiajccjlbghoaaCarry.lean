/- package math-bits' Add64 (the model stands in for it); package nat's Add. Conditions: as each theorem names them. -/
import Derived.Test.YteiajccjlbghoaaBits
import Derived.Laws.Externs
set_option linter.unusedVariables false
namespace Go.Proofs.Yteiajccjlbghoaa
open Go.RowKit

theorem run_plus (x y c s k : Nat) (hc : c ≤ 1) (hs : (x + y + c) % 18446744073709551616 = s) (hk : (x + y + c) / 18446744073709551616 = k) (w : World) :
    (callFunc 56 #[.int .u64 x, .int .u64 y, .int .u64 c]).run Try.prog w = .ok (.value (.tuple #[.int .u64 s, .int .u64 k])) w := by
  subst hs
  subst hk
  rw [run_callFunc_extern Try.func56 (by kernel_rfl) (by kernel_rfl) (by kernel_rfl) (e := add64Entry) (by kernel_rfl), run_add64 x y c (by omega) (by omega) (by omega) (by omega)]
  simp only [Result.andThen]
  congr 5 <;> omega

/-- a sum, word by word -/
theorem add_step {F G O : Nat → Nat} {j c s k : Nat} (hs : (F j + G j + c) % 18446744073709551616 = s) (hk : (F j + G j + c) / 18446744073709551616 = k) (h : S O j + c * Wd ^ j = S F j + S G j) (hO : O j = s) :
    S O (j + 1) + k * Wd ^ (j + 1) = S F (j + 1) + S G (j + 1) := by
  have e : s + k * Wd = F j + G j + c := by rw [← hs, ← hk, Wd_eq]; omega
  rw [S_succ, S_succ, S_succ, hO, Wp_succ, Nat.mul_left_comm, Nat.mul_comm (Wd ^ j) _]
  have : (s + k * Wd) * Wd ^ j = (F j + G j + c) * Wd ^ j := by rw [e]
  simp only [Nat.add_mul] at this
  omega

/-- words of a number, 0 behind the last one -/
def ext (n : Nat) (F : Nat → Nat) (i : Nat) : Nat := if i < n then F i else 0
theorem S_ext {n m : Nat} (F : Nat → Nat) (h : n ≤ m) : S (ext n F) m = S F n := by
  rw [S_zeros h (F := ext n F) (fun i h1 h2 => if_neg (by omega))]
  exact S_congr fun i hi => if_pos hi
theorem ext_lt {w : World} {A : Option Addr} {n c : Nat} {F : Nat → Nat} (h : Rd w A n c F) (i : Nat) : ext n F i < 18446744073709551616 := by
  unfold ext
  split
  · exact h.word' i ‹_›
  · decide

theorem at_ext (A : Option Addr) (n c : Nat) (F : Nat → Nat) (j : Nat) (w : World) (h : Rd w A n c F) :
    Calls Try.prog 63 #[.slice A n c, .int .i64 j] w fun e w' => e = .returned (.int .u64 (ext n F j)) ∧ w = w' := by
  refine at_any A n c F j w h (ext n F j) ?_
  unfold ext
  by_cases hj : j < n
  · rw [if_pos hj, if_pos (by omega)]; rfl
  · rw [if_neg hj, if_neg (by omega)]
/-- a row's words, one of them stored anew -/
def upd (O : Nat → Nat) (j v : Nat) (i : Nat) : Nat := if i = j then v else O i
theorem upd_at (O : Nat → Nat) (j v : Nat) : upd O j v j = v := if_pos rfl
theorem upd_ne (O : Nat → Nat) {i j : Nat} (v : Nat) (h : i ≠ j) : upd O j v i = O i := if_neg h
theorem upd_S (O : Nat → Nat) (j v n : Nat) (h : n ≤ j) : S (upd O j v) n = S O n := S_congr fun i hi => upd_ne O v (by omega)
/-- a block that begins with n words -/
def Row (w : World) (g n : Nat) (O : Nat → Nat) : Prop := ∃ c : Array Value, w.heap[g]? = some (.cells c 35 (0, 0)) ∧ n ≤ c.size ∧ ∀ i, i < n → c[i]? = some (.int .u64 (O i))
theorem Row.set {w : World} {g n : Nat} {O : Nat → Nat} (h : Row w g n O) (j v : Nat) : Row (w.setCell ⟨g, j, none⟩ (.int .u64 v)) g n (upd O j v) := by
  obtain ⟨c, hb, hn, hc⟩ := h
  refine ⟨c.setIfInBounds j (.int .u64 v), ?_, by simpa using hn, fun i hi => ?_⟩
  · simp [World.setCell, Array.getElem?_modify, hb]
  · rw [Array.getElem?_setIfInBounds]
    by_cases e : i = j
    · subst e
      rw [if_pos rfl, if_pos (by omega), upd_at]
    · rw [if_neg (fun h => e h.symm), upd_ne _ _ e]
      exact hc i hi
theorem Row.at_ {w : World} {g n : Nat} {O : Nat → Nat} (h : Row w g n O) (j : Nat) (hj : j < n) : w.cell? ⟨g, j, none⟩ = some (.int .u64 (O j)) := by
  obtain ⟨c, hb, _, hc⟩ := h
  simp [World.cell?, hb, hc j hj]
theorem Row.free {w : World} {g n : Nat} {O : Nat → Nat} (h : Row w g n O) (j : Nat) : w.frozen? ⟨g, j, none⟩ = false := by
  obtain ⟨c, hb, _, _⟩ := h
  simp [World.frozen?, hb]
theorem Row.of_is {w : World} {g n : Nat} {O : Nat → Nat} (h : w.rowIs g 35 n (fun i => .int .u64 (O i))) : Row w g n O := by
  obtain ⟨c, hb, hn, hc⟩ := h
  exact ⟨c, hb, Nat.le_of_eq hn.symm, hc⟩
theorem Row.made (w : World) (n : Nat) : Row (w.alloc (.cells (madeCells #[.int .u64 0] n) 35)) w.heap.size n (fun _ => 0) := Row.of_is (World.rowIs_made w (.int .u64 0) n 35)
theorem Row.drewN {w : World} {g n : Nat} {O : Nat → Nat} (h : Row w g n O) (k : Nat) : Row (w.drewN k) g n O := h
theorem Row.lt {w : World} {g n : Nat} {O : Nat → Nat} (h : Row w g n O) : g < w.heap.size := by
  obtain ⟨c, hb, _, _⟩ := h
  obtain ⟨hlt, _⟩ := Array.getElem?_eq_some_iff.1 hb
  exact hlt
theorem Row.of_block {w w' : World} {g n : Nat} {O : Nat → Nat} (h : Row w g n O) (e : w'.heap[g]? = w.heap[g]?) : Row w' g n O := by
  obtain ⟨c, hb, hn, hc⟩ := h
  exact ⟨c, e.trans hb, hn, hc⟩
theorem Row.below {w w' : World} {g n : Nat} {O : Nat → Nat} (h : Row w g n O) (hb : Below w.heap.size w w') : Row w' g n O := h.of_block (hb.block g h.lt)
theorem Row.alloc {w : World} {g n : Nat} {O : Nat → Nat} (h : Row w g n O) (o : Obj) : Row (w.alloc o) g n O := h.of_block (Deep.blk_alloc_lt _ _ _ h.lt)
theorem Row.other {w : World} {g n : Nat} {O : Nat → Nat} (h : Row w g n O) {a : Addr} (ha : g ≠ a.block) (v : Value) : Row (w.setCell a v) g n O := h.of_block (Deep.blk_setCell_other _ _ _ _ ha)
theorem Row.congr {w : World} {g n : Nat} {O P : Nat → Nat} (h : Row w g n O) (e : ∀ i, i < n → O i = P i) : Row w g n P := by
  obtain ⟨c, hb, hn, hc⟩ := h
  exact ⟨c, hb, hn, fun i hi => by rw [← e i hi]; exact hc i hi⟩
/-- a stretch of the block as a slice -/
theorem Row.part {w : World} {g n : Nat} {O : Nat → Nat} (h : Row w g n O) (k m c : Nat) (hk : k + m ≤ n) (hm : m ≤ 17592186044416) (hc : m ≤ c) (hO : ∀ i, O i < Wd) : Rd w (some ⟨g, k, none⟩) m c (fun i => O (k + i)) := by
  refine ⟨hc, hm, fun h => by simp at h, fun i _ => hO _, fun _ => ⟨_, rfl, h.lt, fun i hi => ?_⟩⟩
  rw [← h.at_ (k + i) (by omega)]
  congr 1
  unfold Addr.add
  split <;> simp_all
theorem Row.rd {w : World} {g n : Nat} {O : Nat → Nat} (h : Row w g n O) (hn : n ≤ 17592186044416) (hO : ∀ i, i < n → O i < Wd) : Rd w (some ⟨g, 0, none⟩) n n O := by
  refine ⟨Nat.le_refl _, hn, fun h => by simp at h, hO, fun _ => ⟨_, rfl, h.lt, fun i hi => ?_⟩⟩
  rw [← h.at_ i hi]
  congr 1
  unfold Addr.add
  split <;> simp_all

theorem add_any (A B : Option Addr) (n c m d : Nat) (F G : Nat → Nat) (w : World) (hA : Rd w A n c F) (hB : Rd w B m d G) (hn : n ≤ 1048576) (hm : m ≤ 1048576) :
    Calls Try.prog 36 #[.slice A n c, .slice B m d] w fun e w' => (∃ O k, e = .returned (.slice (some ⟨w.heap.size, 0, none⟩) k k) ∧ Rd w' (some ⟨w.heap.size, 0, none⟩) k k O ∧ Nm k O ∧ S O k = S F n + S G m) ∧ Below w.heap.size w w' := by
  obtain ⟨L, hL⟩ : ∃ L, max n m + 1 = L := ⟨_, rfl⟩
  have hmk := run_make_row' (P := Try.prog) 23 35 (.int .u64 0) 8 Try.underlying23 infoU rfl .i64 .i64 L (by omega) (by omega)
  have hA' := Lib.hid hA
  have hB' := Lib.hid hB
  have HL := Lib.hid hL
  have hmx : max (n : Int) (m : Int) + 1 = (L : Int) := by omega
  clear hA hB hL
  go_enter Try.func36, Try.ntmps36
  go_wp2_with fail
  go_loopw [6, 17] (fun cr i wr => ∃ (j k : Nat) (O : Nat → Nat), j ≤ L ∧ cr = .int .u64 k ∧ i = .int .i64 j ∧ k ≤ 1 ∧ Hid (Row wr w.heap.size L O) ∧ Hid (∀ i, i < j → O i < Wd) ∧ Hid (S O j + k * Wd ^ j = S (ext n F) j + S (ext m G) j) ∧ Hid (Below w.heap.size w wr)) (fun _ i _ => L - (intOf i).toNat)
  case atStart => exact ⟨0, 0, fun _ => 0, Nat.zero_le _, rfl, rfl, by decide, Lib.hid (Row.made w L), Lib.hid (fun i hi => absurd hi (Nat.not_lt_zero _)), Lib.hid (by simp [S_zero]), Lib.hid ((Below.refl _ _).alloc (Nat.le_refl _) _)⟩
  case round =>
    obtain ⟨j, k, O, hj, rfl, rfl, hk, hrow, hO, hS, hB⟩ := hrel
    by_cases hlt : j < L
    · have u1 : decide (j < L) = true := by simpa using hlt
      have hF := ext_lt hA'.out j
      have hG := ext_lt hB'.out j
      have a1 := Lib.hid (fun w' (h : Rd w' A n c F) => at_ext A n c F j w' h)
      have a2 := Lib.hid (fun w' (h : Rd w' B m d G) => at_ext B m d G j w' h)
      have rA := Lib.hid (hA'.out.below hB.out)
      have rB := Lib.hid (hB'.out.below hB.out)
      obtain ⟨s, hs⟩ : ∃ s, (ext n F j + ext m G j + k) % 18446744073709551616 = s := ⟨_, rfl⟩
      obtain ⟨k', hk'⟩ : ∃ k', (ext n F j + ext m G j + k) / 18446744073709551616 = k' := ⟨_, rfl⟩
      have hst := add_step (O := upd O j s) hs hk' (by rw [upd_S _ _ _ _ (Nat.le_refl _)]; exact hS.out) (upd_at _ _ _)
      have hs64 : s < 18446744073709551616 := by omega
      have hk1 : k' ≤ 1 := by omega
      have hrun := run_plus _ _ k s k' hk hs hk'
      have hc := hrow.out.at_ j hlt
      have hf := hrow.out.free j
      have HST := Lib.hid hst
      have hgt := hrow.out.lt
      generalize ext n F j = x at *
      generalize ext m G j = y at *
      clear hst hs hk'
      go_wp2_with fail
      with_reducible (refine (a1.out _ rA.out).mono ?_)
      rintro e w' ⟨rfl, rfl⟩
      go_wp2_with fail
      with_reducible (refine (a2.out _ rB.out).mono ?_)
      rintro e w' ⟨rfl, rfl⟩
      go_wp2_with fail
      go_roundw
      case rel =>
        refine ⟨j + 1, k', upd O j s, by omega, rfl, by go_num, hk1, Lib.hid (hrow.out.set j s), Lib.hid (fun i hi => ?_), HST, Lib.hid (hB.out.setCell (Nat.le_refl _) _)⟩
        by_cases e : i = j
        · rw [e, upd_at]; exact hs64
        · rw [upd_ne _ _ e]; exact hO.out i (by omega)
      case measure => simp [intOf]; omega
    · obtain rfl : j = L := by omega
      have u1 : decide (j < j) = false := by simp
      have hr := hrow.out.rd (by have := HL.out; omega) hO.out
      have HRR := Lib.hid hr
      clear hr
      go_wp2_with fail
      with_reducible (refine (trim_any _ j j O _ HRR.out).mono ?_)
      rintro e w' ⟨⟨x, hx, rfl⟩, rfl⟩
      have HX := Lib.hid hx
      clear hx
      go_wp2_with fail
      go_ret
      refine ⟨⟨O, x, rfl, HRR.out.cut HX.out.le, HX.out.nm, ?_⟩, hB.out⟩
      have e1 := hS.out
      rw [S_ext F (by have := HL.out; omega), S_ext G (by have := HL.out; omega)] at e1
      have e2 : S F n < Wd ^ n := S_lt hA'.out.word
      have e3 : S G m < Wd ^ m := S_lt hB'.out.word
      have hl := HL.out
      obtain ⟨M, rfl⟩ : ∃ M, j = M + 1 := ⟨j - 1, by omega⟩
      have e4 : Wd ^ n ≤ Wd ^ M := Nat.pow_le_pow_right Wd_pos (by omega)
      have e5 : Wd ^ m ≤ Wd ^ M := Nat.pow_le_pow_right Wd_pos (by omega)
      have e6 : Wd ^ (M + 1) = Wd ^ M * 18446744073709551616 := Wp_succ M
      have e7 := HX.out.sum
      have k0 : k = 0 := by
        rcases k with _ | k
        · rfl
        · have : 1 * Wd ^ (M + 1) ≤ (k + 1) * Wd ^ (M + 1) := Nat.mul_le_mul_right _ (by omega)
          omega
      subst k0
      omega
end Go.Proofs.Yteiajccjlbghoaa

/- package math-bits' Add64 (the model stands in for it); package nat's Add. Conditions: as each theorem names them. package nat's Mul. Conditions: as each theorem names them. package nat's Shl. Conditions: as each theorem names them. package nat's Shr. Conditions: as each theorem names them. -/
import Derived.Test.YtlmeobokpibifaaGreatDoorG01
import Derived.Laws.Externs
import Derived.RegionTactic
import Derived.BigRegion
section
set_option linter.unusedSimpArgs false
set_option linter.unusedVariables false
set_option linter.unusedVariables false
namespace Go.Proofs.YtlmeobokpibifaaGreatDoor
open Go.RowKit

theorem run_plus (x y c s k : Nat) (hc : c ≤ 1) (hs : (x + y + c) % 18446744073709551616 = s) (hk : (x + y + c) / 18446744073709551616 = k) (w : World) :
    (callFunc 88 #[.int .u64 x, .int .u64 y, .int .u64 c]).run Tryz.prog w = .ok (.value (.tuple #[.int .u64 s, .int .u64 k])) w := by
  subst hs
  subst hk
  rw [run_callFunc_extern Tryz.func88 (by kernel_rfl) (by kernel_rfl) (by kernel_rfl) (e := add64Entry) (by kernel_rfl), run_add64 x y c (by omega) (by omega) (by omega) (by omega)]
  simp only [Result.andThen]
  congr 5 <;> omega

/-- a sum, word by word -/
theorem add_step {F G O : Nat → Nat} {j c s k : Nat} (hs : (F j + G j + c) % 18446744073709551616 = s) (hk : (F j + G j + c) / 18446744073709551616 = k) (h : S O j + c * Wd ^ j = S F j + S G j) (hO : O j = s) :
    S O (j + 1) + k * Wd ^ (j + 1) = S F (j + 1) + S G (j + 1) := by
  have e : s + k * Wd = F j + G j + c := by rw [← hs, ← hk, Wd_eq]; omega
  rw [S_succ, S_succ, S_succ, hO, Wp_succ, Nat.mul_left_comm, Nat.mul_comm (Wd ^ j) _]
  have : (s + k * Wd) * Wd ^ j = (F j + G j + c) * Wd ^ j := by rw [e]
  simp only [Nat.add_mul] at this
  omega

/-- words of a number, 0 behind the last one -/
def ext (n : Nat) (F : Nat → Nat) (i : Nat) : Nat := if i < n then F i else 0
theorem S_ext {n m : Nat} (F : Nat → Nat) (h : n ≤ m) : S (ext n F) m = S F n := by
  rw [S_zeros h (F := ext n F) (fun i h1 h2 => if_neg (by omega))]
  exact S_congr fun i hi => if_pos hi
theorem ext_lt {w : World} {A : Option Addr} {n c : Nat} {F : Nat → Nat} (h : Rd w A n c F) (i : Nat) : ext n F i < 18446744073709551616 := by
  unfold ext
  split
  · exact h.word' i ‹_›
  · decide

theorem at_ext (A : Option Addr) (n c : Nat) (F : Nat → Nat) (j : Nat) (w : World) (h : Rd w A n c F) :
    Calls Tryz.prog 77 #[.slice A n c, .int .i64 j] w fun e w' => e = .returned (.int .u64 (ext n F j)) ∧ w = w' := by
  refine at_any A n c F j w h (ext n F j) ?_
  unfold ext
  by_cases hj : j < n
  · rw [if_pos hj, if_pos (by omega)]; rfl
  · rw [if_neg hj, if_neg (by omega)]
/-- a row's words, one of them stored anew -/
def upd (O : Nat → Nat) (j v : Nat) (i : Nat) : Nat := if i = j then v else O i
theorem upd_at (O : Nat → Nat) (j v : Nat) : upd O j v j = v := if_pos rfl
theorem upd_ne (O : Nat → Nat) {i j : Nat} (v : Nat) (h : i ≠ j) : upd O j v i = O i := if_neg h
theorem upd_S (O : Nat → Nat) (j v n : Nat) (h : n ≤ j) : S (upd O j v) n = S O n := S_congr fun i hi => upd_ne O v (by omega)
/-- a block that begins with n words -/
def Row (w : World) (g n : Nat) (O : Nat → Nat) : Prop := ∃ c : Array Value, w.heap[g]? = some (.cells c 22 (0, 0)) ∧ n ≤ c.size ∧ ∀ i, i < n → c[i]? = some (.int .u64 (O i))
theorem Row.set {w : World} {g n : Nat} {O : Nat → Nat} (h : Row w g n O) (j v : Nat) : Row (w.setCell ⟨g, j, none⟩ (.int .u64 v)) g n (upd O j v) := by
  obtain ⟨c, hb, hn, hc⟩ := h
  refine ⟨c.setIfInBounds j (.int .u64 v), ?_, by simpa using hn, fun i hi => ?_⟩
  · simp [World.setCell, Array.getElem?_modify, hb]
  · rw [Array.getElem?_setIfInBounds]
    by_cases e : i = j
    · subst e
      rw [if_pos rfl, if_pos (by omega), upd_at]
    · rw [if_neg (fun h => e h.symm), upd_ne _ _ e]
      exact hc i hi
theorem Row.at_ {w : World} {g n : Nat} {O : Nat → Nat} (h : Row w g n O) (j : Nat) (hj : j < n) : w.cell? ⟨g, j, none⟩ = some (.int .u64 (O j)) := by
  obtain ⟨c, hb, _, hc⟩ := h
  simp [World.cell?, hb, hc j hj]
theorem Row.free {w : World} {g n : Nat} {O : Nat → Nat} (h : Row w g n O) (j : Nat) : w.frozen? ⟨g, j, none⟩ = false := by
  obtain ⟨c, hb, _, _⟩ := h
  simp [World.frozen?, hb]
theorem Row.of_is {w : World} {g n : Nat} {O : Nat → Nat} (h : w.rowIs g 22 n (fun i => .int .u64 (O i))) : Row w g n O := by
  obtain ⟨c, hb, hn, hc⟩ := h
  exact ⟨c, hb, Nat.le_of_eq hn.symm, hc⟩
theorem Row.made (w : World) (n : Nat) : Row (w.alloc (.cells (madeCells #[.int .u64 0] n) 22)) w.heap.size n (fun _ => 0) := Row.of_is (World.rowIs_made w (.int .u64 0) n 22)
theorem Row.drewN {w : World} {g n : Nat} {O : Nat → Nat} (h : Row w g n O) (k : Nat) : Row (w.drewN k) g n O := h
theorem Row.lt {w : World} {g n : Nat} {O : Nat → Nat} (h : Row w g n O) : g < w.heap.size := by
  obtain ⟨c, hb, _, _⟩ := h
  obtain ⟨hlt, _⟩ := Array.getElem?_eq_some_iff.1 hb
  exact hlt
theorem Row.of_block {w w' : World} {g n : Nat} {O : Nat → Nat} (h : Row w g n O) (e : w'.heap[g]? = w.heap[g]?) : Row w' g n O := by
  obtain ⟨c, hb, hn, hc⟩ := h
  exact ⟨c, e.trans hb, hn, hc⟩
theorem Row.below {w w' : World} {g n : Nat} {O : Nat → Nat} (h : Row w g n O) (hb : Below w.heap.size w w') : Row w' g n O := h.of_block (hb.block g h.lt)
theorem Row.alloc {w : World} {g n : Nat} {O : Nat → Nat} (h : Row w g n O) (o : Obj) : Row (w.alloc o) g n O := h.of_block (Deep.blk_alloc_lt _ _ _ h.lt)
theorem Row.other {w : World} {g n : Nat} {O : Nat → Nat} (h : Row w g n O) {a : Addr} (ha : g ≠ a.block) (v : Value) : Row (w.setCell a v) g n O := h.of_block (Deep.blk_setCell_other _ _ _ _ ha)
theorem Row.congr {w : World} {g n : Nat} {O P : Nat → Nat} (h : Row w g n O) (e : ∀ i, i < n → O i = P i) : Row w g n P := by
  obtain ⟨c, hb, hn, hc⟩ := h
  exact ⟨c, hb, hn, fun i hi => by rw [← e i hi]; exact hc i hi⟩
/-- a stretch of the block as a slice -/
theorem Row.part {w : World} {g n : Nat} {O : Nat → Nat} (h : Row w g n O) (k m c : Nat) (hk : k + m ≤ n) (hm : m ≤ 17592186044416) (hc : m ≤ c) (hO : ∀ i, O i < Wd) : Rd w (some ⟨g, k, none⟩) m c (fun i => O (k + i)) := by
  refine ⟨hc, hm, fun h => by simp at h, fun i _ => hO _, fun _ => ⟨_, rfl, h.lt, fun i hi => ?_⟩⟩
  rw [← h.at_ (k + i) (by omega)]
  congr 1
  unfold Addr.add
  split <;> simp_all
theorem Row.rd {w : World} {g n : Nat} {O : Nat → Nat} (h : Row w g n O) (hn : n ≤ 17592186044416) (hO : ∀ i, i < n → O i < Wd) : Rd w (some ⟨g, 0, none⟩) n n O := by
  refine ⟨Nat.le_refl _, hn, fun h => by simp at h, hO, fun _ => ⟨_, rfl, h.lt, fun i hi => ?_⟩⟩
  rw [← h.at_ i hi]
  congr 1
  unfold Addr.add
  split <;> simp_all

theorem add_any (A B : Option Addr) (n c m d : Nat) (F G : Nat → Nat) (w : World) (hA : Rd w A n c F) (hB : Rd w B m d G) (hn : n ≤ 1048576) (hm : m ≤ 1048576) :
    Calls Tryz.prog 62 #[.slice A n c, .slice B m d] w fun e w' => (∃ O k, e = .returned (.slice (some ⟨w.heap.size, 0, none⟩) k k) ∧ Rd w' (some ⟨w.heap.size, 0, none⟩) k k O ∧ Nm k O ∧ S O k = S F n + S G m) ∧ Below w.heap.size w w' := by
  obtain ⟨L, hL⟩ : ∃ L, max n m + 1 = L := ⟨_, rfl⟩
  have hmk := run_make_row' (P := Tryz.prog) 39 22 (.int .u64 0) 8 Tryz.underlying39 infoU rfl .i64 .i64 L (by omega) (by omega)
  have hA' := Lib.hid hA
  have hB' := Lib.hid hB
  have HL := Lib.hid hL
  have hmx : max (n : Int) (m : Int) + 1 = (L : Int) := by omega
  clear hA hB hL
  go_enter Tryz.func62, Tryz.ntmps62
  go_wp2_with fail
  go_loopw [6, 17] (fun cr i wr => ∃ (j k : Nat) (O : Nat → Nat), j ≤ L ∧ cr = .int .u64 k ∧ i = .int .i64 j ∧ k ≤ 1 ∧ Hid (Row wr w.heap.size L O) ∧ Hid (∀ i, i < j → O i < Wd) ∧ Hid (S O j + k * Wd ^ j = S (ext n F) j + S (ext m G) j) ∧ Hid (Below w.heap.size w wr)) (fun _ i _ => L - (intOf i).toNat)
  case atStart => exact ⟨0, 0, fun _ => 0, Nat.zero_le _, rfl, rfl, by decide, Lib.hid (Row.made w L), Lib.hid (fun i hi => absurd hi (Nat.not_lt_zero _)), Lib.hid (by simp [S_zero]), Lib.hid ((Below.refl _ _).alloc (Nat.le_refl _) _)⟩
  case round =>
    obtain ⟨j, k, O, hj, rfl, rfl, hk, hrow, hO, hS, hB⟩ := hrel
    by_cases hlt : j < L
    · have u1 : decide (j < L) = true := by simpa using hlt
      have hF := ext_lt hA'.out j
      have hG := ext_lt hB'.out j
      have a1 := Lib.hid (fun w' (h : Rd w' A n c F) => at_ext A n c F j w' h)
      have a2 := Lib.hid (fun w' (h : Rd w' B m d G) => at_ext B m d G j w' h)
      have rA := Lib.hid (hA'.out.below hB.out)
      have rB := Lib.hid (hB'.out.below hB.out)
      obtain ⟨s, hs⟩ : ∃ s, (ext n F j + ext m G j + k) % 18446744073709551616 = s := ⟨_, rfl⟩
      obtain ⟨k', hk'⟩ : ∃ k', (ext n F j + ext m G j + k) / 18446744073709551616 = k' := ⟨_, rfl⟩
      have hst := add_step (O := upd O j s) hs hk' (by rw [upd_S _ _ _ _ (Nat.le_refl _)]; exact hS.out) (upd_at _ _ _)
      have hs64 : s < 18446744073709551616 := by omega
      have hk1 : k' ≤ 1 := by omega
      have hrun := run_plus _ _ k s k' hk hs hk'
      have hc := hrow.out.at_ j hlt
      have hf := hrow.out.free j
      have HST := Lib.hid hst
      have hgt := hrow.out.lt
      generalize ext n F j = x at *
      generalize ext m G j = y at *
      clear hst hs hk'
      go_wp2_with fail
      with_reducible (refine (a1.out _ rA.out).mono ?_)
      rintro e w' ⟨rfl, rfl⟩
      go_wp2_with fail
      with_reducible (refine (a2.out _ rB.out).mono ?_)
      rintro e w' ⟨rfl, rfl⟩
      go_wp2_with fail
      go_roundw
      case rel =>
        refine ⟨j + 1, k', upd O j s, by omega, rfl, by go_num, hk1, Lib.hid (hrow.out.set j s), Lib.hid (fun i hi => ?_), HST, Lib.hid (hB.out.setCell (Nat.le_refl _) _)⟩
        by_cases e : i = j
        · rw [e, upd_at]; exact hs64
        · rw [upd_ne _ _ e]; exact hO.out i (by omega)
      case measure => simp [intOf]; omega
    · obtain rfl : j = L := by omega
      have u1 : decide (j < j) = false := by simp
      have hr := hrow.out.rd (by have := HL.out; omega) hO.out
      have HRR := Lib.hid hr
      clear hr
      go_wp2_with fail
      with_reducible (refine (trim_any _ j j O _ HRR.out).mono ?_)
      rintro e w' ⟨⟨x, hx, rfl⟩, rfl⟩
      have HX := Lib.hid hx
      clear hx
      go_wp2_with fail
      go_ret
      refine ⟨⟨O, x, rfl, HRR.out.cut HX.out.le, HX.out.nm, ?_⟩, hB.out⟩
      have e1 := hS.out
      rw [S_ext F (by have := HL.out; omega), S_ext G (by have := HL.out; omega)] at e1
      have e2 : S F n < Wd ^ n := S_lt hA'.out.word
      have e3 : S G m < Wd ^ m := S_lt hB'.out.word
      have hl := HL.out
      obtain ⟨M, rfl⟩ : ∃ M, j = M + 1 := ⟨j - 1, by omega⟩
      have e4 : Wd ^ n ≤ Wd ^ M := Nat.pow_le_pow_right Wd_pos (by omega)
      have e5 : Wd ^ m ≤ Wd ^ M := Nat.pow_le_pow_right Wd_pos (by omega)
      have e6 : Wd ^ (M + 1) = Wd ^ M * 18446744073709551616 := Wp_succ M
      have e7 := HX.out.sum
      have k0 : k = 0 := by
        rcases k with _ | k
        · rfl
        · have : 1 * Wd ^ (M + 1) ≤ (k + 1) * Wd ^ (M + 1) := Nat.mul_le_mul_right _ (by omega)
          omega
      subst k0
      omega
end Go.Proofs.YtlmeobokpibifaaGreatDoor
end

section
set_option linter.unusedSimpArgs false
set_option linter.unusedVariables false
set_option linter.unusedVariables false
namespace Go.Proofs.YtlmeobokpibifaaGreatDoor
open Go.RowKit

theorem run_plus0 (x y s k : Nat) (hs : (x + y) % 18446744073709551616 = s) (hk : (x + y) / 18446744073709551616 = k) (w : World) :
    (callFunc 88 #[.int .u64 x, .int .u64 y, .int .u64 0]).run Tryz.prog w = .ok (.value (.tuple #[.int .u64 s, .int .u64 k])) w :=
  run_plus x y 0 s k (by decide) (by rw [Nat.add_zero]; exact hs) (by rw [Nat.add_zero]; exact hk) w

theorem mul_word {x y carry o hi lo lo1 c1 s c2 : Nat} (hx : x < 18446744073709551616) (hy : y < 18446744073709551616) (hc : carry < 18446744073709551616) (ho : o < 18446744073709551616)
    (e1 : x * y / 18446744073709551616 = hi) (e2 : x * y % 18446744073709551616 = lo) (e3 : (lo + carry) % 18446744073709551616 = lo1) (e4 : (lo + carry) / 18446744073709551616 = c1)
    (e5 : (o + lo1) % 18446744073709551616 = s) (e6 : (o + lo1) / 18446744073709551616 = c2) :
    x * y + carry + o = s + 18446744073709551616 * (hi + c1 + c2) ∧ hi + c1 + c2 < 18446744073709551616 ∧ s < 18446744073709551616 ∧ lo < 18446744073709551616 ∧ lo1 < 18446744073709551616 ∧ c1 ≤ 1 ∧ c2 ≤ 1 := by
  have h : x * y ≤ 18446744073709551615 * 18446744073709551615 := Nat.mul_le_mul (by omega) (by omega)
  generalize x * y = p at *
  omega

theorem mul_inner {G O P : Nat → Nat} {i k x carry carry1 s : Nat} (hw : x * G k + carry + O (i + k) = s + 18446744073709551616 * carry1) (h : S P (i + k) + carry * Wd ^ (i + k) = S O (i + k) + x * S G k * Wd ^ i) (hP : P (i + k) = s) :
    S P (i + (k + 1)) + carry1 * Wd ^ (i + (k + 1)) = S O (i + (k + 1)) + x * S G (k + 1) * Wd ^ i := by
  have e1 : (x * G k + carry + O (i + k)) * Wd ^ (i + k) = (s + 18446744073709551616 * carry1) * Wd ^ (i + k) := by rw [hw]
  rw [← Nat.add_assoc, S_succ, S_succ, S_succ, hP, Wp_succ, Nat.mul_add, Nat.add_mul (x * S G k)]
  have e2 : carry1 * (Wd ^ (i + k) * Wd) = 18446744073709551616 * carry1 * Wd ^ (i + k) := by
    rw [Nat.mul_comm (Wd ^ (i + k)), ← Nat.mul_assoc, Nat.mul_comm carry1]; rfl
  have e3 : x * (G k * Wd ^ k) * Wd ^ i = x * G k * Wd ^ (i + k) := by
    rw [Nat.pow_add, ← Nat.mul_assoc x, Nat.mul_assoc (x * G k), Nat.mul_comm (Wd ^ k)]
  rw [e2, e3]
  simp only [Nat.add_mul] at e1
  omega

theorem mul_any (A B : Option Addr) (n c m d : Nat) (F G : Nat → Nat) (w : World) (hA : Rd w A n c F) (hB : Rd w B m d G) (hn : n ≤ 1048576) (hm : m ≤ 1048576) :
    Calls Tryz.prog 103 #[.slice A n c, .slice B m d] w fun e w' => (∃ O k, e = .returned (.slice (some ⟨w.heap.size, 0, none⟩) k k) ∧ Rd w' (some ⟨w.heap.size, 0, none⟩) k k O ∧ Nm k O ∧ S O k = S F n * S G m) ∧ Below w.heap.size w w' := by
  obtain ⟨L, hL⟩ : ∃ L, n + m = L := ⟨_, rfl⟩
  have hmk := run_make_row' (P := Tryz.prog) 39 22 (.int .u64 0) 8 Tryz.underlying39 infoU rfl .i64 .i64 L (by omega) (by omega)
  have hA' := Lib.hid hA
  have hB' := Lib.hid hB
  have HL := Lib.hid hL
  have hLi : (n : Int) + (m : Int) = (L : Int) := by omega
  have hLs : L ≤ 2097152 := by omega
  clear hA hB hL
  go_enter Tryz.func103, Tryz.ntmps103
  go_wp2_with fail
  go_loopw [22] (fun i wr => ∃ (j : Nat) (O : Nat → Nat), j ≤ n ∧ i = .int .i64 j ∧ Hid (Row wr w.heap.size L O) ∧ Hid (∀ i, O i < Wd) ∧ Hid (∀ i, j + m ≤ i → O i = 0) ∧ Hid (S O (j + m) = S F j * S G m) ∧ Hid (Below w.heap.size w wr)) (fun i _ => n - (intOf i).toNat)
  case atStart =>
    refine ⟨0, fun _ => 0, Nat.zero_le _, rfl, Lib.hid (Row.made w L), Lib.hid (fun i => Wd_pos), Lib.hid (fun i _ => rfl), Lib.hid ?_, Lib.hid ((Below.refl _ _).alloc (Nat.le_refl _) _)⟩
    rw [S_zeros (F := fun _ => 0) (Nat.zero_le _) (fun _ _ _ => rfl), S_zero, S_zero, Nat.zero_mul]
  case round =>
    obtain ⟨j, O, hj, rfl, hrow, hO, hz, hS, hB0⟩ := hrel
    by_cases hlt : j < n
    · have u1 : decide (j < n) = true := by simpa using hlt
      have rA := (hA'.out.below hB0.out)
      obtain ⟨ad, rfl, hb, hx⟩ := rA.at_ j hlt
      have hx64 := rA.word' j hlt
      clear rA
      obtain ⟨wo, hwo⟩ : ∃ wo, wo = wr := ⟨_, rfl⟩
      subst hwo
      go_wp2_with fail
      generalize hxe : F j = x at hx hx64 ⊢
      have HX := Lib.hid hxe
      clear hxe
      go_loopw [8, 29] (fun cr i wr => ∃ (k carry : Nat) (P : Nat → Nat), k ≤ m ∧ cr = .int .u64 carry ∧ i = .int .i64 k ∧ carry < 18446744073709551616 ∧ Hid (Row wr w.heap.size L P) ∧ Hid (∀ i, P i < Wd) ∧ Hid (∀ i, j + k ≤ i → P i = O i) ∧ Hid (S P (j + k) + carry * Wd ^ (j + k) = S O (j + k) + x * S G k * Wd ^ j) ∧ Hid (Below w.heap.size w wr)) (fun _ i _ => m - (intOf i).toNat)
      case atStart =>
        exact ⟨0, 0, O, Nat.zero_le _, rfl, rfl, by decide, hrow, hO, Lib.hid (fun _ _ => rfl), Lib.hid (by simp [S_zero]), hB0⟩
      case round =>
        obtain ⟨k, carry, P, hk, rfl, rfl, hcar, hrow2, hP, hPO, hS2, hB2⟩ := hrel
        by_cases hlt2 : k < m
        · have v1 : decide (k < m) = true := by simpa using hlt2
          have rB := (hB'.out.below hB2.out)
          obtain ⟨bd, rfl, hb2, hy⟩ := rB.at_ k hlt2
          have hy64 := rB.word' k hlt2
          have ho64 : P (j + k) < 18446744073709551616 := hP.out (j + k)
          have hPe := hPO.out (j + k) (Nat.le_refl _)
          obtain ⟨t, ht⟩ : ∃ t, j + k = t := ⟨_, rfl⟩
          have hti : (j : Int) + (k : Int) = (t : Int) := by omega
          rw [ht] at ho64 hPe
          have htL : t < L := by have := HL.out; omega
          have hc1 := hrow2.out.at_ t htL
          have hf1 := hrow2.out.free t
          obtain ⟨y, hye⟩ : ∃ y, G k = y := ⟨_, rfl⟩
          obtain ⟨o, hoe⟩ : ∃ o, P t = o := ⟨_, rfl⟩
          rw [hye] at hy hy64
          rw [hoe] at hc1 ho64 hPe
          obtain ⟨hi, e1⟩ : ∃ hi, x * y / 18446744073709551616 = hi := ⟨_, rfl⟩
          obtain ⟨lo, e2⟩ : ∃ lo, x * y % 18446744073709551616 = lo := ⟨_, rfl⟩
          obtain ⟨lo1, e3⟩ : ∃ lo1, (lo + carry) % 18446744073709551616 = lo1 := ⟨_, rfl⟩
          obtain ⟨c1, e4⟩ : ∃ c1, (lo + carry) / 18446744073709551616 = c1 := ⟨_, rfl⟩
          obtain ⟨s, e5⟩ : ∃ s, (o + lo1) % 18446744073709551616 = s := ⟨_, rfl⟩
          obtain ⟨c2, e6⟩ : ∃ c2, (o + lo1) / 18446744073709551616 = c2 := ⟨_, rfl⟩
          obtain ⟨m1, m2, m3, m4, m5, m6, m7⟩ := mul_word hx64 hy64 hcar ho64 e1 e2 e3 e4 e5 e6
          have M := Lib.hid (fun w => Tryz.bits_Mul64 x y hx64 hy64 w)
          rw [e1, e2] at M
          have p1 := run_plus0 lo carry lo1 c1 e3 e4
          have p2 := run_plus0 o lo1 s c2 e5 e6
          have hst := mul_inner (G := G) (O := O) (P := upd P t s) (i := j) (k := k) (x := x) (carry := carry) (carry1 := hi + c1 + c2) (s := s) (by rw [hye, ht, ← hPe]; exact m1) (by rw [upd_S _ _ _ _ (by omega)]; exact hS2.out) (by rw [ht, upd_at])
          have HST := Lib.hid hst
          have HT := Lib.hid ht
          clear hst m1 e1 e2 e3 e4 e5 e6 hye hoe hPe ht rB
          go_wp2_with fail
          with_reducible (refine (M.out _).mono ?_)
          rintro e w' ⟨rfl, rfl⟩
          go_wp2_with fail
          go_roundw
          case rel =>
            have ht := HT.out
            refine ⟨k + 1, hi + c1 + c2, upd P t s, by omega, by go_num, by go_num, m2, Lib.hid (hrow2.out.set t s), Lib.hid (fun i => ?_), Lib.hid (fun i hi => ?_), HST, Lib.hid (hB2.out.setCell (by simp) _)⟩
            · by_cases h1 : i = t
              · rw [h1, upd_at]; exact m3
              · rw [upd_ne _ _ h1]; exact hP.out i
            · rw [upd_ne _ _ (by omega)]; exact hPO.out i (by omega)
          case measure => simp [intOf]; omega
        · obtain rfl : k = m := by omega
          have v1 : decide (k < k) = false := by simp
          obtain ⟨t, ht⟩ : ∃ t, j + k = t := ⟨_, rfl⟩
          have hti : (j : Int) + (k : Int) = (t : Int) := by omega
          have htL : t < L := by have := HL.out; omega
          have hc1 := hrow2.out.at_ t htL
          have hf1 := hrow2.out.free t
          have HT := Lib.hid ht
          clear ht
          go_wp2_with fail
          go_roundw
          case rel =>
            have ht := HT.out
            refine ⟨j + 1, upd P t carry, by omega, by go_num, Lib.hid (hrow2.out.set t carry), Lib.hid (fun i => ?_), Lib.hid (fun i hi => ?_), Lib.hid ?_, Lib.hid (hB2.out.setCell (by simp) _)⟩
            · by_cases h1 : i = t
              · rw [h1, upd_at]; exact hcar
              · rw [upd_ne _ _ h1]; exact hP.out i
            · rw [upd_ne _ _ (by omega), hPO.out i (by omega)]; exact hz.out i (by omega)
            · rw [show j + 1 + k = t + 1 by omega, S_succ, upd_at, upd_S _ _ _ _ (Nat.le_refl _), S_succ, HX.out, Nat.add_mul, ← hS.out, Nat.mul_right_comm, ← hS2.out, ht]
          case measure => simp [intOf]; omega
    · obtain rfl : j = n := by omega
      have u1 : decide (j < j) = false := by simp
      have hl := HL.out
      have hr := hrow.out.rd (by omega) (fun i _ => hO.out i)
      have HRR := Lib.hid hr
      clear hr hl
      go_wp2_with fail
      with_reducible (refine (trim_any _ L L O _ HRR.out).mono ?_)
      rintro e w' ⟨⟨x, hx, rfl⟩, rfl⟩
      have HX := Lib.hid hx
      clear hx
      go_wp2_with fail
      go_ret
      refine ⟨⟨O, x, rfl, HRR.out.cut HX.out.le, HX.out.nm, ?_⟩, hB0.out⟩
      rw [HX.out.sum, ← HL.out, hS.out]
end Go.Proofs.YtlmeobokpibifaaGreatDoor
end

section
set_option linter.unusedSimpArgs false
set_option linter.unusedVariables false
set_option linter.unusedVariables false
namespace Go.Proofs.YtlmeobokpibifaaGreatDoor
open Go.RowKit

/-- a word shifted, in two parts -/
theorem shl_parts (x r : Nat) (hx : x < 18446744073709551616) (hr : r < 64) : x * 2 ^ r = x * 2 ^ r % 18446744073709551616 + 18446744073709551616 * (x / 2 ^ (64 - r)) ∧ x / 2 ^ (64 - r) < 2 ^ r := by
  have e : (18446744073709551616 : Nat) = 2 ^ (64 - r) * 2 ^ r := by rw [← Nat.pow_add, show 64 - r + r = 64 by omega]
  constructor
  · have h := Nat.div_add_mod (x * 2 ^ r) 18446744073709551616
    have d : x * 2 ^ r / 18446744073709551616 = x / 2 ^ (64 - r) := by
      rw [e, Nat.mul_div_mul_right _ _ (Nat.two_pow_pos r)]
    rw [d] at h
    omega
  · rw [Nat.div_lt_iff_lt_mul (Nat.two_pow_pos _), Nat.mul_comm, ← e]; exact hx
theorem shl_or (x y r : Nat) (hx : x < 18446744073709551616) (hr : r < 64) (hy : y < 2 ^ r) : bits .or .u64 (y : Int) (IntKind.u64.wrap ((x : Int) * 2 ^ r)) = ((y + x * 2 ^ r % 18446744073709551616 : Nat) : Int) := by
  rw [cast_shl, wrap_u64_mod]
  have e : (18446744073709551616 : Nat) = 2 ^ (64 - r) * 2 ^ r := by rw [← Nat.pow_add, show 64 - r + r = 64 by omega]
  have hm : x * 2 ^ r % 18446744073709551616 = x % 2 ^ (64 - r) * 2 ^ r := by rw [e, Nat.mul_mod_mul_right]
  have hp := Nat.pow_lt_pow_right (a := 2) (by decide) hr
  have h64 : (2 : Nat) ^ 64 = 18446744073709551616 := by decide
  rw [bits_or_u64_nat _ _ (by omega) (Nat.mod_lt _ (by decide)), hm, or_shl' _ _ _ hy, Nat.add_comm]
theorem shl_step {F O : Nat → Nat} {j q k r sh y : Nat} (hk : j + q = k) (hsh : sh = 64 * q + r) (hr : r < 64) (hx : F j < 18446744073709551616) (h : S O k + y * Wd ^ k = S F j * 2 ^ sh) (hO : O k = y + F j * 2 ^ r % 18446744073709551616) :
    S O (k + 1) + F j / 2 ^ (64 - r) * Wd ^ (k + 1) = S F (j + 1) * 2 ^ sh := by
  obtain ⟨e, _⟩ := shl_parts (F j) r hx hr
  rw [S_succ, S_succ, hO, Wp_succ, Nat.add_mul, Nat.add_mul, ← h]
  have p : Wd ^ j * 2 ^ sh = 2 ^ r * Wd ^ k := by
    rw [hsh, ← hk, Nat.pow_add Wd, Nat.pow_add 2, Wp_two q, ← Nat.mul_assoc, Nat.mul_comm]
  rw [Nat.mul_assoc (F j), p, ← Nat.mul_assoc (F j)]
  generalize F j * 2 ^ r % 18446744073709551616 = a at *
  generalize F j / 2 ^ (64 - r) = b at *
  rw [e, Nat.add_mul, Wd_eq, ← Wd_eq]
  have : b * (Wd ^ k * Wd) = Wd * b * Wd ^ k := by
    rw [Nat.mul_comm (Wd ^ k), ← Nat.mul_assoc, Nat.mul_comm b]
  omega

theorem shl_any (A : Option Addr) (n c : Nat) (F : Nat → Nat) (i : Int) (sh : Nat) (w : World) (hA : Rd w A n c F) (hn : n ≤ 1048576) (hsh : min (max i 0) 131072 = (sh : Int)) :
    Calls Tryz.prog 87 #[.slice A n c, .int .i64 i] w fun e w' => (∃ O k, e = .returned (.slice (some ⟨w.heap.size, 0, none⟩) k k) ∧ Rd w' (some ⟨w.heap.size, 0, none⟩) k k O ∧ Nm k O ∧ S O k = S F n * 2 ^ sh) ∧ Below w.heap.size w w' := by
  have hA' := Lib.hid hA
  have hs1 : sh ≤ 131072 := by omega
  obtain ⟨q, hq⟩ : ∃ q, sh / 64 = q := ⟨_, rfl⟩
  obtain ⟨r, hr⟩ : ∃ r, sh % 64 = r := ⟨_, rfl⟩
  have hr64 : r < 64 := by omega
  obtain ⟨e, he⟩ : ∃ e, 64 - r = e := ⟨_, rfl⟩
  have hqi : (sh : Int) / 64 = (q : Int) := by omega
  have hri : (sh : Int) % 64 = (r : Int) := by omega
  have hei : (64 : Int) - (r : Int) = (e : Int) := by omega
  have he64 : e ≤ 64 := by omega
  have HSH := Lib.hid (show sh = 64 * q + r by omega)
  have HE := Lib.hid he
  have hq17 : q ≤ 2048 := by omega
  clear hA hq hr he
  go_enter Tryz.func87, Tryz.ntmps87
  go_wp2_with fail
  with_reducible (refine (trim_any A n c F _ hA'.out).mono ?_)
  rintro e w' ⟨⟨m, hm, rfl⟩, rfl⟩
  have hrd := Lib.hid (hA'.out.cut hm.le)
  have hmn : m ≤ n := hm.le
  have HM := Lib.hid hm
  clear hm
  obtain ⟨L, hL⟩ : ∃ L, m + q + 1 = L := ⟨_, rfl⟩
  have hmk := run_make_row' (P := Tryz.prog) 39 22 (.int .u64 0) 8 Tryz.underlying39 infoU rfl .i64 .i64 L (by omega) (by omega)
  have HL := Lib.hid hL
  have hLi : (m : Int) + (q : Int) + 1 = (L : Int) := by omega
  have hLs : L ≤ 1100000 := by omega
  clear hL
  go_wp2_with fail
  go_loopw [23] (fun i wr => ∃ (j : Nat) (O : Nat → Nat), j ≤ m ∧ i = .int .i64 j ∧ Hid (Row wr w.heap.size L O) ∧ Hid (∀ i, i ≤ j + q → O i < Wd) ∧ Hid (O (j + q) < 2 ^ r) ∧ Hid (S O (j + q) + O (j + q) * Wd ^ (j + q) = S F j * 2 ^ sh) ∧ Hid (Below w.heap.size w wr)) (fun i _ => m - (intOf i).toNat)
  case atStart =>
    refine ⟨0, fun _ => 0, Nat.zero_le _, rfl, Lib.hid (Row.made w L), Lib.hid (fun i hi => Wd_pos), Lib.hid (Nat.two_pow_pos r), Lib.hid ?_, Lib.hid ((Below.refl _ _).alloc (Nat.le_refl _) _)⟩
    rw [S_zero, S_zeros (F := fun _ => 0) (Nat.zero_le _) (fun _ _ _ => rfl), S_zero]
    simp
  case round =>
    obtain ⟨j, O, hj, rfl, hrow, hO, hy, hS, hB⟩ := hrel
    by_cases hlt : j < m
    · have u1 : decide (j < m) = true := by simpa using hlt
      obtain ⟨k, hk⟩ : ∃ k, j + q = k := ⟨_, rfl⟩
      have hki : (j : Int) + (q : Int) = (k : Int) := by omega
      have hkL : k + 1 < L := by have := HL.out; omega
      have rA := (hrd.out.below hB.out)
      obtain ⟨ad, rfl, hb, hx⟩ := rA.at_ j hlt
      have hx64 := rA.word' j hlt
      rw [hk] at hO hy hS
      obtain ⟨v1, hv1⟩ : ∃ v1, O k + F j * 2 ^ r % 18446744073709551616 = v1 := ⟨_, rfl⟩
      obtain ⟨v2, hv2⟩ : ∃ v2, F j / 2 ^ e = v2 := ⟨_, rfl⟩
      have hor := shl_or (F j) (O k) r hx64 hr64 hy.out
      rw [hv1] at hor
      have hshr : (F j : Int) / 2 ^ e = (v2 : Int) := by rw [cast_shr, hv2]
      obtain ⟨pe, pl⟩ := shl_parts (F j) r hx64 hr64
      rw [HE.out, hv2] at pe pl
      have hp := Nat.pow_lt_pow_right (a := 2) (by decide) hr64
      have h64 : (2 : Nat) ^ 64 = 18446744073709551616 := by decide
      have hyy := hy.out
      have hv164 : v1 < 18446744073709551616 := by
        have hd : F j * 2 ^ r % 18446744073709551616 = F j % 2 ^ (64 - r) * 2 ^ r := by
          rw [show (18446744073709551616 : Nat) = 2 ^ (64 - r) * 2 ^ r by rw [← Nat.pow_add, show 64 - r + r = 64 by omega], Nat.mul_mod_mul_right]
        have h3 : (F j % 2 ^ (64 - r) + 1) * 2 ^ r ≤ 2 ^ (64 - r) * 2 ^ r := Nat.mul_le_mul_right _ (Nat.mod_lt _ (Nat.two_pow_pos _))
        rw [← Nat.pow_add, show 64 - r + r = 64 by omega, Nat.add_mul, ← hd] at h3
        omega
      have hv264 : v2 < 18446744073709551616 := by omega
      have hst := shl_step (O := upd O k v1) hk HSH.out hr64 hx64 (by rw [upd_S _ _ _ _ (Nat.le_refl _)]; exact hS.out) (by rw [upd_at, ← hv1])
      rw [HE.out, hv2] at hst
      have HST := Lib.hid hst
      have HPL := Lib.hid pl
      have hc1 := hrow.out.at_ k (by omega)
      have hf1 := hrow.out.free k
      have hc2 := hrow.out.at_ (k + 1) (by omega)
      have hf2 := hrow.out.free (k + 1)
      have hO64 : O k < 18446744073709551616 := hO.out k (Nat.le_refl _)
      have HV1 := Lib.hid hv1
      have HK := Lib.hid hk
      clear hst pe pl hp hyy hv1 hv2 hk rA h64
      go_wp2_with fail
      go_region
      go_wp2_with fail
      go_roundw
      case rel =>
        have hk := HK.out
        have e1 : j + 1 + q = k + 1 := by omega
        refine ⟨j + 1, upd (upd O k v1) (k + 1) v2, by omega, by go_num, Lib.hid ?_, Lib.hid (fun i hi => ?_), Lib.hid ?_, Lib.hid ?_, Lib.hid ?_⟩
        · exact (hrow.out.set k v1).set (k + 1) v2
        · rw [e1] at hi
          by_cases h1 : i = k + 1
          · rw [h1, upd_at]; exact hv264
          · rw [upd_ne _ _ h1]
            by_cases h2 : i = k
            · rw [h2, upd_at]; exact hv164
            · rw [upd_ne _ _ h2]; exact hO.out i (by omega)
        · rw [e1, upd_at]; exact HPL.out
        · rw [e1, upd_at, upd_S _ _ _ _ (Nat.le_refl _)]; exact HST.out
        · exact ((hB.out.setCell (by simp) _).setCell (by simp) _).drew
      case measure => simp [intOf]; omega
    · obtain rfl : j = m := by omega
      have u1 : decide (j < j) = false := by simp
      have hl := HL.out
      have hO' : ∀ i, i < L → O i < Wd := fun i hi => hO.out i (by omega)
      have hr := hrow.out.rd (by omega) hO'
      have HRR := Lib.hid hr
      have HO := Lib.hid hO'
      clear hr hO' hl
      go_wp2_with fail
      with_reducible (refine (trim_any _ L L O _ HRR.out).mono ?_)
      rintro e w' ⟨⟨x, hx, rfl⟩, rfl⟩
      have HX := Lib.hid hx
      clear hx
      go_wp2_with fail
      go_ret
      refine ⟨⟨O, x, rfl, HRR.out.cut HX.out.le, HX.out.nm, ?_⟩, hB.out⟩
      rw [HX.out.sum, ← HL.out, S_succ, hS.out, HM.out.sum]
end Go.Proofs.YtlmeobokpibifaaGreatDoor
end

section
set_option linter.unusedSimpArgs false
set_option linter.unusedVariables false
set_option linter.unusedVariables false
namespace Go.Proofs.YtlmeobokpibifaaGreatDoor
open Go.RowKit

/-- a word of what is shifted down -/
theorem shr_or (x y r e : Nat) (hx : x < 18446744073709551616) (hy : y < 18446744073709551616) (hr : r < 64) (he : 64 - r = e) : bits .or .u64 ((x : Int) / 2 ^ r) (IntKind.u64.wrap ((y : Int) * 2 ^ e)) = ((x / 2 ^ r + y % 2 ^ r * 2 ^ e : Nat) : Int) ∧ x / 2 ^ r + y % 2 ^ r * 2 ^ e < 18446744073709551616 := by
  have e1 : (18446744073709551616 : Nat) = 2 ^ r * 2 ^ e := by rw [← Nat.pow_add, ← he, show r + (64 - r) = 64 by omega]
  have hm : y * 2 ^ e % 18446744073709551616 = y % 2 ^ r * 2 ^ e := by rw [e1, Nat.mul_mod_mul_right]
  have hd : x / 2 ^ r < 2 ^ e := by rw [Nat.div_lt_iff_lt_mul (Nat.two_pow_pos _), Nat.mul_comm, ← e1]; exact hx
  have hx2 : x / 2 ^ r < 18446744073709551616 := Nat.lt_of_le_of_lt (Nat.div_le_self _ _) hx
  have hl : y % 2 ^ r * 2 ^ e < 18446744073709551616 := by rw [← hm]; exact Nat.mod_lt _ (by decide)
  constructor
  · rw [cast_shr, cast_shl, wrap_u64_mod, hm, bits_or_u64_nat _ _ hx2 hl, or_shl' _ _ _ hd, Nat.add_comm]
  · have h3 : (y % 2 ^ r + 1) * 2 ^ e ≤ 2 ^ r * 2 ^ e := Nat.mul_le_mul_right _ (Nat.mod_lt _ (Nat.two_pow_pos _))
    rw [← e1, Nat.add_mul] at h3
    omega
theorem shr_step {G O : Nat → Nat} {j r e : Nat} (hr : r < 64) (he : 64 - r = e) (h : S O j * 2 ^ r + G 0 % 2 ^ r = S G j + G j % 2 ^ r * Wd ^ j) (hO : O j = G j / 2 ^ r + G (j + 1) % 2 ^ r * 2 ^ e) :
    S O (j + 1) * 2 ^ r + G 0 % 2 ^ r = S G (j + 1) + G (j + 1) % 2 ^ r * Wd ^ (j + 1) := by
  rw [S_succ, S_succ, hO, Nat.add_mul, Wp_succ]
  have e1 : 2 ^ e * 2 ^ r = Wd := by rw [← Nat.pow_add, ← he, show 64 - r + r = 64 by omega]; exact Wd_pow.symm
  have e2 := Nat.div_add_mod (G j) (2 ^ r)
  have e3 : (G j / 2 ^ r + G (j + 1) % 2 ^ r * 2 ^ e) * Wd ^ j * 2 ^ r = (2 ^ r * (G j / 2 ^ r)) * Wd ^ j + G (j + 1) % 2 ^ r * (Wd ^ j * Wd) := by
    rw [Nat.add_mul, Nat.add_mul, Nat.mul_right_comm, Nat.mul_comm (2 ^ r)]
    congr 1
    rw [Nat.mul_right_comm, Nat.mul_assoc _ (2 ^ e), e1, Nat.mul_assoc, Nat.mul_comm Wd]
  rw [e3]
  have e4 : G j * Wd ^ j = (2 ^ r * (G j / 2 ^ r)) * Wd ^ j + G j % 2 ^ r * Wd ^ j := by rw [← Nat.add_mul, e2]
  omega
theorem shr_sum {F G : Nat → Nat} {n q r sh : Nat} (hF : ∀ i, i < n → F i < Wd) (hG : ∀ i, G i = ext n F (i + q)) (hsh : sh = 64 * q + r) : S F n / 2 ^ sh = S G (n - q) / 2 ^ r := by
  rw [hsh, Nat.pow_add, ← Wp_two, ← Nat.div_div_eq_div_mul]
  congr 1
  rcases Nat.lt_or_ge n q with h | h
  · rw [show n - q = 0 by omega, S_zero]
    apply Nat.div_eq_of_lt
    have := S_lt hF
    have h2 : Wd ^ n ≤ Wd ^ q := Nat.pow_le_pow_right Wd_pos (by omega)
    omega
  · have e := S_split F q (n - q)
    rw [show q + (n - q) = n by omega] at e
    rw [e, Nat.add_comm, Nat.mul_add_div (Wp_pos q), Nat.div_eq_of_lt (S_lt fun i hi => hF i (by omega)), Nat.add_zero]
    exact S_congr fun i hi => by rw [hG, Nat.add_comm]; exact (if_pos (by omega)).symm

set_option maxRecDepth 100000 in
theorem shr_any (A : Option Addr) (n c : Nat) (F : Nat → Nat) (i : Int) (sh : Nat) (w : World) (hA : Rd w A n c F) (hn : n ≤ 1048576) (hsh : min (max i 0) 131072 = (sh : Int)) :
    Calls Tryz.prog 93 #[.slice A n c, .int .i64 i] w fun e w' => (∃ O k, e = .returned (.slice (some ⟨w.heap.size, 0, none⟩) k k) ∧ Rd w' (some ⟨w.heap.size, 0, none⟩) k k O ∧ Nm k O ∧ S O k = S F n / 2 ^ sh) ∧ Below w.heap.size w w' := by
  have hA' := Lib.hid hA
  have hs1 : sh ≤ 131072 := by omega
  obtain ⟨q, hq⟩ : ∃ q, sh / 64 = q := ⟨_, rfl⟩
  obtain ⟨r, hr⟩ : ∃ r, sh % 64 = r := ⟨_, rfl⟩
  have hr64 : r < 64 := by omega
  obtain ⟨e, he⟩ : ∃ e, 64 - r = e := ⟨_, rfl⟩
  have hqi : (sh : Int) / 64 = (q : Int) := by omega
  have hri : (sh : Int) % 64 = (r : Int) := by omega
  have hei : (64 : Int) - (r : Int) = (e : Int) := by omega
  have he64 : e ≤ 64 := by omega
  have HSH := Lib.hid (show sh = 64 * q + r by omega)
  have HE := Lib.hid he
  have hq17 : q ≤ 2048 := by omega
  obtain ⟨L, hL⟩ : ∃ L, n - q = L := ⟨_, rfl⟩
  have hLi : max 0 ((n : Int) - (q : Int)) = (L : Int) := by omega
  have hLs : L ≤ 1048576 := by omega
  have hmk := run_make_row' (P := Tryz.prog) 39 22 (.int .u64 0) 8 Tryz.underlying39 infoU rfl .i64 .i64 L (by omega) (by omega)
  have HL := Lib.hid hL
  obtain ⟨G, hG⟩ : ∃ G : Nat → Nat, ∀ i, G i = ext n F (i + q) := ⟨fun i => ext n F (i + q), fun _ => rfl⟩
  have HG := Lib.hid hG
  clear hA hq hr he hL hG
  go_enter Tryz.func93, Tryz.ntmps93
  go_wp2_with fail
  go_loopw [20] (fun i wr => ∃ (j : Nat) (O : Nat → Nat), j ≤ L ∧ i = .int .i64 j ∧ Hid (Row wr w.heap.size L O) ∧ Hid (∀ i, i < j → O i < Wd) ∧ Hid (S O j * 2 ^ r + G 0 % 2 ^ r = S G j + G j % 2 ^ r * Wd ^ j) ∧ Hid (Below w.heap.size w wr)) (fun i _ => L - (intOf i).toNat)
  case atStart =>
    refine ⟨0, fun _ => 0, Nat.zero_le _, rfl, Lib.hid (Row.made w L), Lib.hid (fun i hi => absurd hi (Nat.not_lt_zero _)), Lib.hid ?_, Lib.hid ((Below.refl _ _).alloc (Nat.le_refl _) _)⟩
    rw [S_zero, S_zero]
    simp
  case round =>
    obtain ⟨j, O, hj, rfl, hrow, hO, hS, hB⟩ := hrel
    by_cases hlt : j < L
    · have u1 : decide (j < L) = true := by simpa using hlt
      obtain ⟨k, hk⟩ : ∃ k, j + q = k := ⟨_, rfl⟩
      have hki : (j : Int) + (q : Int) = (k : Int) := by omega
      have hkn : k < n := by have := HL.out; omega
      have rA := (hA'.out.below hB.out)
      obtain ⟨ad, rfl, hb, hx⟩ := rA.at_ k hkn
      have hx64 := rA.word' k hkn
      have hn' := hn
      have hk1 : IntKind.i64.wrap ((k : Int) + 1) = ((k + 1 : Nat) : Int) := by rw [IntWalk.i64_in _ (by omega)]; rfl
      have he1 : IntKind.i64.wrap (e : Int) = (e : Int) := IntWalk.i64_in _ (by omega)
      have htm : ((sh : Int)).tmod 64 = (r : Int) := by rw [Int.tmod_eq_emod_of_nonneg (by omega)]; exact hri
      have a1 := Lib.hid (fun w' (h : Rd w' (some ad) n c F) => at_ext (some ad) n c F (k + 1) w' h)
      have hy64 := ext_lt hA'.out (k + 1)
      have g0 : G j = F k := by rw [HG.out, hk]; exact if_pos hkn
      have g1 : G (j + 1) = ext n F (k + 1) := by rw [HG.out]; congr 1; omega
      obtain ⟨y, hyy⟩ : ∃ y, ext n F (k + 1) = y := ⟨_, rfl⟩
      rw [hyy] at a1 hy64 g1
      obtain ⟨v, hv⟩ : ∃ v, F k / 2 ^ r + y % 2 ^ r * 2 ^ e = v := ⟨_, rfl⟩
      obtain ⟨hor, hv64⟩ := shr_or (F k) y r e hx64 hy64 hr64 HE.out
      rw [hv] at hor hv64
      have hst := shr_step (O := upd O j v) (G := G) hr64 HE.out (by rw [upd_S _ _ _ _ (Nat.le_refl _)]; exact hS.out) (by rw [upd_at, g0, g1, hv])
      have HST := Lib.hid hst
      have hc1 := hrow.out.at_ j hlt
      have hf1 := hrow.out.free j
      have RA := Lib.hid rA
      clear hst hv hk rA g0 g1 hyy
      go_wp2_with fail
      go_still_tail 19, (by kernel_rfl)
      still_call (((a1.out _ (show Rd wr.drew (some ad) n c F from RA.out)).mono (fun _ _ h => ⟨h.1, h.2.symm⟩)))
      repeat still_step
      refine wpStill_nil ?_
      change wpList _ _ _ _ _ wr.drew
      go_wp2_with fail
      go_roundw
      case rel =>
        refine ⟨j + 1, upd O j v, by omega, by go_num, Lib.hid ?_, Lib.hid (fun i hi => ?_), HST, Lib.hid ?_⟩
        · exact hrow.out.set j v
        · by_cases h1 : i = j
          · rw [h1, upd_at]; exact hv64
          · rw [upd_ne _ _ h1]; exact hO.out i (by omega)
        · exact (hB.out.setCell (by simp) _).drew
      case measure => simp [intOf]; omega
    · obtain rfl : j = L := by omega
      have u1 : decide (j < j) = false := by simp
      have hr := hrow.out.rd (by omega) hO.out
      have HRR := Lib.hid hr
      clear hr
      go_wp2_with fail
      with_reducible (refine (trim_any _ j j O _ HRR.out).mono ?_)
      rintro e w' ⟨⟨x, hx, rfl⟩, rfl⟩
      have HX := Lib.hid hx
      clear hx
      go_wp2_with fail
      go_ret
      refine ⟨⟨O, x, rfl, HRR.out.cut HX.out.le, HX.out.nm, ?_⟩, hB.out⟩
      have hl := HL.out
      have g0 : G j = 0 := by rw [HG.out]; exact if_neg (by omega)
      have hs := hS.out
      rw [g0, Nat.zero_mod, Nat.zero_mul, Nat.add_zero] at hs
      have hsum := shr_sum hA'.out.word HG.out HSH.out
      rw [HX.out.sum, hsum, hl, ← hs, Nat.add_comm, Nat.mul_comm, Nat.add_mul_div_left _ _ (Nat.two_pow_pos r), Nat.div_eq_of_lt (Nat.mod_lt _ (Nat.two_pow_pos r)), Nat.zero_add]
end Go.Proofs.YtlmeobokpibifaaGreatDoor
end

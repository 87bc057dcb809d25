/- package caliperref01's Up. Conditions: as each theorem names them. -/
import Derived.Test.YteiajccjlbghoaaHplus
set_option linter.unusedVariables false
namespace Go.Proofs.Yteiajccjlbghoaa
open Go.RowKit

theorem up_step {F O : Nat → Nat} {q j k s k' y : Nat} (e : F j * y + k = s + k' * 4294967296) (h : T O (q + j) + k * Hd ^ (q + j) = T F j * y * Hd ^ q) :
    T (upd O (q + j) s) (q + j + 1) + k' * Hd ^ (q + j + 1) = T F (j + 1) * y * Hd ^ q := by
  rw [T_succ, T_succ, upd_at, upd_T _ _ _ _ (Nat.le_refl _), Hp_succ, Nat.add_mul, Nat.add_mul, ← h]
  have e1 : (F j * y + k) * Hd ^ (q + j) = (s + k' * Hd) * Hd ^ (q + j) := by rw [e]; rfl
  have e2 : F j * Hd ^ j * y * Hd ^ q = F j * y * Hd ^ (q + j) := by
    rw [Nat.pow_add, Nat.mul_right_comm (F j), Nat.mul_assoc (F j * y), Nat.mul_comm (Hd ^ j)]
  have e3 : k' * (Hd ^ (q + j) * Hd) = k' * Hd * Hd ^ (q + j) := by rw [Nat.mul_comm (Hd ^ (q + j)), ← Nat.mul_assoc]
  rw [e2, e3]
  simp only [Nat.add_mul] at e1
  omega
theorem own_made (w : World) (q : Nat) (hq : q ≤ 17592186044416) : OwnU (w.alloc (.cells (madeCells #[.int .u64 0] q) 35)) w.heap.size (.slice (some ⟨w.heap.size, 0, none⟩) q q) q (fun _ => 0) := by
  have e : (madeCells #[Value.int .u64 0] q).toList = cellsF q (fun _ => 0) := by
    rw [toList_madeCells_one]
    unfold cellsF
    apply List.ext_getElem
    · simp
    · intro i h1 h2; simp
  have hs : (madeCells #[Value.int .u64 0] q).size = q := by
    rw [← Array.length_toList, e, cellsF_len]
  refine ⟨by rw [cellsF_len, Nat.mul_one], Or.inr ⟨w.heap.size, q, _, rfl, Nat.le_refl _, Deep.blk_alloc_new _ _, Nat.le_refl _, by unfold maxLen; omega, by rw [Nat.mul_one]; exact hs, ?_⟩⟩
  rw [Nat.mul_one, e, List.take_of_length_le (by rw [cellsF_len]; exact Nat.le_refl _)]

theorem up_any (A : Option Addr) (n c : Nat) (F : Nat → Nat) (sh q r : Nat) (w : World) (hA : Rd w A n c F) (hF : ∀ i, i < n → F i < Hd) (hn : n ≤ 2097152) (hq : sh / 32 = q) (hr : sh % 32 = r) (hs : sh ≤ 1048576) :
    Calls Try.prog 64 #[.slice A n c, .int .i64 sh] w fun e w' => (∃ u, e = .returned u ∧ IsH w' u (T F n * 2 ^ sh)) ∧ Below w.heap.size w w' := by
  obtain ⟨i0, hi, hz0, hz1, hz2⟩ := info_parts infoU
  have hq1 : q ≤ 32768 := by omega
  have hr1 : r < 32 := by omega
  have hqi : (sh : Int) / 32 = (q : Int) := by omega
  have hri : (sh : Int) % 32 = (r : Int) := by omega
  have hmk := run_make_row' (P := Try.prog) 22 35 (.int .u64 0) 8 Try.underlying22 infoU rfl .i64 .i64 q (by omega) (by omega)
  obtain ⟨y, hy⟩ : ∃ y, 2 ^ r = y := ⟨_, rfl⟩
  have hy1 : y ≤ 2147483648 := by rw [← hy]; exact Nat.pow_le_pow_right (n := 2) (by decide) (show r ≤ 31 by omega)
  have hy0 : 0 < y := by rw [← hy]; exact Nat.two_pow_pos r
  have HI := Lib.hid (And.intro hi (And.intro hz0 (And.intro hz1 hz2)))
  have HA := Lib.hid hA
  have HF := Lib.hid hF
  have HY := Lib.hid hy
  have HQ := Lib.hid (show y * Hd ^ q = 2 ^ sh from by rw [← hy, Hp_two, ← Nat.pow_add]; congr 1; omega)
  clear hA hF hi hz0 hz1 hz2 hq hr hy
  go_enter Try.func64, Try.ntmps64
  go_wp2_with fail
  go_loopw [5, 6, 7] (fun v cr i wr => ∃ (j k : Nat) (O : Nat → Nat) (V : Value), V = v ∧ j ≤ n ∧ cr = .int .u64 k ∧ i = .int .i64 j ∧ k < 4294967296 ∧ Hid (OwnU wr w.heap.size V (q + j) O) ∧ Hid (∀ i, i < q + j → O i < Hd) ∧ Hid (T O (q + j) + k * Hd ^ (q + j) = T F j * y * Hd ^ q) ∧ Hid (Below w.heap.size w wr)) (fun _ _ i _ => n - (intOf i).toNat)
  case atStart => exact ⟨0, 0, fun _ => 0, _, rfl, Nat.zero_le _, rfl, rfl, by decide, Lib.hid (own_made w q (by omega)), Lib.hid (fun i hi => Hd_pos), Lib.hid (by rw [T_zeros (F := fun _ => 0) (m := 0) (Nat.zero_le _) (fun _ _ _ => rfl)]; simp [T_zero]), Lib.hid ((Below.refl _ _).alloc (Nat.le_refl _) _)⟩
  case round =>
    obtain ⟨j, k, O, v, rfl, hj, rfl, rfl, hk, hown, hO, hS, hBel⟩ := hrel
    by_cases hgo : j < n
    · have u1 : decide (j < n) = true := decide_eq_true hgo
      obtain ⟨ad, rfl, hb, hcell⟩ := (HA.out.below hBel.out).at_ j hgo
      have hx := HF.out j hgo
      obtain ⟨t, ht⟩ : ∃ t, F j * y + k = t := ⟨_, rfl⟩
      have htl : t < 4294967296 * 4294967296 := by
        have e1 : (F j + 1) * y ≤ 4294967296 * 2147483648 := Nat.mul_le_mul hx hy1
        rw [Nat.add_mul] at e1
        omega
      obtain ⟨s, hs1⟩ : ∃ s, t % 4294967296 = s := ⟨_, rfl⟩
      obtain ⟨k', hk'⟩ : ∃ k', t / 4294967296 = k' := ⟨_, rfl⟩
      have hst := up_step (F := F) (O := O) (q := q) (j := j) (k := k) (s := s) (k' := k') (y := y) (by omega) hS.out
      have HST := Lib.hid hst
      have hx2 : F j < 4294967296 := hx
      generalize F j = x at hcell hx2 ht
      obtain ⟨z, hz⟩ : ∃ z, x * y = z := ⟨_, rfl⟩
      rw [hz] at ht
      have hsh : IntKind.u64.wrap ((x : Int) * 2 ^ r) = (z : Int) := by
        have := HY.out
        subst this
        rw [wrap_shl x r (by rw [hz]; omega), hz]
      have hti : (z : Int) + (k : Int) = (t : Int) := by omega
      have hsi : (t : Int) % 4294967296 = (s : Int) := by omega
      have hki : (t : Int) / 4294967296 = (k' : Int) := by omega
      have hs64 : s < 4294967296 := by omega
      have hk1 : k' < 4294967296 := by omega
      have HOW := Lib.hid (World.ownsRow.alloc hown.out (.cells #[.int .u64 s] 35))
      have HBS := Lib.hid (show w.heap.size ≤ (wr.alloc (.cells #[.int .u64 s] 35)).heap.size from by have := hBel.out.size; simp; omega)
      have HN := Lib.hid (And.intro hs64 hgo)
      have hz64 : z ≤ t := by omega
      clear hst ht hs1 hk' hz hx
      go_wp2_with (at_builtin; refine wpList_append_own_at (_ : World) rfl (.tmp 28) (.tmp 31) 22 rfl w.heap.size 35 i0 (.int .u64 0) 1 8 Try.underlying22 HI.out.1 HI.out.2.1 HI.out.2.2.1 HI.out.2.2.2 rfl (by decide) _ (q + j) (cellsF (q + j) O) rfl HOW.out ⟨_, 0, none⟩ 1 1 [.int .u64 s] rfl rfl (one_news _ s) (one_cell s) (by unfold maxLen; omega) (by omega) HBS.out ?_)
      intro v' w1 hown' hgrow _ _
      have HP := Lib.hid (own_push (Nat.le_refl _) hown.out hBel.out hown' hgrow)
      clear hown' hgrow hown hBel
      go_wp2_with fail
      go_roundw
      case rel => exact ⟨j + 1, k', upd O (q + j) s, _, rfl, HN.out.2, rfl, by go_num, hk1, Lib.hid HP.out.1, Lib.hid (upd_h hO.out HN.out.1), Lib.hid HST.out, Lib.hid HP.out.2⟩
      case measure => have := HN.out.2; simp [intOf]; omega
    · obtain rfl : j = n := by omega
      have u1 : decide (j < j) = false := by simp
      have HOW := Lib.hid (World.ownsRow.alloc hown.out (.cells #[.int .u64 k] 35))
      have HBS := Lib.hid (show w.heap.size ≤ (wr.alloc (.cells #[.int .u64 k] 35)).heap.size from by have := hBel.out.size; simp; omega)
      have HK := Lib.hid hk
      clear hgo
      go_wp2_with (at_builtin; refine wpList_append_own_at (_ : World) rfl (.tmp 35) (.tmp 37) 22 rfl w.heap.size 35 i0 (.int .u64 0) 1 8 Try.underlying22 HI.out.1 HI.out.2.1 HI.out.2.2.1 HI.out.2.2.2 rfl (by decide) _ (q + j) (cellsF (q + j) O) rfl HOW.out ⟨_, 0, none⟩ 1 1 [.int .u64 k] rfl rfl (one_news _ k) (one_cell k) (by unfold maxLen; omega) (by omega) HBS.out ?_)
      intro v' w1 hown' hgrow _ _
      have HP := Lib.hid (own_push (Nat.le_refl _) hown.out hBel.out hown' hgrow)
      have hOk := upd_h hO.out HK.out
      have hsum : T (upd O (q + j) k) (q + j + 1) = T F j * 2 ^ sh := by
        rw [T_succ, upd_at, upd_T _ _ _ _ (Nat.le_refl _), hS.out, ← HQ.out, Nat.mul_assoc]
      obtain ⟨A', c', rfl, hr⟩ := own_rd HP.out.1 (by omega) hOk
      have HR := Lib.hid hr
      have HSM := Lib.hid hsum
      have HOK := Lib.hid hOk
      clear hr hsum hOk hown' hgrow hown hBel
      go_wp2_with fail
      with_reducible (refine (rtrim_any _ (q + j + 1) c' _ _ HR.out).mono ?_)
      rintro e w' ⟨⟨x, hx, rfl⟩, rfl⟩
      have HX := Lib.hid hx
      clear hx
      go_wp2_with fail
      go_ret
      exact ⟨⟨_, rfl, trimH HR.out HOK.out HX.out HSM.out⟩, HP.out.2⟩
theorem up_H (u : Value) (M a sh : Nat) (w : World) (hu : IsH w u M) (hM : M < 2 ^ a) (ha : a ≤ 1048576) (hs : sh ≤ 1048576) :
    Calls Try.prog 64 #[u, .int .i64 sh] w fun e w' => (∃ r, e = .returned r ∧ IsH w' r (M * 2 ^ sh)) ∧ Below w.heap.size w w' := by
  obtain ⟨A, n, c, F, rfl, hA, hF, hn, rfl⟩ := hu
  have h1 := len_of_half hn rfl hM ha
  exact up_any A n c F sh _ _ w hA hF (by omega) rfl rfl hs
end Go.Proofs.Yteiajccjlbghoaa

/- package nat's Mul. Conditions: as each theorem names them. -/
import Derived.Test.YteiajccjlbghoaaCarry
set_option linter.unusedVariables false
namespace Go.Proofs.Yteiajccjlbghoaa
open Go.RowKit

theorem run_plus0 (x y s k : Nat) (hs : (x + y) % 18446744073709551616 = s) (hk : (x + y) / 18446744073709551616 = k) (w : World) :
    (callFunc 56 #[.int .u64 x, .int .u64 y, .int .u64 0]).run Try.prog w = .ok (.value (.tuple #[.int .u64 s, .int .u64 k])) w :=
  run_plus x y 0 s k (by decide) (by rw [Nat.add_zero]; exact hs) (by rw [Nat.add_zero]; exact hk) w

theorem mul_word {x y carry o hi lo lo1 c1 s c2 : Nat} (hx : x < 18446744073709551616) (hy : y < 18446744073709551616) (hc : carry < 18446744073709551616) (ho : o < 18446744073709551616)
    (e1 : x * y / 18446744073709551616 = hi) (e2 : x * y % 18446744073709551616 = lo) (e3 : (lo + carry) % 18446744073709551616 = lo1) (e4 : (lo + carry) / 18446744073709551616 = c1)
    (e5 : (o + lo1) % 18446744073709551616 = s) (e6 : (o + lo1) / 18446744073709551616 = c2) :
    x * y + carry + o = s + 18446744073709551616 * (hi + c1 + c2) ∧ hi + c1 + c2 < 18446744073709551616 ∧ s < 18446744073709551616 ∧ lo < 18446744073709551616 ∧ lo1 < 18446744073709551616 ∧ c1 ≤ 1 ∧ c2 ≤ 1 := by
  have h : x * y ≤ 18446744073709551615 * 18446744073709551615 := Nat.mul_le_mul (by omega) (by omega)
  generalize x * y = p at *
  omega

theorem mul_inner {G O P : Nat → Nat} {i k x carry carry1 s : Nat} (hw : x * G k + carry + O (i + k) = s + 18446744073709551616 * carry1) (h : S P (i + k) + carry * Wd ^ (i + k) = S O (i + k) + x * S G k * Wd ^ i) (hP : P (i + k) = s) :
    S P (i + (k + 1)) + carry1 * Wd ^ (i + (k + 1)) = S O (i + (k + 1)) + x * S G (k + 1) * Wd ^ i := by
  have e1 : (x * G k + carry + O (i + k)) * Wd ^ (i + k) = (s + 18446744073709551616 * carry1) * Wd ^ (i + k) := by rw [hw]
  rw [← Nat.add_assoc, S_succ, S_succ, S_succ, hP, Wp_succ, Nat.mul_add, Nat.add_mul (x * S G k)]
  have e2 : carry1 * (Wd ^ (i + k) * Wd) = 18446744073709551616 * carry1 * Wd ^ (i + k) := by
    rw [Nat.mul_comm (Wd ^ (i + k)), ← Nat.mul_assoc, Nat.mul_comm carry1]; rfl
  have e3 : x * (G k * Wd ^ k) * Wd ^ i = x * G k * Wd ^ (i + k) := by
    rw [Nat.pow_add, ← Nat.mul_assoc x, Nat.mul_assoc (x * G k), Nat.mul_comm (Wd ^ k)]
  rw [e2, e3]
  simp only [Nat.add_mul] at e1
  omega

theorem mul_any (A B : Option Addr) (n c m d : Nat) (F G : Nat → Nat) (w : World) (hA : Rd w A n c F) (hB : Rd w B m d G) (hn : n ≤ 1048576) (hm : m ≤ 1048576) :
    Calls Try.prog 31 #[.slice A n c, .slice B m d] w fun e w' => (∃ O k, e = .returned (.slice (some ⟨w.heap.size, 0, none⟩) k k) ∧ Rd w' (some ⟨w.heap.size, 0, none⟩) k k O ∧ Nm k O ∧ S O k = S F n * S G m) ∧ Below w.heap.size w w' := by
  obtain ⟨L, hL⟩ : ∃ L, n + m = L := ⟨_, rfl⟩
  have hmk := run_make_row' (P := Try.prog) 23 35 (.int .u64 0) 8 Try.underlying23 infoU rfl .i64 .i64 L (by omega) (by omega)
  have hA' := Lib.hid hA
  have hB' := Lib.hid hB
  have HL := Lib.hid hL
  have hLi : (n : Int) + (m : Int) = (L : Int) := by omega
  have hLs : L ≤ 2097152 := by omega
  clear hA hB hL
  go_enter Try.func31, Try.ntmps31
  go_wp2_with fail
  go_loopw [22] (fun i wr => ∃ (j : Nat) (O : Nat → Nat), j ≤ n ∧ i = .int .i64 j ∧ Hid (Row wr w.heap.size L O) ∧ Hid (∀ i, O i < Wd) ∧ Hid (∀ i, j + m ≤ i → O i = 0) ∧ Hid (S O (j + m) = S F j * S G m) ∧ Hid (Below w.heap.size w wr)) (fun i _ => n - (intOf i).toNat)
  case atStart =>
    refine ⟨0, fun _ => 0, Nat.zero_le _, rfl, Lib.hid (Row.made w L), Lib.hid (fun i => Wd_pos), Lib.hid (fun i _ => rfl), Lib.hid ?_, Lib.hid ((Below.refl _ _).alloc (Nat.le_refl _) _)⟩
    rw [S_zeros (F := fun _ => 0) (Nat.zero_le _) (fun _ _ _ => rfl), S_zero, S_zero, Nat.zero_mul]
  case round =>
    obtain ⟨j, O, hj, rfl, hrow, hO, hz, hS, hB0⟩ := hrel
    by_cases hlt : j < n
    · have u1 : decide (j < n) = true := by simpa using hlt
      have rA := (hA'.out.below hB0.out)
      obtain ⟨ad, rfl, hb, hx⟩ := rA.at_ j hlt
      have hx64 := rA.word' j hlt
      clear rA
      obtain ⟨wo, hwo⟩ : ∃ wo, wo = wr := ⟨_, rfl⟩
      subst hwo
      go_wp2_with fail
      generalize hxe : F j = x at hx hx64 ⊢
      have HX := Lib.hid hxe
      clear hxe
      go_loopw [8, 29] (fun cr i wr => ∃ (k carry : Nat) (P : Nat → Nat), k ≤ m ∧ cr = .int .u64 carry ∧ i = .int .i64 k ∧ carry < 18446744073709551616 ∧ Hid (Row wr w.heap.size L P) ∧ Hid (∀ i, P i < Wd) ∧ Hid (∀ i, j + k ≤ i → P i = O i) ∧ Hid (S P (j + k) + carry * Wd ^ (j + k) = S O (j + k) + x * S G k * Wd ^ j) ∧ Hid (Below w.heap.size w wr)) (fun _ i _ => m - (intOf i).toNat)
      case atStart =>
        exact ⟨0, 0, O, Nat.zero_le _, rfl, rfl, by decide, hrow, hO, Lib.hid (fun _ _ => rfl), Lib.hid (by simp [S_zero]), hB0⟩
      case round =>
        obtain ⟨k, carry, P, hk, rfl, rfl, hcar, hrow2, hP, hPO, hS2, hB2⟩ := hrel
        by_cases hlt2 : k < m
        · have v1 : decide (k < m) = true := by simpa using hlt2
          have rB := (hB'.out.below hB2.out)
          obtain ⟨bd, rfl, hb2, hy⟩ := rB.at_ k hlt2
          have hy64 := rB.word' k hlt2
          have ho64 : P (j + k) < 18446744073709551616 := hP.out (j + k)
          have hPe := hPO.out (j + k) (Nat.le_refl _)
          obtain ⟨t, ht⟩ : ∃ t, j + k = t := ⟨_, rfl⟩
          have hti : (j : Int) + (k : Int) = (t : Int) := by omega
          rw [ht] at ho64 hPe
          have htL : t < L := by have := HL.out; omega
          have hc1 := hrow2.out.at_ t htL
          have hf1 := hrow2.out.free t
          obtain ⟨y, hye⟩ : ∃ y, G k = y := ⟨_, rfl⟩
          obtain ⟨o, hoe⟩ : ∃ o, P t = o := ⟨_, rfl⟩
          rw [hye] at hy hy64
          rw [hoe] at hc1 ho64 hPe
          obtain ⟨hi, e1⟩ : ∃ hi, x * y / 18446744073709551616 = hi := ⟨_, rfl⟩
          obtain ⟨lo, e2⟩ : ∃ lo, x * y % 18446744073709551616 = lo := ⟨_, rfl⟩
          obtain ⟨lo1, e3⟩ : ∃ lo1, (lo + carry) % 18446744073709551616 = lo1 := ⟨_, rfl⟩
          obtain ⟨c1, e4⟩ : ∃ c1, (lo + carry) / 18446744073709551616 = c1 := ⟨_, rfl⟩
          obtain ⟨s, e5⟩ : ∃ s, (o + lo1) % 18446744073709551616 = s := ⟨_, rfl⟩
          obtain ⟨c2, e6⟩ : ∃ c2, (o + lo1) / 18446744073709551616 = c2 := ⟨_, rfl⟩
          obtain ⟨m1, m2, m3, m4, m5, m6, m7⟩ := mul_word hx64 hy64 hcar ho64 e1 e2 e3 e4 e5 e6
          have M := Lib.hid (fun w => Try.bits_Mul64 x y hx64 hy64 w)
          rw [e1, e2] at M
          have p1 := run_plus0 lo carry lo1 c1 e3 e4
          have p2 := run_plus0 o lo1 s c2 e5 e6
          have hst := mul_inner (G := G) (O := O) (P := upd P t s) (i := j) (k := k) (x := x) (carry := carry) (carry1 := hi + c1 + c2) (s := s) (by rw [hye, ht, ← hPe]; exact m1) (by rw [upd_S _ _ _ _ (by omega)]; exact hS2.out) (by rw [ht, upd_at])
          have HST := Lib.hid hst
          have HT := Lib.hid ht
          clear hst m1 e1 e2 e3 e4 e5 e6 hye hoe hPe ht rB
          go_wp2_with fail
          with_reducible (refine (M.out _).mono ?_)
          rintro e w' ⟨rfl, rfl⟩
          go_wp2_with fail
          go_roundw
          case rel =>
            have ht := HT.out
            refine ⟨k + 1, hi + c1 + c2, upd P t s, by omega, by go_num, by go_num, m2, Lib.hid (hrow2.out.set t s), Lib.hid (fun i => ?_), Lib.hid (fun i hi => ?_), HST, Lib.hid (hB2.out.setCell (by simp) _)⟩
            · by_cases h1 : i = t
              · rw [h1, upd_at]; exact m3
              · rw [upd_ne _ _ h1]; exact hP.out i
            · rw [upd_ne _ _ (by omega)]; exact hPO.out i (by omega)
          case measure => simp [intOf]; omega
        · obtain rfl : k = m := by omega
          have v1 : decide (k < k) = false := by simp
          obtain ⟨t, ht⟩ : ∃ t, j + k = t := ⟨_, rfl⟩
          have hti : (j : Int) + (k : Int) = (t : Int) := by omega
          have htL : t < L := by have := HL.out; omega
          have hc1 := hrow2.out.at_ t htL
          have hf1 := hrow2.out.free t
          have HT := Lib.hid ht
          clear ht
          go_wp2_with fail
          go_roundw
          case rel =>
            have ht := HT.out
            refine ⟨j + 1, upd P t carry, by omega, by go_num, Lib.hid (hrow2.out.set t carry), Lib.hid (fun i => ?_), Lib.hid (fun i hi => ?_), Lib.hid ?_, Lib.hid (hB2.out.setCell (by simp) _)⟩
            · by_cases h1 : i = t
              · rw [h1, upd_at]; exact hcar
              · rw [upd_ne _ _ h1]; exact hP.out i
            · rw [upd_ne _ _ (by omega), hPO.out i (by omega)]; exact hz.out i (by omega)
            · rw [show j + 1 + k = t + 1 by omega, S_succ, upd_at, upd_S _ _ _ _ (Nat.le_refl _), S_succ, HX.out, Nat.add_mul, ← hS.out, Nat.mul_right_comm, ← hS2.out, ht]
          case measure => simp [intOf]; omega
    · obtain rfl : j = n := by omega
      have u1 : decide (j < j) = false := by simp
      have hl := HL.out
      have hr := hrow.out.rd (by omega) (fun i _ => hO.out i)
      have HRR := Lib.hid hr
      clear hr hl
      go_wp2_with fail
      with_reducible (refine (trim_any _ L L O _ HRR.out).mono ?_)
      rintro e w' ⟨⟨x, hx, rfl⟩, rfl⟩
      have HX := Lib.hid hx
      clear hx
      go_wp2_with fail
      go_ret
      refine ⟨⟨O, x, rfl, HRR.out.cut HX.out.le, HX.out.nm, ?_⟩, hB0.out⟩
      rw [HX.out.sum, ← HL.out, hS.out]
end Go.Proofs.Yteiajccjlbghoaa

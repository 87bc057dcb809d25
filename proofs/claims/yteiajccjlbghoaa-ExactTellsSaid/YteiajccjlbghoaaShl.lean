/- package nat's Shl. Conditions: as each theorem names them. -/
import Derived.Test.YteiajccjlbghoaaCarry
import Derived.RegionTactic
import Derived.BigRegion
set_option linter.unusedVariables false
namespace Go.Proofs.Yteiajccjlbghoaa
open Go.RowKit

/-- a word shifted, in two parts -/
theorem shl_parts (x r : Nat) (hx : x < 18446744073709551616) (hr : r < 64) : x * 2 ^ r = x * 2 ^ r % 18446744073709551616 + 18446744073709551616 * (x / 2 ^ (64 - r)) ∧ x / 2 ^ (64 - r) < 2 ^ r := by
  have e : (18446744073709551616 : Nat) = 2 ^ (64 - r) * 2 ^ r := by rw [← Nat.pow_add, show 64 - r + r = 64 by omega]
  constructor
  · have h := Nat.div_add_mod (x * 2 ^ r) 18446744073709551616
    have d : x * 2 ^ r / 18446744073709551616 = x / 2 ^ (64 - r) := by
      rw [e, Nat.mul_div_mul_right _ _ (Nat.two_pow_pos r)]
    rw [d] at h
    omega
  · rw [Nat.div_lt_iff_lt_mul (Nat.two_pow_pos _), Nat.mul_comm, ← e]; exact hx
theorem shl_or (x y r : Nat) (hx : x < 18446744073709551616) (hr : r < 64) (hy : y < 2 ^ r) : bits .or .u64 (y : Int) (IntKind.u64.wrap ((x : Int) * 2 ^ r)) = ((y + x * 2 ^ r % 18446744073709551616 : Nat) : Int) := by
  rw [cast_shl, wrap_u64_mod]
  have e : (18446744073709551616 : Nat) = 2 ^ (64 - r) * 2 ^ r := by rw [← Nat.pow_add, show 64 - r + r = 64 by omega]
  have hm : x * 2 ^ r % 18446744073709551616 = x % 2 ^ (64 - r) * 2 ^ r := by rw [e, Nat.mul_mod_mul_right]
  have hp := Nat.pow_lt_pow_right (a := 2) (by decide) hr
  have h64 : (2 : Nat) ^ 64 = 18446744073709551616 := by decide
  rw [bits_or_u64_nat _ _ (by omega) (Nat.mod_lt _ (by decide)), hm, or_shl' _ _ _ hy, Nat.add_comm]
theorem shl_step {F O : Nat → Nat} {j q k r sh y : Nat} (hk : j + q = k) (hsh : sh = 64 * q + r) (hr : r < 64) (hx : F j < 18446744073709551616) (h : S O k + y * Wd ^ k = S F j * 2 ^ sh) (hO : O k = y + F j * 2 ^ r % 18446744073709551616) :
    S O (k + 1) + F j / 2 ^ (64 - r) * Wd ^ (k + 1) = S F (j + 1) * 2 ^ sh := by
  obtain ⟨e, _⟩ := shl_parts (F j) r hx hr
  rw [S_succ, S_succ, hO, Wp_succ, Nat.add_mul, Nat.add_mul, ← h]
  have p : Wd ^ j * 2 ^ sh = 2 ^ r * Wd ^ k := by
    rw [hsh, ← hk, Nat.pow_add Wd, Nat.pow_add 2, Wp_two q, ← Nat.mul_assoc, Nat.mul_comm]
  rw [Nat.mul_assoc (F j), p, ← Nat.mul_assoc (F j)]
  generalize F j * 2 ^ r % 18446744073709551616 = a at *
  generalize F j / 2 ^ (64 - r) = b at *
  rw [e, Nat.add_mul, Wd_eq, ← Wd_eq]
  have : b * (Wd ^ k * Wd) = Wd * b * Wd ^ k := by
    rw [Nat.mul_comm (Wd ^ k), ← Nat.mul_assoc, Nat.mul_comm b]
  omega

theorem shl_any (A : Option Addr) (n c : Nat) (F : Nat → Nat) (i : Int) (sh : Nat) (w : World) (hA : Rd w A n c F) (hn : n ≤ 1048576) (hsh : min (max i 0) 131072 = (sh : Int)) :
    Calls Try.prog 39 #[.slice A n c, .int .i64 i] w fun e w' => (∃ O k, e = .returned (.slice (some ⟨w.heap.size, 0, none⟩) k k) ∧ Rd w' (some ⟨w.heap.size, 0, none⟩) k k O ∧ Nm k O ∧ S O k = S F n * 2 ^ sh) ∧ Below w.heap.size w w' := by
  have hA' := Lib.hid hA
  have hs1 : sh ≤ 131072 := by omega
  obtain ⟨q, hq⟩ : ∃ q, sh / 64 = q := ⟨_, rfl⟩
  obtain ⟨r, hr⟩ : ∃ r, sh % 64 = r := ⟨_, rfl⟩
  have hr64 : r < 64 := by omega
  obtain ⟨e, he⟩ : ∃ e, 64 - r = e := ⟨_, rfl⟩
  have hqi : (sh : Int) / 64 = (q : Int) := by omega
  have hri : (sh : Int) % 64 = (r : Int) := by omega
  have hei : (64 : Int) - (r : Int) = (e : Int) := by omega
  have he64 : e ≤ 64 := by omega
  have HSH := Lib.hid (show sh = 64 * q + r by omega)
  have HE := Lib.hid he
  have hq17 : q ≤ 2048 := by omega
  clear hA hq hr he
  go_enter Try.func39, Try.ntmps39
  go_wp2_with fail
  with_reducible (refine (trim_any A n c F _ hA'.out).mono ?_)
  rintro e w' ⟨⟨m, hm, rfl⟩, rfl⟩
  have hrd := Lib.hid (hA'.out.cut hm.le)
  have hmn : m ≤ n := hm.le
  have HM := Lib.hid hm
  clear hm
  obtain ⟨L, hL⟩ : ∃ L, m + q + 1 = L := ⟨_, rfl⟩
  have hmk := run_make_row' (P := Try.prog) 23 35 (.int .u64 0) 8 Try.underlying23 infoU rfl .i64 .i64 L (by omega) (by omega)
  have HL := Lib.hid hL
  have hLi : (m : Int) + (q : Int) + 1 = (L : Int) := by omega
  have hLs : L ≤ 1100000 := by omega
  clear hL
  go_wp2_with fail
  go_loopw [23] (fun i wr => ∃ (j : Nat) (O : Nat → Nat), j ≤ m ∧ i = .int .i64 j ∧ Hid (Row wr w.heap.size L O) ∧ Hid (∀ i, i ≤ j + q → O i < Wd) ∧ Hid (O (j + q) < 2 ^ r) ∧ Hid (S O (j + q) + O (j + q) * Wd ^ (j + q) = S F j * 2 ^ sh) ∧ Hid (Below w.heap.size w wr)) (fun i _ => m - (intOf i).toNat)
  case atStart =>
    refine ⟨0, fun _ => 0, Nat.zero_le _, rfl, Lib.hid (Row.made w L), Lib.hid (fun i hi => Wd_pos), Lib.hid (Nat.two_pow_pos r), Lib.hid ?_, Lib.hid ((Below.refl _ _).alloc (Nat.le_refl _) _)⟩
    rw [S_zero, S_zeros (F := fun _ => 0) (Nat.zero_le _) (fun _ _ _ => rfl), S_zero]
    simp
  case round =>
    obtain ⟨j, O, hj, rfl, hrow, hO, hy, hS, hB⟩ := hrel
    by_cases hlt : j < m
    · have u1 : decide (j < m) = true := by simpa using hlt
      obtain ⟨k, hk⟩ : ∃ k, j + q = k := ⟨_, rfl⟩
      have hki : (j : Int) + (q : Int) = (k : Int) := by omega
      have hkL : k + 1 < L := by have := HL.out; omega
      have rA := (hrd.out.below hB.out)
      obtain ⟨ad, rfl, hb, hx⟩ := rA.at_ j hlt
      have hx64 := rA.word' j hlt
      rw [hk] at hO hy hS
      obtain ⟨v1, hv1⟩ : ∃ v1, O k + F j * 2 ^ r % 18446744073709551616 = v1 := ⟨_, rfl⟩
      obtain ⟨v2, hv2⟩ : ∃ v2, F j / 2 ^ e = v2 := ⟨_, rfl⟩
      have hor := shl_or (F j) (O k) r hx64 hr64 hy.out
      rw [hv1] at hor
      have hshr : (F j : Int) / 2 ^ e = (v2 : Int) := by rw [cast_shr, hv2]
      obtain ⟨pe, pl⟩ := shl_parts (F j) r hx64 hr64
      rw [HE.out, hv2] at pe pl
      have hp := Nat.pow_lt_pow_right (a := 2) (by decide) hr64
      have h64 : (2 : Nat) ^ 64 = 18446744073709551616 := by decide
      have hyy := hy.out
      have hv164 : v1 < 18446744073709551616 := by
        have hd : F j * 2 ^ r % 18446744073709551616 = F j % 2 ^ (64 - r) * 2 ^ r := by
          rw [show (18446744073709551616 : Nat) = 2 ^ (64 - r) * 2 ^ r by rw [← Nat.pow_add, show 64 - r + r = 64 by omega], Nat.mul_mod_mul_right]
        have h3 : (F j % 2 ^ (64 - r) + 1) * 2 ^ r ≤ 2 ^ (64 - r) * 2 ^ r := Nat.mul_le_mul_right _ (Nat.mod_lt _ (Nat.two_pow_pos _))
        rw [← Nat.pow_add, show 64 - r + r = 64 by omega, Nat.add_mul, ← hd] at h3
        omega
      have hv264 : v2 < 18446744073709551616 := by omega
      have hst := shl_step (O := upd O k v1) hk HSH.out hr64 hx64 (by rw [upd_S _ _ _ _ (Nat.le_refl _)]; exact hS.out) (by rw [upd_at, ← hv1])
      rw [HE.out, hv2] at hst
      have HST := Lib.hid hst
      have HPL := Lib.hid pl
      have hc1 := hrow.out.at_ k (by omega)
      have hf1 := hrow.out.free k
      have hc2 := hrow.out.at_ (k + 1) (by omega)
      have hf2 := hrow.out.free (k + 1)
      have hO64 : O k < 18446744073709551616 := hO.out k (Nat.le_refl _)
      have HV1 := Lib.hid hv1
      have HK := Lib.hid hk
      clear hst pe pl hp hyy hv1 hv2 hk rA h64
      go_wp2_with fail
      go_region
      go_wp2_with fail
      go_roundw
      case rel =>
        have hk := HK.out
        have e1 : j + 1 + q = k + 1 := by omega
        refine ⟨j + 1, upd (upd O k v1) (k + 1) v2, by omega, by go_num, Lib.hid ?_, Lib.hid (fun i hi => ?_), Lib.hid ?_, Lib.hid ?_, Lib.hid ?_⟩
        · exact (hrow.out.set k v1).set (k + 1) v2
        · rw [e1] at hi
          by_cases h1 : i = k + 1
          · rw [h1, upd_at]; exact hv264
          · rw [upd_ne _ _ h1]
            by_cases h2 : i = k
            · rw [h2, upd_at]; exact hv164
            · rw [upd_ne _ _ h2]; exact hO.out i (by omega)
        · rw [e1, upd_at]; exact HPL.out
        · rw [e1, upd_at, upd_S _ _ _ _ (Nat.le_refl _)]; exact HST.out
        · exact ((hB.out.setCell (by simp) _).setCell (by simp) _).drew
      case measure => simp [intOf]; omega
    · obtain rfl : j = m := by omega
      have u1 : decide (j < j) = false := by simp
      have hl := HL.out
      have hO' : ∀ i, i < L → O i < Wd := fun i hi => hO.out i (by omega)
      have hr := hrow.out.rd (by omega) hO'
      have HRR := Lib.hid hr
      have HO := Lib.hid hO'
      clear hr hO' hl
      go_wp2_with fail
      with_reducible (refine (trim_any _ L L O _ HRR.out).mono ?_)
      rintro e w' ⟨⟨x, hx, rfl⟩, rfl⟩
      have HX := Lib.hid hx
      clear hx
      go_wp2_with fail
      go_ret
      refine ⟨⟨O, x, rfl, HRR.out.cut HX.out.le, HX.out.nm, ?_⟩, hB.out⟩
      rw [HX.out.sum, ← HL.out, S_succ, hS.out, HM.out.sum]
end Go.Proofs.Yteiajccjlbghoaa

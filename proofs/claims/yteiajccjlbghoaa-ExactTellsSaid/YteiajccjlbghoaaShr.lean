/- package nat's Shr. Conditions: as each theorem names them. -/
import Derived.Test.YteiajccjlbghoaaShl
set_option linter.unusedVariables false
namespace Go.Proofs.Yteiajccjlbghoaa
open Go.RowKit

/-- a word of what is shifted down -/
theorem shr_or (x y r e : Nat) (hx : x < 18446744073709551616) (hy : y < 18446744073709551616) (hr : r < 64) (he : 64 - r = e) : bits .or .u64 ((x : Int) / 2 ^ r) (IntKind.u64.wrap ((y : Int) * 2 ^ e)) = ((x / 2 ^ r + y % 2 ^ r * 2 ^ e : Nat) : Int) ∧ x / 2 ^ r + y % 2 ^ r * 2 ^ e < 18446744073709551616 := by
  have e1 : (18446744073709551616 : Nat) = 2 ^ r * 2 ^ e := by rw [← Nat.pow_add, ← he, show r + (64 - r) = 64 by omega]
  have hm : y * 2 ^ e % 18446744073709551616 = y % 2 ^ r * 2 ^ e := by rw [e1, Nat.mul_mod_mul_right]
  have hd : x / 2 ^ r < 2 ^ e := by rw [Nat.div_lt_iff_lt_mul (Nat.two_pow_pos _), Nat.mul_comm, ← e1]; exact hx
  have hx2 : x / 2 ^ r < 18446744073709551616 := Nat.lt_of_le_of_lt (Nat.div_le_self _ _) hx
  have hl : y % 2 ^ r * 2 ^ e < 18446744073709551616 := by rw [← hm]; exact Nat.mod_lt _ (by decide)
  constructor
  · rw [cast_shr, cast_shl, wrap_u64_mod, hm, bits_or_u64_nat _ _ hx2 hl, or_shl' _ _ _ hd, Nat.add_comm]
  · have h3 : (y % 2 ^ r + 1) * 2 ^ e ≤ 2 ^ r * 2 ^ e := Nat.mul_le_mul_right _ (Nat.mod_lt _ (Nat.two_pow_pos _))
    rw [← e1, Nat.add_mul] at h3
    omega
theorem shr_step {G O : Nat → Nat} {j r e : Nat} (hr : r < 64) (he : 64 - r = e) (h : S O j * 2 ^ r + G 0 % 2 ^ r = S G j + G j % 2 ^ r * Wd ^ j) (hO : O j = G j / 2 ^ r + G (j + 1) % 2 ^ r * 2 ^ e) :
    S O (j + 1) * 2 ^ r + G 0 % 2 ^ r = S G (j + 1) + G (j + 1) % 2 ^ r * Wd ^ (j + 1) := by
  rw [S_succ, S_succ, hO, Nat.add_mul, Wp_succ]
  have e1 : 2 ^ e * 2 ^ r = Wd := by rw [← Nat.pow_add, ← he, show 64 - r + r = 64 by omega]; exact Wd_pow.symm
  have e2 := Nat.div_add_mod (G j) (2 ^ r)
  have e3 : (G j / 2 ^ r + G (j + 1) % 2 ^ r * 2 ^ e) * Wd ^ j * 2 ^ r = (2 ^ r * (G j / 2 ^ r)) * Wd ^ j + G (j + 1) % 2 ^ r * (Wd ^ j * Wd) := by
    rw [Nat.add_mul, Nat.add_mul, Nat.mul_right_comm, Nat.mul_comm (2 ^ r)]
    congr 1
    rw [Nat.mul_right_comm, Nat.mul_assoc _ (2 ^ e), e1, Nat.mul_assoc, Nat.mul_comm Wd]
  rw [e3]
  have e4 : G j * Wd ^ j = (2 ^ r * (G j / 2 ^ r)) * Wd ^ j + G j % 2 ^ r * Wd ^ j := by rw [← Nat.add_mul, e2]
  omega
theorem shr_sum {F G : Nat → Nat} {n q r sh : Nat} (hF : ∀ i, i < n → F i < Wd) (hG : ∀ i, G i = ext n F (i + q)) (hsh : sh = 64 * q + r) : S F n / 2 ^ sh = S G (n - q) / 2 ^ r := by
  rw [hsh, Nat.pow_add, ← Wp_two, ← Nat.div_div_eq_div_mul]
  congr 1
  rcases Nat.lt_or_ge n q with h | h
  · rw [show n - q = 0 by omega, S_zero]
    apply Nat.div_eq_of_lt
    have := S_lt hF
    have h2 : Wd ^ n ≤ Wd ^ q := Nat.pow_le_pow_right Wd_pos (by omega)
    omega
  · have e := S_split F q (n - q)
    rw [show q + (n - q) = n by omega] at e
    rw [e, Nat.add_comm, Nat.mul_add_div (Wp_pos q), Nat.div_eq_of_lt (S_lt fun i hi => hF i (by omega)), Nat.add_zero]
    exact S_congr fun i hi => by rw [hG, Nat.add_comm]; exact (if_pos (by omega)).symm

theorem shr_any (A : Option Addr) (n c : Nat) (F : Nat → Nat) (i : Int) (sh : Nat) (w : World) (hA : Rd w A n c F) (hn : n ≤ 1048576) (hsh : min (max i 0) 131072 = (sh : Int)) :
    Calls Try.prog 58 #[.slice A n c, .int .i64 i] w fun e w' => (∃ O k, e = .returned (.slice (some ⟨w.heap.size, 0, none⟩) k k) ∧ Rd w' (some ⟨w.heap.size, 0, none⟩) k k O ∧ Nm k O ∧ S O k = S F n / 2 ^ sh) ∧ Below w.heap.size w w' := by
  have hA' := Lib.hid hA
  have hs1 : sh ≤ 131072 := by omega
  obtain ⟨q, hq⟩ : ∃ q, sh / 64 = q := ⟨_, rfl⟩
  obtain ⟨r, hr⟩ : ∃ r, sh % 64 = r := ⟨_, rfl⟩
  have hr64 : r < 64 := by omega
  obtain ⟨e, he⟩ : ∃ e, 64 - r = e := ⟨_, rfl⟩
  have hqi : (sh : Int) / 64 = (q : Int) := by omega
  have hri : (sh : Int) % 64 = (r : Int) := by omega
  have hei : (64 : Int) - (r : Int) = (e : Int) := by omega
  have he64 : e ≤ 64 := by omega
  have HSH := Lib.hid (show sh = 64 * q + r by omega)
  have HE := Lib.hid he
  have hq17 : q ≤ 2048 := by omega
  obtain ⟨L, hL⟩ : ∃ L, n - q = L := ⟨_, rfl⟩
  have hLi : max 0 ((n : Int) - (q : Int)) = (L : Int) := by omega
  have hLs : L ≤ 1048576 := by omega
  have hmk := run_make_row' (P := Try.prog) 23 35 (.int .u64 0) 8 Try.underlying23 infoU rfl .i64 .i64 L (by omega) (by omega)
  have HL := Lib.hid hL
  obtain ⟨G, hG⟩ : ∃ G : Nat → Nat, ∀ i, G i = ext n F (i + q) := ⟨fun i => ext n F (i + q), fun _ => rfl⟩
  have HG := Lib.hid hG
  clear hA hq hr he hL hG
  go_enter Try.func58, Try.ntmps58
  go_wp2_with fail
  go_loopw [20] (fun i wr => ∃ (j : Nat) (O : Nat → Nat), j ≤ L ∧ i = .int .i64 j ∧ Hid (Row wr w.heap.size L O) ∧ Hid (∀ i, i < j → O i < Wd) ∧ Hid (S O j * 2 ^ r + G 0 % 2 ^ r = S G j + G j % 2 ^ r * Wd ^ j) ∧ Hid (Below w.heap.size w wr)) (fun i _ => L - (intOf i).toNat)
  case atStart =>
    refine ⟨0, fun _ => 0, Nat.zero_le _, rfl, Lib.hid (Row.made w L), Lib.hid (fun i hi => absurd hi (Nat.not_lt_zero _)), Lib.hid ?_, Lib.hid ((Below.refl _ _).alloc (Nat.le_refl _) _)⟩
    rw [S_zero, S_zero]
    simp
  case round =>
    obtain ⟨j, O, hj, rfl, hrow, hO, hS, hB⟩ := hrel
    by_cases hlt : j < L
    · have u1 : decide (j < L) = true := by simpa using hlt
      obtain ⟨k, hk⟩ : ∃ k, j + q = k := ⟨_, rfl⟩
      have hki : (j : Int) + (q : Int) = (k : Int) := by omega
      have hkn : k < n := by have := HL.out; omega
      have rA := (hA'.out.below hB.out)
      obtain ⟨ad, rfl, hb, hx⟩ := rA.at_ k hkn
      have hx64 := rA.word' k hkn
      have hn' := hn
      have hk1 : IntKind.i64.wrap ((k : Int) + 1) = ((k + 1 : Nat) : Int) := by rw [IntWalk.i64_in _ (by omega)]; rfl
      have he1 : IntKind.i64.wrap (e : Int) = (e : Int) := IntWalk.i64_in _ (by omega)
      have htm : ((sh : Int)).tmod 64 = (r : Int) := by rw [Int.tmod_eq_emod_of_nonneg (by omega)]; exact hri
      have a1 := Lib.hid (fun w' (h : Rd w' (some ad) n c F) => at_ext (some ad) n c F (k + 1) w' h)
      have hy64 := ext_lt hA'.out (k + 1)
      have g0 : G j = F k := by rw [HG.out, hk]; exact if_pos hkn
      have g1 : G (j + 1) = ext n F (k + 1) := by rw [HG.out]; congr 1; omega
      obtain ⟨y, hyy⟩ : ∃ y, ext n F (k + 1) = y := ⟨_, rfl⟩
      rw [hyy] at a1 hy64 g1
      obtain ⟨v, hv⟩ : ∃ v, F k / 2 ^ r + y % 2 ^ r * 2 ^ e = v := ⟨_, rfl⟩
      obtain ⟨hor, hv64⟩ := shr_or (F k) y r e hx64 hy64 hr64 HE.out
      rw [hv] at hor hv64
      have hst := shr_step (O := upd O j v) (G := G) hr64 HE.out (by rw [upd_S _ _ _ _ (Nat.le_refl _)]; exact hS.out) (by rw [upd_at, g0, g1, hv])
      have HST := Lib.hid hst
      have hc1 := hrow.out.at_ j hlt
      have hf1 := hrow.out.free j
      have RA := Lib.hid rA
      clear hst hv hk rA g0 g1 hyy
      go_wp2_with fail
      go_still_tail 19, (by kernel_rfl)
      still_call (((a1.out _ (show Rd wr.drew (some ad) n c F from RA.out)).mono (fun _ _ h => ⟨h.1, h.2.symm⟩)))
      repeat still_step
      refine wpStill_nil ?_
      change wpList _ _ _ _ _ wr.drew
      go_wp2_with fail
      go_roundw
      case rel =>
        refine ⟨j + 1, upd O j v, by omega, by go_num, Lib.hid ?_, Lib.hid (fun i hi => ?_), HST, Lib.hid ?_⟩
        · exact hrow.out.set j v
        · by_cases h1 : i = j
          · rw [h1, upd_at]; exact hv64
          · rw [upd_ne _ _ h1]; exact hO.out i (by omega)
        · exact (hB.out.setCell (by simp) _).drew
      case measure => simp [intOf]; omega
    · obtain rfl : j = L := by omega
      have u1 : decide (j < j) = false := by simp
      have hr := hrow.out.rd (by omega) hO.out
      have HRR := Lib.hid hr
      clear hr
      go_wp2_with fail
      with_reducible (refine (trim_any _ j j O _ HRR.out).mono ?_)
      rintro e w' ⟨⟨x, hx, rfl⟩, rfl⟩
      have HX := Lib.hid hx
      clear hx
      go_wp2_with fail
      go_ret
      refine ⟨⟨O, x, rfl, HRR.out.cut HX.out.le, HX.out.nm, ?_⟩, hB.out⟩
      have hl := HL.out
      have g0 : G j = 0 := by rw [HG.out]; exact if_neg (by omega)
      have hs := hS.out
      rw [g0, Nat.zero_mod, Nat.zero_mul, Nat.add_zero] at hs
      have hsum := shr_sum hA'.out.word HG.out HSH.out
      rw [HX.out.sum, hsum, hl, ← hs, Nat.add_comm, Nat.mul_comm, Nat.add_mul_div_left _ _ (Nat.two_pow_pos r), Nat.div_eq_of_lt (Nat.mod_lt _ (Nat.two_pow_pos r)), Nat.zero_add]
end Go.Proofs.Yteiajccjlbghoaa

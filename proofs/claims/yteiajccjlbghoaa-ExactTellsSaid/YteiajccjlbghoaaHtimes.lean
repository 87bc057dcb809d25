/- package caliperref01's Times. Conditions: as each theorem names them. -/
import Derived.Test.YteiajccjlbghoaaHup
set_option linter.unusedVariables false
namespace Go.Proofs.Yteiajccjlbghoaa
open Go.RowKit

theorem times_word {x y o c t : Nat} (hx : x < 4294967296) (hy : y < 4294967296) (ho : o < 4294967296) (hc : c < 4294967296) (ht : x * y + o + c = t) : t < 18446744073709551616 ∧ x * y < 18446744073709551616 := by
  have h : x * y ≤ 4294967295 * 4294967295 := Nat.mul_le_mul (by omega) (by omega)
  omega
theorem times_inner {G O P : Nat → Nat} {i k x carry carry1 s : Nat} (hw : x * G k + O (i + k) + carry = s + carry1 * 4294967296) (h : T P (i + k) + carry * Hd ^ (i + k) = T O (i + k) + x * T G k * Hd ^ i) :
    T (upd P (i + k) s) (i + (k + 1)) + carry1 * Hd ^ (i + (k + 1)) = T O (i + (k + 1)) + x * T G (k + 1) * Hd ^ i := by
  have e1 : (x * G k + O (i + k) + carry) * Hd ^ (i + k) = (s + carry1 * Hd) * Hd ^ (i + k) := by rw [hw]; rfl
  rw [← Nat.add_assoc, T_succ, T_succ, T_succ, upd_at, upd_T _ _ _ _ (Nat.le_refl _), Hp_succ, Nat.mul_add, Nat.add_mul (x * T G k)]
  have e2 : carry1 * (Hd ^ (i + k) * Hd) = carry1 * Hd * Hd ^ (i + k) := by
    rw [Nat.mul_comm (Hd ^ (i + k)), ← Nat.mul_assoc]
  have e3 : x * (G k * Hd ^ k) * Hd ^ i = x * G k * Hd ^ (i + k) := by
    rw [Nat.pow_add, ← Nat.mul_assoc x, Nat.mul_assoc (x * G k), Nat.mul_comm (Hd ^ k)]
  rw [e2, e3]
  simp only [Nat.add_mul] at e1
  omega

theorem times_any (A B : Option Addr) (n c m d : Nat) (F G : Nat → Nat) (w : World) (hA : Rd w A n c F) (hB : Rd w B m d G) (hF : ∀ i, i < n → F i < Hd) (hG : ∀ i, i < m → G i < Hd) (hn : n ≤ 2097152) (hm : m ≤ 2097152) :
    Calls Try.prog 46 #[.slice A n c, .slice B m d] w fun e w' => (∃ r, e = .returned r ∧ IsH w' r (T F n * T G m)) ∧ Below w.heap.size w w' := by
  obtain ⟨L, hL⟩ : ∃ L, n + m + 1 = L := ⟨_, rfl⟩
  have hmk := run_make_row' (P := Try.prog) 22 35 (.int .u64 0) 8 Try.underlying22 infoU rfl .i64 .i64 L (by omega) (by omega)
  have hA' := Lib.hid hA
  have hB' := Lib.hid hB
  have HF := Lib.hid hF
  have HG := Lib.hid hG
  have HL := Lib.hid hL
  have hLi : (n : Int) + (m : Int) + 1 = (L : Int) := by omega
  have hLs : L ≤ 4194305 := by omega
  clear hA hB hL hF hG
  go_enter Try.func46, Try.ntmps46
  go_wp2_with fail
  go_loopw [6] (fun i wr => ∃ (j : Nat) (O : Nat → Nat), j ≤ n ∧ i = .int .i64 j ∧ Hid (Row wr w.heap.size L O) ∧ Hid (∀ i, O i < Hd) ∧ Hid (∀ i, j + m ≤ i → O i = 0) ∧ Hid (T O (j + m) = T F j * T G m) ∧ Hid (Below w.heap.size w wr)) (fun i _ => n - (intOf i).toNat)
  case atStart =>
    refine ⟨0, fun _ => 0, Nat.zero_le _, rfl, Lib.hid (Row.made w L), Lib.hid (fun i => Hd_pos), Lib.hid (fun i _ => rfl), Lib.hid ?_, Lib.hid ((Below.refl _ _).alloc (Nat.le_refl _) _)⟩
    rw [T_zeros (F := fun _ => 0) (Nat.zero_le _) (fun _ _ _ => rfl), T_zero, T_zero, Nat.zero_mul]
  case round =>
    obtain ⟨j, O, hj, rfl, hrow, hO, hz, hS, hB0⟩ := hrel
    by_cases hlt : j < n
    · have u1 : decide (j < n) = true := by simpa using hlt
      have hx64 : F j < 4294967296 := HF.out j hlt
      obtain ⟨x, hxe⟩ : ∃ x, F j = x := ⟨_, rfl⟩
      have HX := Lib.hid hxe
      have HJ := Lib.hid hlt
      rw [hxe] at hx64
      clear hxe
      go_wp2_with fail
      go_loopw [7, 8] (fun cr i wr => ∃ (k carry : Nat) (P : Nat → Nat), k ≤ m + 1 ∧ cr = .int .u64 carry ∧ i = .int .i64 k ∧ carry < 4294967296 ∧ Hid (m < k → carry = 0) ∧ Hid (Row wr w.heap.size L P) ∧ Hid (∀ i, P i < Hd) ∧ Hid (∀ i, j + k ≤ i → P i = O i) ∧ Hid (T P (j + k) + carry * Hd ^ (j + k) = T O (j + k) + x * T (ext m G) k * Hd ^ j) ∧ Hid (Below w.heap.size w wr)) (fun _ i _ => m + 1 - (intOf i).toNat)
      case atStart =>
        exact ⟨0, 0, O, Nat.zero_le _, rfl, rfl, by decide, Lib.hid (fun _ => rfl), hrow, hO, Lib.hid (fun _ _ => rfl), Lib.hid (by simp [T_zero]), hB0⟩
      case round =>
        obtain ⟨k, carry, P, hk, rfl, rfl, hcar, hc0, hrow2, hP, hPO, hS2, hB2⟩ := hrel
        by_cases hgo : k < m ∨ 0 < carry
        · have hkm : k ≤ m := by
            rcases Nat.lt_or_ge m k with h | h
            · have := hc0.out h; omega
            · exact h
          have rA := (hA'.out.below hB2.out)
          obtain ⟨ad, rfl, hb, hcx⟩ := rA.at_ j hlt
          rw [HX.out] at hcx
          have a2 := Lib.hid (fun w' (h : Rd w' B m d G) => get_any B m d G k w' h)
          have rB := Lib.hid (hB'.out.below hB2.out)
          have hy64 := ext_h HG.out k
          obtain ⟨t, ht⟩ : ∃ t, j + k = t := ⟨_, rfl⟩
          have hti : (j : Int) + (k : Int) = (t : Int) := by omega
          have ho64 : P t < 4294967296 := hP.out t
          have hPe := hPO.out t (by omega)
          have htL : t < L := by have := HL.out; omega
          have hc1 := hrow2.out.at_ t htL
          have hf1 := hrow2.out.free t
          have hgt := hrow2.out.lt
          obtain ⟨v, hv⟩ : ∃ v, x * ext m G k + P t + carry = v := ⟨_, rfl⟩
          obtain ⟨s, hs⟩ : ∃ s, v % 4294967296 = s := ⟨_, rfl⟩
          obtain ⟨c1, hc1'⟩ : ∃ c1, v / 4294967296 = c1 := ⟨_, rfl⟩
          obtain ⟨hv64, hxy⟩ := times_word hx64 hy64 ho64 hcar hv
          have hst := times_inner (G := ext m G) (O := O) (P := P) (i := j) (k := k) (x := x) (carry := carry) (carry1 := c1) (s := s) (by rw [ht, ← hPe, hv]; omega) hS2.out
          have hcl : m < k + 1 → c1 = 0 := by
            intro h
            rw [ext_out G (show m ≤ k by omega), hPe, hz.out t (by omega), Nat.mul_zero] at hv
            omega
          rw [ht] at hst
          have HST := Lib.hid (And.intro hst hcl)
          obtain ⟨o, hoe⟩ : ∃ o, P t = o := ⟨_, rfl⟩
          rw [hoe] at hc1 ho64 hv
          generalize ext m G k = y at a2 hy64 hv hxy
          obtain ⟨p, hp⟩ : ∃ p, x * y = p := ⟨_, rfl⟩
          rw [hp] at hv hxy
          have hpi : (x : Int) * (y : Int) = (p : Int) := by rw [← hp]; simp
          have hvi : (p : Int) + (o : Int) + (carry : Int) = (v : Int) := by omega
          have hsi : (v : Int) % 4294967296 = (s : Int) := by omega
          have hci : (v : Int) / 4294967296 = (c1 : Int) := by omega
          have hs64 : s < 4294967296 := by omega
          have hcl64 : c1 < 4294967296 := by omega
          have hpo : p + o ≤ v := by omega
          have hpoi : (p : Int) + (o : Int) ≤ (v : Int) := by omega
          have HT := Lib.hid ht
          have HN := Lib.hid (And.intro hs64 hkm)
          clear hst hcl hv hs hc1' hoe hPe ht hp rA
          rcases (show k < m ∨ (¬ k < m ∧ 0 < carry) from by omega) with h1 | ⟨h1, h2⟩
          · have u1 : decide (k < m) = true := decide_eq_true h1
            clear hgo h1
            go_wp2_with fail
            go_quiet ((go_at_call 69; exact Calls.quiet_of_same ((a2.out _ (rB.out.drewN _)).mono (fun _ _ h => ⟨h.1, h.2.symm⟩))))
            have hrow3 := Lib.hid (hrow2.out.drewN nq)
            have hB3 := Lib.hid (bdrewN hB2.out nq)
            go_wp2_with fail
            go_roundw
            case rel =>
              have ht := HT.out
              refine ⟨k + 1, c1, upd P t s, by have := HN.out.2; omega, by go_num, by go_num, hcl64, Lib.hid HST.out.2, Lib.hid (hrow3.out.set t s), Lib.hid (fun i => ?_), Lib.hid (fun i hi => ?_), Lib.hid HST.out.1, Lib.hid (hB3.out.setCell (by simp) _)⟩
              · by_cases h1 : i = t
                · rw [h1, upd_at]; exact HN.out.1
                · rw [upd_ne _ _ h1]; exact hP.out i
              · rw [upd_ne _ _ (by omega)]; exact hPO.out i (by omega)
            case measure => have := HN.out.2; simp [intOf]; omega
          · have u1 : decide (k < m) = false := decide_eq_false h1
            have u2 : decide ((0 : Int) < (carry : Int)) = true := decide_eq_true (by omega)
            have u2' : decide (0 < carry) = true := decide_eq_true h2
            clear hgo h1 h2
            go_wp2_with fail
            go_quiet ((go_at_call 69; exact Calls.quiet_of_same ((a2.out _ (rB.out.drewN _)).mono (fun _ _ h => ⟨h.1, h.2.symm⟩))))
            have hrow3 := Lib.hid (hrow2.out.drewN nq)
            have hB3 := Lib.hid (bdrewN hB2.out nq)
            go_wp2_with fail
            go_roundw
            case rel =>
              have ht := HT.out
              refine ⟨k + 1, c1, upd P t s, by have := HN.out.2; omega, by go_num, by go_num, hcl64, Lib.hid HST.out.2, Lib.hid (hrow3.out.set t s), Lib.hid (fun i => ?_), Lib.hid (fun i hi => ?_), Lib.hid HST.out.1, Lib.hid (hB3.out.setCell (by simp) _)⟩
              · by_cases h1 : i = t
                · rw [h1, upd_at]; exact HN.out.1
                · rw [upd_ne _ _ h1]; exact hP.out i
              · rw [upd_ne _ _ (by omega)]; exact hPO.out i (by omega)
            case measure => have := HN.out.2; simp [intOf]; omega
        · have hex : carry = 0 ∧ ¬ k < m := by omega
          obtain ⟨rfl, h1⟩ := hex
          have u1 : decide (k < m) = false := decide_eq_false h1
          have u2 : decide ((0 : Int) < ((0 : Nat) : Int)) = false := by decide
          have HK := Lib.hid (And.intro h1 hk)
          clear h1 hgo
          go_wp2_with fail
          go_roundw
          case rel =>
            obtain ⟨h1, h2⟩ := HK.out
            have h3 := HJ.out
            refine ⟨j + 1, P, by omega, by go_num, hrow2, hP, Lib.hid (fun i hi => ?_), Lib.hid ?_, hB2⟩
            · rw [hPO.out i (by omega)]; exact hz.out i (by omega)
            · have e1 := hS2.out
              rw [T_ext G (by omega), Nat.zero_mul, Nat.add_zero] at e1
              have e2 : T P (j + 1 + m) = T P (j + k) := T_zeros (by omega) (fun i h4 h5 => by rw [hPO.out i h4]; exact hz.out i (by omega))
              have e3 : T O (j + k) = T O (j + m) := T_zeros (by omega) (fun i h4 h5 => hz.out i h4)
              rw [e2, e1, e3, hS.out, T_succ, HX.out, Nat.add_mul, Nat.mul_right_comm]
          case measure => have := HJ.out; simp [intOf]; omega
    · obtain rfl : j = n := by omega
      have u1 : decide (j < j) = false := by simp
      have hr := hrow.out.rd (by omega) (fun i _ => Nat.lt_trans (hO.out i) (by decide))
      have HRR := Lib.hid hr
      clear hr
      go_wp2_with fail
      with_reducible (refine (rtrim_any _ L L O _ HRR.out).mono ?_)
      rintro e w' ⟨⟨x, hx, rfl⟩, rfl⟩
      have HX := Lib.hid hx
      clear hx
      go_wp2_with fail
      go_ret
      refine ⟨⟨_, rfl, trimH HRR.out (fun i _ => hO.out i) HX.out ?_⟩, hB0.out⟩
      rw [← hS.out, ← HL.out]
      exact T_zeros (by omega) (fun i h1 h2 => hz.out i h1)
theorem times_H (u v : Value) (M N a b : Nat) (w : World) (hu : IsH w u M) (hv : IsH w v N) (hM : M < 2 ^ a) (hN : N < 2 ^ b) (ha : a ≤ 1048576) (hb : b ≤ 1048576) :
    Calls Try.prog 46 #[u, v] w fun e w' => (∃ r, e = .returned r ∧ IsH w' r (M * N)) ∧ Below w.heap.size w w' := by
  obtain ⟨A, n, c, F, rfl, hA, hF, hn, rfl⟩ := hu
  obtain ⟨B, m, d, G, rfl, hB, hG, hm, rfl⟩ := hv
  have h1 := len_of_half hn rfl hM ha
  have h2 := len_of_half hm rfl hN hb
  exact times_any A B n c m d F G w hA hB hF hG (by omega) (by omega)
end Go.Proofs.Yteiajccjlbghoaa

/- package caliperref01's Minus. Conditions: as each theorem names them. -/
import Derived.Test.YteiajccjlbghoaaHplus
set_option linter.unusedVariables false
namespace Go.Proofs.Yteiajccjlbghoaa
open Go.RowKit

theorem minus_step {F G O : Nat → Nat} {j k k' s : Nat} (e : s + G j + k = F j + k' * 4294967296) (h : T O j + T G j = T F j + k * Hd ^ j) :
    T (upd O j s) (j + 1) + T G (j + 1) = T F (j + 1) + k' * Hd ^ (j + 1) := by
  rw [T_succ, T_succ, T_succ, upd_at, upd_T _ _ _ _ (Nat.le_refl _), Hp_succ, Nat.mul_left_comm, Nat.mul_comm (Hd ^ j) _]
  have : (s + G j + k) * Hd ^ j = (F j + k' * Hd) * Hd ^ j := by rw [e]; rfl
  simp only [Nat.add_mul] at this
  omega

theorem minus_any (A B : Option Addr) (n c m d : Nat) (F G : Nat → Nat) (w : World) (hA : Rd w A n c F) (hB : Rd w B m d G) (hF : ∀ i, i < n → F i < Hd) (hG : ∀ i, i < m → G i < Hd) (hn : n ≤ 2097152) (hm : m ≤ n) (hle : T G m ≤ T F n) :
    Calls Try.prog 68 #[.slice A n c, .slice B m d] w fun e w' => (∃ r, e = .returned r ∧ IsH w' r (T F n - T G m) ∧ Lies w.heap.size r) ∧ Below w.heap.size w w' := by
  obtain ⟨i0, hi, hz0, hz1, hz2⟩ := info_parts infoU
  have HI := Lib.hid (And.intro hi (And.intro hz0 (And.intro hz1 hz2)))
  have HA := Lib.hid hA
  have HB := Lib.hid hB
  have HF := Lib.hid hF
  have HG := Lib.hid hG
  have HL := Lib.hid (And.intro hm hle)
  clear hA hB hF hG hi hz0 hz1 hz2 hm hle
  go_enter Try.func68, Try.ntmps68
  go_wp2_with fail
  go_loopw [5, 6, 7] (fun v cr i wr => ∃ (j k : Nat) (O : Nat → Nat) (V : Value), V = v ∧ j ≤ n ∧ cr = .int .u64 k ∧ i = .int .i64 j ∧ k ≤ 1 ∧ Hid (OwnU wr w.heap.size V j O) ∧ Hid (∀ i, i < j → O i < Hd) ∧ Hid (T O j + T (ext m G) j = T (ext n F) j + k * Hd ^ j) ∧ Hid (Below w.heap.size w wr)) (fun _ _ i _ => n - (intOf i).toNat)
  case atStart => exact ⟨0, 0, fun _ => 0, _, rfl, Nat.zero_le _, rfl, rfl, by decide, Lib.hid (own_start w _), Lib.hid (fun i hi => absurd hi (Nat.not_lt_zero _)), Lib.hid (by simp [T_zero]), Lib.hid ((Below.refl _ _).alloc (Nat.le_refl _) _)⟩
  case round =>
    obtain ⟨j, k, O, v, rfl, hj, rfl, rfl, hk, hown, hO, hS, hBel⟩ := hrel
    by_cases hgo : j < n
    · have u1 : decide (j < n) = true := decide_eq_true hgo
      have a1 := Lib.hid (fun w' (h : Rd w' A n c F) => get_any A n c F j w' h)
      have a2 := Lib.hid (fun w' (h : Rd w' B m d G) => get_any B m d G j w' h)
      have rA := Lib.hid (HA.out.below hBel.out)
      have rB := Lib.hid (HB.out.below hBel.out)
      have hx := ext_h HF.out j
      have hy := ext_h HG.out j
      obtain ⟨t, ht⟩ : ∃ t, ext n F j + 4294967296 - ext m G j - k = t := ⟨_, rfl⟩
      obtain ⟨s, hs⟩ : ∃ s, t % 4294967296 = s := ⟨_, rfl⟩
      obtain ⟨p, hp⟩ : ∃ p, t / 4294967296 = p := ⟨_, rfl⟩
      obtain ⟨k', hk'⟩ : ∃ k', 1 - p = k' := ⟨_, rfl⟩
      have hst := minus_step (F := ext n F) (G := ext m G) (O := O) (j := j) (k := k) (s := s) (k' := k') (by omega) hS.out
      have HST := Lib.hid hst
      generalize ext n F j = x at a1 hx ht
      generalize ext m G j = y at a2 hy ht
      have hti : (x : Int) + 4294967296 - (y : Int) - (k : Int) = (t : Int) := by omega
      have hsi : (t : Int) % 4294967296 = (s : Int) := by omega
      have hpi : (t : Int) / 4294967296 = (p : Int) := by omega
      have hp1 : p ≤ 1 := by omega
      have hki : 1 - (p : Int) = (k' : Int) := by omega
      have hs64 : s < 4294967296 := by omega
      have hk1 : k' ≤ 1 := by omega
      have HOW := Lib.hid (World.ownsRow.alloc hown.out (.cells #[.int .u64 s] 35))
      have HBS := Lib.hid (show w.heap.size ≤ (wr.alloc (.cells #[.int .u64 s] 35)).heap.size from by have := hBel.out.size; simp; omega)
      have HN := Lib.hid (And.intro hs64 hgo)
      clear hst ht hs hk' hp hgo
      go_wp2_with fail
      with_reducible (refine (a1.out _ rA.out).mono ?_)
      rintro e w' ⟨rfl, rfl⟩
      go_wp2_with fail
      with_reducible (refine (a2.out _ rB.out).mono ?_)
      rintro e w' ⟨rfl, rfl⟩
      go_wp2_with (at_builtin; refine wpList_append_own_at (_ : World) rfl (.tmp 26) (.tmp 29) 22 rfl w.heap.size 35 i0 (.int .u64 0) 1 8 Try.underlying22 HI.out.1 HI.out.2.1 HI.out.2.2.1 HI.out.2.2.2 rfl (by decide) _ j (cellsF j O) rfl HOW.out ⟨_, 0, none⟩ 1 1 [.int .u64 s] rfl rfl (one_news _ s) (one_cell s) (by unfold maxLen; omega) (by omega) HBS.out ?_)
      intro v' w1 hown' hgrow _ _
      have HP := Lib.hid (own_push (Nat.le_refl _) hown.out hBel.out hown' hgrow)
      clear hown' hgrow hown hBel
      go_wp2_with fail
      go_roundw
      case rel => exact ⟨j + 1, k', upd O j s, _, rfl, HN.out.2, rfl, by go_num, hk1, Lib.hid HP.out.1, Lib.hid (upd_h hO.out HN.out.1), Lib.hid HST.out, Lib.hid HP.out.2⟩
      case measure => have := HN.out.2; simp [intOf]; omega
    · obtain rfl : j = n := by omega
      have u1 : decide (j < j) = false := by simp
      have hsum : T O j = T F j - T G m := by
        have e1 := hS.out
        rw [T_ext F (Nat.le_refl _), T_ext G HL.out.1] at e1
        have e2 := T_lt hO.out
        have e3 := HL.out.2
        rcases k with _ | k
        · omega
        · obtain rfl : k = 0 := by omega
          rw [show (0 + 1) * Hd ^ j = Hd ^ j by rw [Nat.zero_add, Nat.one_mul]] at e1
          omega
      obtain ⟨A', c', rfl, hr, hf⟩ := own_rdF hown.out (by omega) hO.out
      have HFF := Lib.hid hf
      have HR := Lib.hid hr
      have HSM := Lib.hid hsum
      clear hr hgo hsum hf
      go_wp2_with fail
      with_reducible (refine (rtrim_any _ j c' O _ HR.out).mono ?_)
      rintro e w' ⟨⟨x, hx, rfl⟩, rfl⟩
      have HX := Lib.hid hx
      clear hx
      go_wp2_with fail
      go_ret
      exact ⟨⟨_, rfl, trimH HR.out hO.out HX.out HSM.out, _, _, _, rfl, fun h0 => HFF.out (by have := HX.out.le; omega)⟩, hBel.out⟩
theorem minus_H (u v : Value) (M N a : Nat) (w : World) (hu : IsH w u M) (hv : IsH w v N) (hM : M < 2 ^ a) (hle : N ≤ M) (ha : a ≤ 1048576) :
    Calls Try.prog 68 #[u, v] w fun e w' => (∃ r, e = .returned r ∧ IsH w' r (M - N) ∧ Lies w.heap.size r) ∧ Below w.heap.size w w' := by
  obtain ⟨A, n, c, F, rfl, hA, hF, hn, rfl⟩ := hu
  obtain ⟨B, m, d, G, rfl, hB, hG, hm, rfl⟩ := hv
  have h1 := len_of_half hn rfl hM ha
  refine minus_any A B n c m d F G w hA hB hF hG (by omega) ?_ hle
  rcases Nat.lt_or_ge n m with h | h
  · have := T_lt_len hF hm h; omega
  · exact h
end Go.Proofs.Yteiajccjlbghoaa

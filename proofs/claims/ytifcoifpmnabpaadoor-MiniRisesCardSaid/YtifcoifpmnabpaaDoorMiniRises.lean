/- MiniRises walked: the next magnitude is greater, by one of the last bit. Conditions: the table of math-bits lies as the text lays it. -/
import Derived.Test.YtifcoifpmnabpaaDoorMiniLaws
set_option linter.unusedVariables false
namespace Go.Proofs.YtifcoifpmnabpaaDoor
open Go.RowKit

theorem rises_last (w : World) (hT : Tab w) (man bias : Int) :
    Calls Tryd.prog 5 #[.int .i64 man, .int .i64 bias, .int .u64 18446744073709551615] w fun e w' => e = .returned (.bool true) ∧ ∃ n, w' = w.drewN n := by
  have hTab := Lib.hid hT
  clear hT
  go_enter Tryd.func5, Tryd.ntmps5
  go_wp2_with fail
  refine (shown_true _ hTab.out).mono ?_; rintro e w' ⟨rfl, n1, rfl⟩
  go_wp2_with fail
  go_ret
  exact ⟨rfl, _, rfl⟩

theorem rises_no (man bias : Int) (key : Nat) (hk : key < 18446744073709551615) (w : World) (hT : Tab w) (m x e1 n f e2 : Int)
    (V : ∀ w, Tab w → Calls Tryd.prog 9 #[.int .i64 man, .int .i64 bias, .int .u64 key] w fun e w' => e = .returned (.tuple #[.int .u64 m, .int .i64 x, .int .i64 e1]) ∧ ∃ n, w' = w.drewN n)
    (V2 : ∀ w, Tab w → Calls Tryd.prog 9 #[.int .i64 man, .int .i64 bias, .int .u64 ((key : Int) + 1)] w fun e w' => e = .returned (.tuple #[.int .u64 n, .int .i64 f, .int .i64 e2]) ∧ ∃ n, w' = w.drewN n)
    (he : (e1 != 0) = true ∨ (e1 != 0) = false ∧ (e2 != 0) = true) :
    Calls Tryd.prog 5 #[.int .i64 man, .int .i64 bias, .int .u64 key] w fun e w' => e = .returned (.bool true) ∧ ∃ n, w' = w.drewN n := by
  have hTab := Lib.hid hT
  have V' := Lib.hid V
  have V2' := Lib.hid V2
  clear hT V V2
  have k0 : ((key : Int) == 18446744073709551615) = false := by simp; omega
  rcases he with he | ⟨he1, he2⟩
  all_goals
    go_enter Tryd.func5, Tryd.ntmps5
    go_wp2_with fail
    refine (shown_true _ hTab.out).mono ?_; rintro e w' ⟨rfl, n1, rfl⟩
    go_wp2_with fail
    refine (V'.out _ (hTab.out.drewN _)).mono ?_; rintro e w' ⟨rfl, n2, rfl⟩
    go_wp2_with fail
    refine (V2'.out _ (hTab.out.drewN _)).mono ?_; rintro e w' ⟨rfl, n3, rfl⟩
    go_wp2_with fail
    go_ret
    exact ⟨rfl, _, rfl⟩

/-- both have an answer; the lesser is not 0 -/
theorem rises_walk (man bias : Int) (key : Nat) (hk : key < 18446744073709551615) (w : World) (hT : Tab w) (fld a : Nat) (last : Int) (c c2 s : Nat) (F G : Nat → Nat)
    (V : ∀ w, Tab w → Calls Tryd.prog 9 #[.int .i64 man, .int .i64 bias, .int .u64 key] w fun e w' => e = .returned (.tuple #[.int .u64 (F 0), .int .i64 (last + c), .int .i64 0]) ∧ ∃ n, w' = w.drewN n)
    (V2 : ∀ w, Tab w → Calls Tryd.prog 9 #[.int .i64 man, .int .i64 bias, .int .u64 ((key : Int) + 1)] w fun e w' => e = .returned (.tuple #[.int .u64 (G 0), .int .i64 (last + c2), .int .i64 0]) ∧ ∃ n, w' = w.drewN n)
    (S : ∀ w, Calls Tryd.prog 8 #[.int .i64 man, .int .u64 key] w fun e w' => e = .returned (.tuple #[.int .u64 fld, .int .u64 a, .int .i64 0]) ∧ ∃ n, w' = w.drewN n)
    (hl : max (fld : Int) 1 - bias - man = last) (b1 : 0 ≤ man) (b2 : man ≤ 60) (b3 : -2000 ≤ bias) (b4 : bias ≤ 2000) (b5 : fld ≤ 4095) (b6 : c ≤ 64) (b7 : c2 ≤ 65) (b8 : -3000 ≤ last) (b9 : last ≤ 7000)
    (hF : ∀ j, j < c → F (j + 1) = 2 * F j) (hFp : ∀ j, j ≤ c → F j ≠ 0) (hFm : ∀ j, j ≤ c → F j ≤ s) (hG : ∀ j, j < c2 → G (j + 1) = 2 * G j) (hGm : ∀ j, j ≤ c2 → G j ≤ s + 1) (hs : s < 4611686018427387904) (hFc : F c = s) (hGc : G c2 = s + 1) :
    Calls Tryd.prog 5 #[.int .i64 man, .int .i64 bias, .int .u64 key] w fun e w' => e = .returned (.bool true) ∧ ∃ n, w' = w.drewN n := by
  have hTab := Lib.hid hT
  have V' := Lib.hid V
  have V2' := Lib.hid V2
  have S' := Lib.hid S
  have HF := Lib.hid hF
  have HFp := Lib.hid hFp
  have HFm := Lib.hid hFm
  have HG := Lib.hid hG
  have HGm := Lib.hid hGm
  have HFc := Lib.hid hFc
  have HGc := Lib.hid hGc
  clear hT V V2 S hF hFp hFm hG hGm hFc hGc
  have k0 : ((key : Int) == 18446744073709551615) = false := by simp; omega
  go_enter Tryd.func5, Tryd.ntmps5
  go_wp2_with fail
  refine (shown_true _ hTab.out).mono ?_; rintro e w' ⟨rfl, n1, rfl⟩
  go_wp2_with fail
  refine (V'.out _ (hTab.out.drewN _)).mono ?_; rintro e w' ⟨rfl, n2, rfl⟩
  go_wp2_with fail
  refine (V2'.out _ (hTab.out.drewN _)).mono ?_; rintro e w' ⟨rfl, n3, rfl⟩
  go_wp2_with fail
  refine (S'.out _).mono ?_; rintro e w' ⟨rfl, n4, rfl⟩
  go_wp2_with fail
  go_loop [8, 18] (fun m i => ∃ j : Nat, j ≤ c ∧ m = .int .u64 (F j) ∧ i = .int .i64 (last + c - j)) (fun _ i => (intOf i - last).toNat)
  case atStart => exact ⟨0, Nat.zero_le _, rfl, by simp⟩
  case round =>
    obtain ⟨j, hj, rfl, rfl⟩ := hrel
    have d1 := HFm.out j hj
    have d2 : ((F j : Int) != 0) = true := by have := HFp.out j hj; simp; omega
    by_cases hlt : j < c
    · have d3 := Lib.hid (HF.out j hlt)
      go_wp2
      go_round
      case rel => exact ⟨j + 1, by omega, by rw [d3.out]; go_num, by go_num⟩
      case measure => simp [intOf]; omega
    · have d4 : last + c - j ≤ last := by omega
      have E := Lib.hid (show j = c by omega)
      go_wp2
      go_loop [11, 19] (fun m i => ∃ j : Nat, j ≤ c2 ∧ m = .int .u64 (G j) ∧ i = .int .i64 (last + c2 - j)) (fun _ i => (intOf i - last).toNat)
      case atStart => exact ⟨0, Nat.zero_le _, rfl, by simp⟩
      case round =>
        obtain ⟨k, hk2, rfl, rfl⟩ := hrel
        have g1 := HGm.out k hk2
        by_cases hlt2 : k < c2
        · have g3 := Lib.hid (HG.out k hlt2)
          go_wp2
          go_round
          case rel => exact ⟨k + 1, by omega, by rw [g3.out]; go_num, by go_num⟩
          case measure => simp [intOf]; omega
        · have g4 : last + c2 - k ≤ last := by omega
          have E2 := Lib.hid (show k = c2 by omega)
          have fin : ((G k : Int) == (F j : Int) + 1) = true := by rw [E.out, E2.out, HFc.out, HGc.out]; simp
          go_wp2
          go_ret
          exact ⟨rfl, _, rfl⟩

/-- the lesser is 0 -/
theorem rises_zero (man bias : Int) (w : World) (hT : Tab w) (last : Int)
    (V : ∀ w, Tab w → Calls Tryd.prog 9 #[.int .i64 man, .int .i64 bias, .int .u64 0] w fun e w' => e = .returned (.tuple #[.int .u64 0, .int .i64 0, .int .i64 0]) ∧ ∃ n, w' = w.drewN n)
    (V2 : ∀ w, Tab w → Calls Tryd.prog 9 #[.int .i64 man, .int .i64 bias, .int .u64 1] w fun e w' => e = .returned (.tuple #[.int .u64 1, .int .i64 last, .int .i64 0]) ∧ ∃ n, w' = w.drewN n)
    (S : ∀ w, Calls Tryd.prog 8 #[.int .i64 man, .int .u64 0] w fun e w' => e = .returned (.tuple #[.int .u64 0, .int .u64 0, .int .i64 0]) ∧ ∃ n, w' = w.drewN n)
    (hl : 1 - bias - man = last) (b1 : 0 ≤ man) (b2 : man ≤ 60) (b3 : -2000 ≤ bias) (b4 : bias ≤ 2000) (b8 : -3000 ≤ last) (b9 : last ≤ 7000) :
    Calls Tryd.prog 5 #[.int .i64 man, .int .i64 bias, .int .u64 0] w fun e w' => e = .returned (.bool true) ∧ ∃ n, w' = w.drewN n := by
  have hTab := Lib.hid hT
  have V' := Lib.hid V
  have V2' := Lib.hid V2
  have S' := Lib.hid S
  clear hT V V2 S
  go_enter Tryd.func5, Tryd.ntmps5
  go_wp2_with fail
  refine (shown_true _ hTab.out).mono ?_; rintro e w' ⟨rfl, n1, rfl⟩
  go_wp2_with fail
  refine (V'.out _ (hTab.out.drewN _)).mono ?_; rintro e w' ⟨rfl, n2, rfl⟩
  go_wp2_with fail
  refine (V2'.out _ (hTab.out.drewN _)).mono ?_; rintro e w' ⟨rfl, n3, rfl⟩
  go_wp2_with fail
  refine (S'.out _).mono ?_; rintro e w' ⟨rfl, n4, rfl⟩
  go_wp2_with fail
  go_loop [8, 18] (fun m i => m = .int .u64 0 ∧ i = .int .i64 0) (fun _ _ => 0)
  case atStart => exact ⟨rfl, rfl⟩
  case round =>
    obtain ⟨rfl, rfl⟩ := hrel
    go_wp2
    all_goals
      go_loop [11, 19] (fun m i => m = .int .u64 1 ∧ i = .int .i64 last) (fun _ _ => 0)
      case atStart => exact ⟨rfl, rfl⟩
      case round =>
        obtain ⟨rfl, rfl⟩ := hrel
        go_wp2
        go_ret
        exact ⟨rfl, _, rfl⟩

theorem odd_runs (s k q : Nat) (h : s = 2 ^ k * (2 * q + 1)) :
    ∃ F : Nat → Nat, F 0 = 2 * q + 1 ∧ F k = s ∧ (∀ j, F (j + 1) = 2 * F j) ∧ (∀ j, F j ≠ 0) ∧ (∀ j, j ≤ k → F j ≤ s) := by
  refine ⟨fun j => 2 ^ j * (2 * q + 1), by simp, h.symm, ?_, ?_, ?_⟩
  · intro j
    show 2 ^ (j + 1) * (2 * q + 1) = 2 * (2 ^ j * (2 * q + 1))
    rw [Nat.pow_succ, Nat.mul_comm _ 2, Nat.mul_assoc]
  · intro j
    exact Nat.mul_ne_zero (Nat.ne_of_gt (Nat.two_pow_pos j)) (by omega)
  · intro j hj
    rw [h]
    exact Nat.mul_le_mul_right _ (Nat.pow_le_pow_right (by decide) hj)

/-- the next key: the same field and one more in the mantissa, or the next field and no mantissa -/
theorem next_parts (man key : Nat) : ((key + 1) / 2 ^ man = key / 2 ^ man ∧ (key + 1) % 2 ^ man = key % 2 ^ man + 1) ∨ ((key + 1) / 2 ^ man = key / 2 ^ man + 1 ∧ (key + 1) % 2 ^ man = 0 ∧ key % 2 ^ man + 1 = 2 ^ man) := by
  have hp : 0 < 2 ^ man := Nat.two_pow_pos man
  have h1 := Nat.div_add_mod key (2 ^ man)
  have h2 := Nat.mod_lt key hp
  generalize 2 ^ man = p at *
  by_cases h : key % p + 1 = p
  · right
    have e : key + 1 = p * (key / p + 1) := by rw [Nat.mul_add, Nat.mul_one]; omega
    refine ⟨?_, ?_, h⟩
    · rw [e, Nat.mul_div_cancel_left _ hp]
    · rw [e, Nat.mul_mod_right]
  · left
    have e : key + 1 = (key % p + 1) + p * (key / p) := by omega
    have e3 : (key % p + 1) / p = 0 := Nat.div_eq_of_lt (by omega)
    constructor
    · conv => lhs; rw [e]
      rw [Nat.add_mul_div_left _ _ hp, e3, Nat.zero_add]
    · conv => lhs; rw [e]
      rw [Nat.add_mul_mod_self_left, Nat.mod_eq_of_lt (by omega)]

/-- MiniRises answers true. -/
theorem rises_any (man bias : Int) (key : Nat) (hk : key < 18446744073709551616) (w : World) (hT : Tab w) :
    Calls Tryd.prog 5 #[.int .i64 man, .int .i64 bias, .int .u64 key] w fun e w' => e = .returned (.bool true) ∧ ∃ n, w' = w.drewN n := by
  by_cases hlast : key = 18446744073709551615
  · subst hlast
    exact rises_last w hT man bias
  have hk' : key < 18446744073709551615 := by omega
  by_cases h : 0 ≤ man ∧ man ≤ 60
  · obtain ⟨man, rfl⟩ := Int.eq_ofNat_of_zero_le h.1
    have h1 : man ≤ 60 := by omega
    have hpm : 0 < 2 ^ man := Nat.two_pow_pos man
    have hnx := next_parts man key
    by_cases h2 : key / 2 ^ man ≤ 4095
    · by_cases h3 : -2000 ≤ bias ∧ bias ≤ 2000
      · by_cases h4 : (key + 1) / 2 ^ man ≤ 4095
        · by_cases h0 : key = 0
          · subst h0
            refine rises_zero man bias w hT (1 - bias - man) (fun w _ => value_zero man bias w h1 h3.1 h3.2) ?_ (fun w => ?_) rfl (by omega) (by omega) h3.1 h3.2 (by omega) (by omega)
            · intro w hT
              have e0 : sig man 1 = 1 := by
                by_cases hm : man = 0
                · subst hm; rfl
                · have : 1 < 2 ^ man := Nat.one_lt_two_pow hm
                  unfold sig
                  rw [Nat.div_eq_of_lt this, Nat.mod_eq_of_lt this]
                  rfl
              have e1 : max (1 / 2 ^ man) 1 = 1 := by
                have : 1 / 2 ^ man ≤ 1 := Nat.div_le_self _ _
                omega
              have := value_yes man 1 bias w hT h1 (by decide) (by decide) (by omega) h3.1 h3.2 0 (by rw [e0]; rfl)
              rw [e0, e1] at this
              simpa using this
            · simpa using split_yes man 0 w h1 hk h2
          · have hp := sig_pos man key h0
            have hl := sig_lt man key
            have h64 : 2 ^ (man + 1) ≤ 2 ^ 61 := Nat.pow_le_pow_right (by decide) (by omega)
            obtain ⟨k, q, e1, e2, hk64, e3⟩ := odd_parts _ hp (by omega)
            have hp' := sig_pos man (key + 1) (by omega)
            have hl' := sig_lt man (key + 1)
            obtain ⟨k', q', e1', e2', hk64', e3'⟩ := odd_parts _ hp' (by omega)
            have V := fun w hT => value_yes man key bias w hT h1 hk h0 h2 h3.1 h3.2 k e2
            have V2 := fun w hT => value_yes man (key + 1) bias w hT h1 (by omega) (by omega) h4 h3.1 h3.2 k' e2'
            have S := fun w => split_yes man key w h1 hk h2
            obtain ⟨F, F0, Fk, Fs, Fp, Fm⟩ := odd_runs _ k q e1
            obtain ⟨G, G0, Gk, Gs, Gp, Gm⟩ := odd_runs _ k' q' e1'
            rw [e3, ← F0] at V
            rw [e3', ← G0] at V2
            by_cases hsame : max ((key + 1) / 2 ^ man) 1 = max (key / 2 ^ man) 1
            · have hsig : sig man (key + 1) = sig man key + 1 := by
                unfold sig
                rcases hnx with ⟨n1, n2⟩ | ⟨n1, n2, n3⟩
                · rw [n1, n2]; split <;> omega
                · have z : key / 2 ^ man = 0 := by rw [n1] at hsame; generalize key / 2 ^ man = f at *; omega
                  rw [n1, n2, z, if_neg (by omega), if_pos rfl]; omega
              rw [hsame] at V2
              rw [hsig] at Gk Gm
              refine rises_walk man bias key hk' w hT (key / 2 ^ man) (key % 2 ^ man) (((max (key / 2 ^ man) 1 : Nat) : Int) - bias - man) k k' (sig man key) F G V V2 S ?_ (by omega) (by omega) h3.1 h3.2 h2 (by omega) (by omega) ?_ ?_ (fun j _ => Fs j) (fun j _ => Fp j) Fm (fun j _ => Gs j) Gm (by omega) Fk Gk
              · generalize key / 2 ^ man = f at *; omega
              · generalize key / 2 ^ man = f at *; omega
              · generalize key / 2 ^ man = f at *; omega
            · have hne : key / 2 ^ man ≠ 0 := by
                intro z
                rcases hnx with ⟨n1, n2⟩ | ⟨n1, n2, n3⟩ <;> (rw [n1, z] at hsame; simp at hsame)
              rcases hnx with ⟨n1, n2⟩ | ⟨n1, n2, n3⟩
              · rw [n1] at hsame; exact absurd rfl hsame
              have hsig : 2 * sig man (key + 1) = sig man key + 1 := by
                unfold sig
                rw [n1, n2, if_neg (by omega), if_neg hne]; omega
              have emax : max ((key + 1) / 2 ^ man) 1 = max (key / 2 ^ man) 1 + 1 := by
                rw [n1]; generalize key / 2 ^ man = f at *; omega
              rw [emax] at V2
              have V2' : ∀ w, Tab w → Calls Tryd.prog 9 #[.int .i64 man, .int .i64 bias, .int .u64 ((key : Int) + 1)] w fun e w' => e = .returned (.tuple #[.int .u64 (G 0), .int .i64 ((((max (key / 2 ^ man) 1 : Nat) : Int) - bias - man) + ((k' + 1 : Nat) : Int)), .int .i64 0]) ∧ ∃ n, w' = w.drewN n := by
                intro w hT
                have := V2 w hT
                generalize max (key / 2 ^ man) 1 = f at *
                rw [show (((f + 1 : Nat) : Int) - bias - man + k') = (f : Int) - bias - man + ((k' + 1 : Nat) : Int) by omega] at this
                exact this
              refine rises_walk man bias key hk' w hT (key / 2 ^ man) (key % 2 ^ man) (((max (key / 2 ^ man) 1 : Nat) : Int) - bias - man) k (k' + 1) (sig man key) F G V V2' S ?_ (by omega) (by omega) h3.1 h3.2 h2 (by omega) (by omega) ?_ ?_ (fun j _ => Fs j) (fun j _ => Fp j) Fm (fun j _ => Gs j) ?_ (by omega) Fk ?_
              · generalize key / 2 ^ man = f at *; omega
              · generalize key / 2 ^ man = f at *; omega
              · generalize key / 2 ^ man = f at *; omega
              · intro j hj
                by_cases hjk : j ≤ k'
                · have := Gm j hjk; omega
                · obtain rfl : j = k' + 1 := by omega
                  rw [Gs, Gk]; omega
              · rw [Gs, Gk]; omega
        · by_cases h0 : key = 0
          · subst h0
            exact rises_no man bias 0 hk' w hT 0 0 0 0 0 1 (fun w _ => value_zero man bias w h1 h3.1 h3.2) (fun w _ => value_no_key man (0 + 1) bias w h1 (Nat.lt_of_not_le h4)) (Or.inr ⟨rfl, rfl⟩)
          · exact rises_no man bias key hk' w hT _ _ 0 0 0 1 (fun w hT => value_yes man key bias w hT h1 hk h0 h2 h3.1 h3.2 _ rfl) (fun w _ => value_no_key man (key + 1) bias w h1 (Nat.lt_of_not_le h4)) (Or.inr ⟨rfl, rfl⟩)
      · by_cases h4 : (key + 1) / 2 ^ man ≤ 4095
        · exact rises_no man bias key hk' w hT 0 0 1 0 0 1 (fun w _ => value_no_bias man key bias w h1 hk h2 h3) (fun w _ => value_no_bias man (key + 1) bias w h1 (by omega) h4 h3) (Or.inl rfl)
        · exact rises_no man bias key hk' w hT 0 0 1 0 0 1 (fun w _ => value_no_bias man key bias w h1 hk h2 h3) (fun w _ => value_no_key man (key + 1) bias w h1 (Nat.lt_of_not_le h4)) (Or.inl rfl)
    · have h4 : 4095 < (key + 1) / 2 ^ man := by rcases hnx with ⟨n1, _⟩ | ⟨n1, _, _⟩ <;> (rw [n1]; omega)
      exact rises_no man bias key hk' w hT 0 0 1 0 0 1 (fun w _ => value_no_key man key bias w h1 (Nat.lt_of_not_le h2)) (fun w _ => value_no_key man (key + 1) bias w h1 h4) (Or.inl rfl)
  · exact rises_no man bias key hk' w hT 0 0 1 0 0 1 (fun w _ => value_no_man man bias key w h) (fun w _ => value_no_man man bias (key + 1) w h) (Or.inl rfl)
theorem walk_MiniRises (a0 : Int) (_ : (Lit.int .i64 a0).wf = true) (a1 : Int) (_ : (Lit.int .i64 a1).wf = true) (a2 : Int) (w2 : (Lit.int .u64 a2).wf = true) (w : World) (hT : Tab w) :
    Calls Tryd.prog 5 #[.int .i64 a0, .int .i64 a1, .int .u64 a2] w fun e w' => e = .returned (.bool true) ∧ ∃ n, w' = w.drewN n := by
  obtain ⟨k, rfl, hk⟩ := u64_nat w2
  exact rises_any a0 a1 k hk w hT
end Go.Proofs.YtifcoifpmnabpaaDoor

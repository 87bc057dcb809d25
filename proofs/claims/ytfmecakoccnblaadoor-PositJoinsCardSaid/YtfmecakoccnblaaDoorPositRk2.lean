/- caliperref05.Key walked: the key that a number has, sought bit by bit. Conditions: as each theorem names them. -/
import Derived.Test.YtfmecakoccnblaaDoorPositRkey
set_option linter.unusedVariables false
namespace Go.Proofs.YtfmecakoccnblaaDoor
open Go.RowKit

def Seek (n i key m : Nat) (e : Int) : Prop := key % 2 ^ i = 0 ∧ key < 2 ^ n ∧ (m.log2 ≤ 62 → Near n i key (numW m e))
theorem seek_start (n m : Nat) (e : Int) : Seek n n 0 m e := ⟨Nat.zero_mod _, Nat.two_pow_pos n, fun _ => near_start n _⟩
theorem seek_next {n i key m : Nat} {e : Int} (hi : i < n) (h : Seek n (i + 1) key m e) : 0 < key + 2 ^ i ∧ key + 2 ^ i < 2 ^ n ∧
    ((m.log2 ≤ 62 → numW m e < fW n (key + 2 ^ i)) → Seek n i key m e) ∧ ((m.log2 ≤ 62 → ¬ numW m e < fW n (key + 2 ^ i)) → Seek n i (key + 2 ^ i) m e) := by
  obtain ⟨a, b, c⟩ := h
  have r := near_room (show i + 1 ≤ n by omega) a b
  have hp := Nat.two_pow_pos i
  have hs := pow_add_one i
  obtain ⟨g, f⟩ := near_half a
  refine ⟨by omega, by omega, fun h => ⟨g, b, fun hm => ((near_next hi (c hm)).2.2.1 (h hm))⟩, fun h => ⟨f, by omega, fun hm => ((near_next hi (c hm)).2.2.2 (h hm))⟩⟩

def KeyEnd (n m : Nat) (e : Int) (r : Ending) : Prop := ∃ key, Seek n 0 key m e ∧ ((0 < key ∧ fM n key = m ∧ fE n key = e ∧ r = .returned (.tuple #[.int .u64 key, .bool true])) ∨ (¬ (0 < key ∧ fM n key = m ∧ fE n key = e) ∧ r = .returned (.tuple #[.int .u64 0, .bool false])))

theorem refKey_far (wd e e2 : Int) (m0 c q : Nat) (w : World) (hm0 : m0 = 2 ^ c * (2 * q + 1)) (hm64 : m0 < 18446744073709551616) (E : Nat → Int) (E0 : E 0 = e) (E1 : ∀ j, wrap64 (E j + 1) = E (j + 1)) (E2 : E c = e2) (he : ¬ (-1000 ≤ e2 ∧ e2 ≤ 1000)) :
    Calls Tryd.prog 18 #[.int .i64 wd, .int .u64 m0, .int .i64 e] w fun r w' => r = .returned (.tuple #[.int .u64 0, .bool false]) ∧ w = w' := by
  obtain ⟨K, k0, k1, k2, k3, k4, k5⟩ := strip c q
  have hm1 : (2 * q + 1) % 2 = 1 := by omega
  rw [← hm0] at k0 k4
  generalize 2 * q + 1 = m at *
  have HM := Lib.hid hm1
  have K0 := Lib.hid k0
  have HE0 := Lib.hid E0
  have K1 := Lib.hid k1
  have K2 := Lib.hid k2
  have K3 := Lib.hid k3
  have K4 := Lib.hid k4
  have HE1 := Lib.hid E1
  have HE2 := Lib.hid E2
  have K5 := Lib.hid k5
  clear hm0 hm1 k0 k1 k2 k3 k4 k5 E0 E1 E2
  have HE := Lib.hid he
  clear he
  go_enter Tryd.func18, Tryd.ntmps18
  go_wp2_with fail
  go_loop [1, 2] (fun x i => ∃ k : Nat, k ≤ c ∧ x = .int .u64 (K k) ∧ i = .int .i64 (E k)) (fun x _ => (intOf x).toNat)
  case atStart => exact ⟨0, Nat.zero_le _, by rw [K0.out], by rw [HE0.out]⟩
  case round =>
    obtain ⟨k, hk, rfl, rfl⟩ := hrel
    have v1 := K4.out k hk
    by_cases hlt2 : k < c
    · have v2 := K1.out k hlt2
      have v3 := Lib.hid (K2.out k hlt2)
      have v4 : ((K k : Int) % 2 == 0) = true := by simp; omega
      have v5 : ((K k : Nat) : Int) / 2 = ((K (k + 1) : Nat) : Int) := by rw [v3.out]; omega
      clear v2
      go_wp2_with fail
      go_round
      case rel => exact ⟨k + 1, by omega, rfl, by rw [HE1.out]⟩
      case measure => have := K5.out k; have := v3.out; simp [intOf]; omega
    · obtain rfl : k = c := by omega
      have v2 := Lib.hid K3.out
      have v4 : ((K k : Int) % 2 == 0) = false := by
        have := v2.out
        have := HM.out
        simp; omega
      have v5 := HE2.out
      by_cases h1 : 1000 < e2
      · go_wp2_with fail
        go_ret2
        exact ⟨rfl, rfl⟩
      · have h2 : e2 < -1000 := by have := HE.out; omega
        go_wp2_with fail
        go_ret2
        exact ⟨rfl, rfl⟩

set_option maxHeartbeats 1000000 in
theorem refKey_near (wd e e2 : Int) (n m0 c q : Nat) (w : World) (hn : wd - 1 = (n : Int)) (h1 : 3 ≤ wd) (h2 : wd ≤ 65) (hm0 : m0 = 2 ^ c * (2 * q + 1)) (hm64 : m0 < 18446744073709551616) (E : Nat → Int) (E0 : E 0 = e) (E1 : ∀ j, wrap64 (E j + 1) = E (j + 1)) (E2 : E c = e2) (he1 : -1000 ≤ e2) (he2 : e2 ≤ 1000) :
    Calls Tryd.prog 18 #[.int .i64 wd, .int .u64 m0, .int .i64 e] w fun r w' => KeyEnd n (2 * q + 1) e2 r ∧ Below w.heap.size w w' := by
  obtain ⟨K, k0, k1, k2, k3, k4, k5⟩ := strip c q
  have hm1 : (2 * q + 1) % 2 = 1 := by omega
  have hm2 : 2 * q + 1 < 18446744073709551616 := by
    have : 1 * (2 * q + 1) ≤ 2 ^ c * (2 * q + 1) := Nat.mul_le_mul_right _ (Nat.two_pow_pos c)
    rw [← hm0] at this
    omega
  have n2 : 2 ≤ n := by omega
  have n64 : n ≤ 64 := by omega
  rw [← hm0] at k0 k4
  generalize 2 * q + 1 = m at *
  have HM := Lib.hid hm1
  have K0 := Lib.hid k0
  have HE0 := Lib.hid E0
  have K1 := Lib.hid k1
  have K2 := Lib.hid k2
  have K3 := Lib.hid k3
  have K4 := Lib.hid k4
  have HE1 := Lib.hid E1
  have HE2 := Lib.hid E2
  have HN := Lib.hid hn
  have K5 := Lib.hid k5
  clear hm0 hm1 k0 k1 k2 k3 k4 k5 E0 E1 E2 hn
  go_enter Tryd.func18, Tryd.ntmps18
  go_wp2_with fail
  go_loop [1, 2] (fun x i => ∃ k : Nat, k ≤ c ∧ x = .int .u64 (K k) ∧ i = .int .i64 (E k)) (fun x _ => (intOf x).toNat)
  case atStart => exact ⟨0, Nat.zero_le _, by rw [K0.out], by rw [HE0.out]⟩
  case round =>
    obtain ⟨k, hk, rfl, rfl⟩ := hrel
    have v1 := K4.out k hk
    by_cases hlt2 : k < c
    · have v2 := K1.out k hlt2
      have v3 := Lib.hid (K2.out k hlt2)
      have v4 : ((K k : Int) % 2 == 0) = true := by simp; omega
      have v5 : ((K k : Nat) : Int) / 2 = ((K (k + 1) : Nat) : Int) := by rw [v3.out]; omega
      clear v2
      go_wp2_with fail
      go_round
      case rel => exact ⟨k + 1, by omega, rfl, by rw [HE1.out]⟩
      case measure => have := K5.out k; have := v3.out; simp [intOf]; omega
    · obtain rfl : k = c := by omega
      have v2 := Lib.hid K3.out
      have v4 : ((K k : Int) % 2 == 0) = false := by
        have := v2.out
        have := HM.out
        simp; omega
      have v5 := HE2.out
      have v7 := K3.out
      have v8 : ¬ 1000 < e2 := by omega
      have v9 : ¬ e2 < -1000 := by omega
      go_wp2_with fail
      have V7 := Lib.hid v7
      have V5 := Lib.hid v5
      clear v7 v5 v4
      go_loopw [8, 9] (fun x i wr => ∃ (j key : Nat) (y : Int), j ≤ n ∧ x = .int .u64 key ∧ i = .int .i64 y ∧ y + 1 = (j : Int) ∧ Hid (Seek n j key m e2) ∧ Hid (Below w.heap.size w wr)) (fun _ i _ => (1 + (intOf i)).toNat)
      case atStart => exact ⟨n, 0, _, Nat.le_refl _, rfl, rfl, by have := HN.out; omega, Lib.hid (seek_start _ _ _), Lib.hid (Below.refl _ _)⟩
      case round =>
        obtain ⟨j, key, y, hj, rfl, rfl, hy, hS, hB⟩ := hrel
        rcases j with _ | i
        · obtain rfl : y = -1 := by omega
          have hl := pow_le64 n64
          have hkey := hS.out.2.1
          by_cases hk0 : key = 0
          · have hF : ¬ ∃ n, Fit wd n key := by rintro ⟨n', _, _, _, h, _⟩; omega
            have V := Lib.hid (fun w => refValue_no wd key w (by omega) hF)
            have HK := Lib.hid hk0
            clear hF hk0
            go_wp2_with fail
            with_reducible (refine (V.out _).mono ?_)
            rintro r w1 ⟨rfl, b1⟩
            have HB1 := Lib.hid b1
            clear b1
            go_wp2_with fail
            go_ret2
            exact ⟨⟨key, hS.out, Or.inr ⟨by have := HK.out; omega, rfl⟩⟩, bthen hB.out HB1.out⟩
          · have hk1 : 0 < key := by omega
            have hF : Fit wd n key := ⟨HN.out, h1, h2, hk1, hkey⟩
            have V := Lib.hid (fun w => refValue_yes wd n key w hF)
            clear hF
            by_cases hM : fM n key = m
            · have x1 : ((fM n key : Int) != (m : Int)) = false := by simp [hM]
              have HMM := Lib.hid hM
              clear hM
              by_cases hE : fE n key = e2
              · have x2 : (fE n key != e2) = false := by simp [hE]
                have HEE := Lib.hid hE
                clear hE
                go_wp2_with fail
                with_reducible (refine (V.out _).mono ?_)
                rintro r w1 ⟨rfl, b1⟩
                have HB1 := Lib.hid b1
                clear b1
                go_wp2_with fail
                go_ret2
                exact ⟨⟨key, hS.out, Or.inl ⟨hk1, HMM.out, HEE.out, rfl⟩⟩, bthen hB.out HB1.out⟩
              · have x2 : (fE n key != e2) = true := by simpa using hE
                have HEE := Lib.hid hE
                clear hE
                go_wp2_with fail
                with_reducible (refine (V.out _).mono ?_)
                rintro r w1 ⟨rfl, b1⟩
                have HB1 := Lib.hid b1
                clear b1
                go_wp2_with fail
                go_ret2
                exact ⟨⟨key, hS.out, Or.inr ⟨fun h => HEE.out h.2.2, rfl⟩⟩, bthen hB.out HB1.out⟩
            · have x1 : ((fM n key : Int) != (m : Int)) = true := by simp; omega
              have HMM := Lib.hid hM
              clear hM
              go_wp2_with fail
              with_reducible (refine (V.out _).mono ?_)
              rintro r w1 ⟨rfl, b1⟩
              have HB1 := Lib.hid b1
              clear b1
              go_wp2_with fail
              go_ret2
              exact ⟨⟨key, hS.out, Or.inr ⟨fun h => HMM.out h.2.1, rfl⟩⟩, bthen hB.out HB1.out⟩
        · obtain rfl : y = (i : Int) := by omega
          obtain ⟨s1, s2, s3, s4⟩ := seek_next (by omega) hS.out
          have hkey := hS.out.2.1
          have hl := pow_le64 n64
          have hi64 : i < 64 := by omega
          have w1 : IntKind.u64.wrap ((2 : Int) ^ i) = (2 : Int) ^ i := by rw [wrap_pow (by omega)]; simp
          have w2 : IntKind.u64.wrap ((key : Int) + 2 ^ i) = ((key + 2 ^ i : Nat) : Int) := by rw [show ((key : Int) + 2 ^ i) = ((key + 2 ^ i : Nat) : Int) by simp, wrap_u64_nat _ (by omega)]
          obtain ⟨nx, hnx⟩ : ∃ nx, key + 2 ^ i = nx := ⟨_, rfl⟩
          have hF : Fit wd n nx := ⟨HN.out, h1, h2, by omega, by omega⟩
          have V := Lib.hid (fun w => refValue_yes wd n nx w hF)
          rw [hnx] at w2 s1 s2 s3 s4
          have S3 := Lib.hid s3
          have S4 := Lib.hid s4
          obtain ⟨f1, f2⟩ := E_bounds n2 n64 s1 s2
          obtain ⟨f3, f4, f5⟩ := M_odd n nx
          obtain ⟨ov, hov⟩ : ∃ ov, ov = if e2 + (Lib.bitLen m : Int) = fE n nx + (Lib.bitLen (fM n nx) : Int) then decide (m * 2 ^ (64 - Lib.bitLen m) < fM n nx * 2 ^ (64 - Lib.bitLen (fM n nx))) else decide (e2 + (Lib.bitLen m : Int) < fE n nx + (Lib.bitLen (fM n nx) : Int)) := ⟨_, rfl⟩
          have L := Lib.hid (fun w => refLess_any m (fM n nx) e2 (fE n nx) w ov (by have := HM.out; omega) (by omega) hm2 (by omega) he1 he2 (by omega) (by omega) hov)
          have HO : Hid (m.log2 ≤ 62 → ov = decide (numW m e2 < fW n nx)) := Lib.hid (fun h => by rw [hov, ← less_num (by have := HM.out; omega) h])
          clear hov s3 s4 hkey f1 f2 f3 f4 f5 hnx hF
          have u0 : ¬ (i : Int) < 0 := by omega
          go_wp2_with fail
          with_reducible (refine (V.out _).mono ?_)
          rintro r w1 ⟨rfl, b1⟩
          have HB1 := Lib.hid b1
          clear b1
          go_wp2_with fail
          with_reducible (refine (L.out _).mono ?_)
          rintro r w1' ⟨rfl, rfl⟩
          cases ov
          · go_wp2_with fail
            go_roundw
            case rel => exact ⟨i, nx, _, by omega, rfl, rfl, by omega, Lib.hid (S4.out (fun h => by have := HO.out h; simpa using this)), Lib.hid (bthen hB.out HB1.out)⟩
            case measure => simp [intOf]; omega
          · go_wp2_with fail
            go_roundw
            case rel => exact ⟨i, key, _, by omega, rfl, rfl, by omega, Lib.hid (S3.out (fun h => by have := HO.out h; simpa using this)), Lib.hid (bthen hB.out HB1.out)⟩
            case measure => simp [intOf]; omega

/-- what the search ends with -/
theorem keyEnd_yes {n m k : Nat} {e : Int} {r : Ending} (h1 : 2 ≤ n) (h2 : n ≤ 64) (h : KeyEnd n m e r) (k1 : 0 < k) (k2 : k < 2 ^ n) (hM : fM n k = m) (hE : fE n k = e) : r = .returned (.tuple #[.int .u64 k, .bool true]) := by
  obtain ⟨key, hS, h⟩ := h
  obtain ⟨o1, o2, _⟩ := M_odd n k
  rw [hM] at o1 o2
  have hW := (ME_iff o1 o2).1 ⟨hM, hE⟩
  obtain rfl := near_end h1 h2 (hS.2.2 o2) k1 k2 hW
  rcases h with ⟨_, _, _, h⟩ | ⟨h, _⟩
  · exact h
  · exact absurd ⟨k1, hM, hE⟩ h
theorem keyEnd_no {n m : Nat} {e : Int} {r : Ending} (h : KeyEnd n m e r) (hno : ¬ ∃ k, 0 < k ∧ k < 2 ^ n ∧ fM n k = m ∧ fE n k = e) : r = .returned (.tuple #[.int .u64 0, .bool false]) := by
  obtain ⟨key, hS, h⟩ := h
  rcases h with ⟨a, b, c, _⟩ | ⟨_, h⟩
  · exact absurd ⟨key, a, hS.2.1, b, c⟩ hno
  · exact h
/-- one more, sixty-four times at most: as int reckons it -/
theorem ups (e : Int) : ∃ E : Nat → Int, E 0 = wrap64 e ∧ (∀ j, wrap64 (E j + 1) = E (j + 1)) ∧ (∀ j, E j = wrap64 (e + j)) := by
  refine ⟨fun j => wrap64 (e + j), by simp, ?_, fun _ => rfl⟩
  intro j
  show wrap64 (wrap64 (e + j) + 1) = wrap64 (e + ((j + 1 : Nat) : Int))
  unfold wrap64
  omega

end Go.Proofs.YtfmecakoccnblaaDoor

/- posit.Key answers the magnitude of a number, if there is one. Conditions: as each theorem names them. -/
import Derived.Test.YtfmecakoccnblaaDoorPositNum
set_option linter.unusedVariables false
namespace Go.Proofs.YtfmecakoccnblaaDoor
open Go.RowKit

theorem and3 (x : Int) : bits .and .i64 x 3 = x % 4 := by
  show IntKind.i64.wrap ((BitVec.ofInt 64 x &&& BitVec.ofInt 64 3).toNat : Int) = _
  have h1 : (BitVec.ofInt 64 x).toNat = (x % 18446744073709551616).toNat := by
    rw [BitVec.toNat_ofInt]; rfl
  have h2 : (BitVec.ofInt 64 3).toNat = 2 ^ 2 - 1 := by decide
  rw [BitVec.toNat_and, h1, h2, Nat.and_two_pow_sub_one_eq_mod, IntKind.wrap_i64]
  omega

theorem Made_of_W {n key tail : Nat} {q : Int} (h1 : 2 ≤ n) (h2 : n ≤ 64) (h3 : 0 < key) (h4 : key < 2 ^ n) (ht : tail < 18446744073709551616) (h : fW n key = q * 18446744073709551616 + tail) : Made n q tail key := by
  have := tail_lt h1 h2 h3 h4
  unfold fW at h
  exact ⟨h3, h4, by omega, by omega⟩

theorem Key_main (wd e : Int) (n m c q : Nat) (hn : wd - 1 = (n : Int)) (h1 : 3 ≤ wd) (h2 : wd ≤ 65) (hm : m = 2 ^ c * (2 * q + 1)) (hm64 : m < 18446744073709551616) (he1 : -1000 < e) (he2 : e < 1000) :
    (∃ key, 0 < key ∧ key < 2 ^ n ∧ fM n key = 2 * q + 1 ∧ fE n key = e + c ∧ ∀ w, Tab w → Calls Tryd.prog 16 #[.int .i64 wd, .int .u64 m, .int .i64 e] w fun r w' => r = .returned (.tuple #[.int .u64 key, .int .i64 0]) ∧ Below w.heap.size w w') ∨
    ((¬ ∃ key, 0 < key ∧ key < 2 ^ n ∧ fM n key = 2 * q + 1 ∧ fE n key = e + c) ∧ ∀ w, Tab w → Calls Tryd.prog 16 #[.int .i64 wd, .int .u64 m, .int .i64 e] w fun r w' => r = .returned (.tuple #[.int .u64 0, .int .i64 8]) ∧ Below w.heap.size w w') := by
  have n2 : 2 ≤ n := by omega
  have n64 : n ≤ 64 := by omega
  have hcz : Lib.ctz 64 m = c := by rw [hm]; exact ctz_of c q (by rw [← hm]; exact hm64)
  have hpc := Nat.two_pow_pos c
  have m0 : m ≠ 0 := by rw [hm]; exact Nat.mul_ne_zero (by omega) (by omega)
  have hdiv : m / 2 ^ c = 2 * q + 1 := by rw [hm, Nat.mul_div_cancel_left _ hpc]
  have hm1 : 2 * q + 1 < 18446744073709551616 := by
    have : 2 * q + 1 ≤ m := by rw [← hdiv]; exact Nat.div_le_self _ _
    omega
  have hc64 : c ≤ 64 := by
    obtain ⟨k, _, _, e2, e3, _⟩ := odd_parts m m0 hm64
    omega
  have hb := bitLen_log (2 * q + 1) (by omega) hm1
  have hlog : (2 * q + 1).log2 < 64 := (Nat.log2_lt (by omega)).2 (by omega)
  have hma := Nat.log2_self_le (n := 2 * q + 1) (by omega)
  have hmb := Nat.lt_log2_self (n := 2 * q + 1)
  have hmn : ((m : Int) != 0) = true := by simp; omega
  have O : ∀ w, Tab w → Calls Tryd.prog 29 #[.int .u64 m, .int .i64 e] w fun r w' => r = .returned (.tuple #[.int .u64 ((2 * q + 1 : Nat) : Int), .int .i64 (e + c)]) ∧ w' = w := fun w hT => by
    have := odd_any m c e hm64 m0 hcz hc64 (by omega) (by omega) w hT
    rw [hdiv] at this; exact this
  generalize hmm : 2 * q + 1 = m1 at *
  have m1odd : m1 % 2 = 1 := by omega
  generalize hsz : m1.log2 = size at *
  have L := fun w => len_any m1 w hm1 (size + 1) hb
  by_cases hbig : size = 63
  · right
    constructor
    · rintro ⟨key, k1, k2, k3, k4⟩
      have := (M_odd n key).2.1
      rw [k3, hsz] at this; omega
    · intro w hT
      exact key_big wd e (e + c) m m1 size w hT h1 h2 hmn he1 he2 O L hbig
  have hs62 : size ≤ 62 := by omega
  -- the scale, its regime and exponent
  obtain ⟨x, hx⟩ : ∃ x : Nat, (e + c + size) % 4 = (x : Int) := ⟨((e + c + size) % 4).toNat, by omega⟩
  have hx3 : x ≤ 3 := by omega
  have hps := Nat.two_pow_pos size
  have hp4 : 4 * 2 ^ size ≤ 18446744073709551616 := by
    have := pow_le64 (show size + 2 ≤ 64 by omega)
    rw [Nat.pow_add] at this; omega
  have hxs : x * 2 ^ size ≤ 3 * 2 ^ size := Nat.mul_le_mul_right _ hx3
  have hfr : m1 - 2 ^ size < 2 ^ size := by rw [Nat.pow_succ] at hmb; omega
  have hrest : bits .or .u64 (IntKind.u64.wrap ((x : Int) * 2 ^ size)) (bits .andNot .u64 m1 (IntKind.u64.wrap (2 ^ size))) = ((x * 2 ^ size + (m1 - 2 ^ size) : Nat) : Int) := by
    rw [u64_andNot_top m1 size hma hmb (by omega), wrap_shl _ _ (by omega), bits_or_u64_nat _ _ (by omega) (by omega), or_shl _ _ _ hfr]
  have hr : x * 2 ^ size + (m1 - 2 ^ size) < 2 ^ (size + 2) := by
    rw [Nat.pow_add]; omega
  have htail : (x * 2 ^ size + (m1 - 2 ^ size)) * 2 ^ (64 - (size + 2)) = x * 4611686018427387904 + (m1 - 2 ^ size) * 2 ^ (62 - size) := by
    rw [show 64 - (size + 2) = 62 - size by omega, Nat.add_mul, Nat.mul_assoc, ← Nat.pow_add, show size + (62 - size) = 62 by omega]
  have htl : (m1 - 2 ^ size) * 2 ^ (62 - size) < 4611686018427387904 := by
    have e : 2 ^ size * 2 ^ (62 - size) = 4611686018427387904 := by
      rw [← Nat.pow_add, show size + (62 - size) = 62 by omega]
    rw [← e]; exact Nat.mul_lt_mul_of_pos_right hfr (Nat.two_pow_pos _)
  have hnum : numW m1 (e + c) = ((e + c + size) / 4) * 18446744073709551616 + ((x * 2 ^ size + (m1 - 2 ^ size)) * 2 ^ (64 - (size + 2)) : Nat) := by
    unfold numW
    rw [hsz, htail]
    omega
  have hjc : (((size + 2 : Nat) : Int)) = (size : Int) + 2 := by omega
  have hxand : bits .and .i64 (e + c + size) 3 = (x : Int) := by rw [and3, hx]
  rcases join_main wd ((e + c + size) / 4) n (x * 2 ^ size + (m1 - 2 ^ size)) (size + 2) hn h1 h2 (by omega) (by omega) hr (by omega) (by omega) with ⟨key, hM, J⟩ | ⟨hno, J⟩
  · left
    have hw := Made_W hM
    rw [← hnum] at hw
    obtain ⟨a, b⟩ := (ME_iff m1odd (by omega)).2 hw
    exact ⟨key, hM.1, hM.2.1, a, b, fun w hT => key_walk_yes wd e (e + c) (e + c + size) _ m m1 size x _ key w hT h1 h2 hmn he1 he2 O L hs62 rfl (by omega) (by omega) rfl hxand hx3 hrest J⟩
  · right
    constructor
    · rintro ⟨key, k1, k2, k3, k4⟩
      have hw := (ME_iff m1odd (by omega)).1 ⟨k3, k4⟩
      rw [hnum] at hw
      exact hno ⟨key, Made_of_W n2 n64 k1 k2 (by rw [htail]; omega) hw⟩
    · intro w hT
      exact key_walk_no wd e (e + c) (e + c + size) _ m m1 size x _ 0 w hT h1 h2 hmn he1 he2 O L hs62 rfl (by omega) (by omega) rfl hxand hx3 hrest J

/-- the key of a number that a key has -/
theorem Key_yes (wd e : Int) (n m c q key : Nat) (w : World) (hT : Tab w) (hF : Fit wd n key) (hm : m = 2 ^ c * (2 * q + 1)) (hm64 : m < 18446744073709551616) (he1 : -1000 < e) (he2 : e < 1000) (hM : fM n key = 2 * q + 1) (hE : fE n key = e + c) :
    Calls Tryd.prog 16 #[.int .i64 wd, .int .u64 m, .int .i64 e] w fun r w' => r = .returned (.tuple #[.int .u64 key, .int .i64 0]) ∧ Below w.heap.size w w' := by
  obtain ⟨hn, h1, h2, h3, h4⟩ := hF
  rcases Key_main wd e n m c q hn h1 h2 hm hm64 he1 he2 with ⟨k, k1, k2, k3, k4, K⟩ | ⟨no, _⟩
  · have : fW n k = fW n key := by rw [← numW_of_key, ← numW_of_key, k3, k4, hM, hE]
    have := W_inj (by omega) (by omega) k1 k2 h3 h4 this
    subst this
    exact K w hT
  · exact absurd ⟨key, h3, h4, hM, hE⟩ no

theorem bthen {w a b : World} (h : Below w.heap.size w a) (k : Below a.heap.size a b) : Below w.heap.size w b := h.trans (k.mono h.size)
theorem bgrow {w a : World} (h : Below w.heap.size w a) (o : Obj) : Below w.heap.size w (a.alloc o) := h.alloc h.size o

theorem shown_true (w : World) (hT : Tab w) : Calls Tryd.prog 11 #[] w fun e w' => e = .returned (.bool true) ∧ Below w.heap.size w w' := by
  have V1 : ∀ w, Tab w → Calls Tryd.prog 14 #[.int .i64 8, .int .u64 64] w fun e w' => e = .returned (.tuple #[.int .u64 1, .int .i64 0, .int .i64 0]) ∧ Below w.heap.size w w' := fun w h =>
    Value_yes 8 7 64 w h ⟨by decide, by decide, by decide, by decide, by decide⟩
  have V2 : ∀ w, Tab w → Calls Tryd.prog 14 #[.int .i64 8, .int .u64 1] w fun e w' => e = .returned (.tuple #[.int .u64 1, .int .i64 (-24), .int .i64 0]) ∧ Below w.heap.size w w' := fun w h =>
    Value_yes 8 7 1 w h ⟨by decide, by decide, by decide, by decide, by decide⟩
  have V3 : ∀ w, Calls Tryd.prog 14 #[.int .i64 8, .int .u64 128] w fun e w' => e = .returned (.tuple #[.int .u64 0, .int .i64 0, .int .i64 1]) ∧ Below w.heap.size w w' := fun w =>
    Value_no 8 128 w (by rintro ⟨n, a, _, _, _, b⟩; have : n = 7 := by omega
                         subst this; revert b; decide)
  have K1 : ∀ w, Tab w → Calls Tryd.prog 16 #[.int .i64 8, .int .u64 1, .int .i64 24] w fun e w' => e = .returned (.tuple #[.int .u64 127, .int .i64 0]) ∧ Below w.heap.size w w' := fun w h =>
    Key_yes 8 24 7 1 0 0 127 w h ⟨by decide, by decide, by decide, by decide, by decide⟩ (by decide) (by decide) (by decide) (by decide) (by decide) (by decide)
  have K2 : ∀ w, Tab w → Calls Tryd.prog 16 #[.int .i64 8, .int .u64 3, .int .i64 23] w fun e w' => e = .returned (.tuple #[.int .u64 0, .int .i64 8]) ∧ Below w.heap.size w w' := fun w h => by
    rcases Key_main 8 23 7 3 0 1 (by decide) (by decide) (by decide) (by decide) (by decide) (by decide) (by decide) with ⟨k, k1, k2, k3, k4, K⟩ | ⟨_, K⟩
    · exfalso
      have : ∀ k, k < 2 ^ 7 → ¬ (0 < k ∧ fM 7 k = 2 * 1 + 1 ∧ fE 7 k = 23 + ((0 : Nat) : Int)) := by decide +kernel
      exact this k k2 ⟨k1, k3, k4⟩
    · exact K w h
  have S1 : ∀ w, Calls Tryd.prog 12 #[.int .i64 8, .int .u64 76] w fun e w' => e = .returned (.tuple #[.agg #[.int .i64 0, .int .i64 1, .int .u64 4, .int .i64 3], .int .i64 0]) ∧ Below w.heap.size w w' := fun w =>
    Split_yes 8 7 76 w ⟨by decide, by decide, by decide, by decide, by decide⟩
  have V1 := Lib.hid V1
  have V2 := Lib.hid V2
  have V3 := Lib.hid V3
  have K1 := Lib.hid K1
  have K2 := Lib.hid K2
  have S1 := Lib.hid S1
  have hTab := Lib.hid hT
  clear hT
  go_enter Tryd.func11, Tryd.ntmps11
  go_wp2_with fail
  refine (V1.out _ hTab.out).mono ?_; rintro e w1 ⟨rfl, b1⟩
  have hTab1 := Lib.hid (hTab.out.below b1)
  go_wp2_with fail
  refine (V2.out _ hTab1.out).mono ?_; rintro e w2 ⟨rfl, b2⟩
  have hTab2 := Lib.hid (hTab1.out.below b2)
  go_wp2_with fail
  refine (K1.out _ hTab2.out).mono ?_; rintro e w3 ⟨rfl, b3⟩
  have hTab3 := Lib.hid (hTab2.out.below b3)
  go_wp2_with fail
  refine (K2.out _ hTab3.out).mono ?_; rintro e w4 ⟨rfl, b4⟩
  go_wp2_with fail
  refine (V3.out _).mono ?_; rintro e w5 ⟨rfl, b5⟩
  go_wp2_with fail
  refine (S1.out _).mono ?_; rintro e w6 ⟨rfl, b6⟩
  go_wp2_with fail
  go_ret
  exact ⟨rfl, bgrow (bthen (bthen (bthen (bthen (bthen b1 b2) b3) b4) b5) b6) _⟩
end Go.Proofs.YtfmecakoccnblaaDoor

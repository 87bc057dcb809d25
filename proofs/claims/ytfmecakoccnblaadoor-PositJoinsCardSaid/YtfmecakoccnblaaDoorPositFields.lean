/- posit.split and posit.Split answer the fields of the plain law, and refuse all else. Conditions: none. -/
import Derived.Test.YtfmecakoccnblaaDoorPositSplit
import Derived.Test.YtfmecakoccnblaaDoorPositMath
import Derived.Test.YtfmecakoccnblaaDoorShelf
set_option linter.unusedVariables false
namespace Go.Proofs.YtfmecakoccnblaaDoor
open Go.RowKit

theorem lz_any (x : Nat) (h : x < 18446744073709551616) (r : Nat) (hr : r + Lib.bitLen x = 64) (w : World) :
    Calls Tryd.prog 34 #[.int .u64 x] w fun e w' => e = .returned (.int .i64 r) ∧ w = w' :=
  (Tryd.bits_LeadingZeros64 x w (by omega) (by omega)).mono fun e w' ⟨he, hw⟩ => ⟨by rw [he, Int.toNat_natCast]; congr 2; omega, hw.symm⟩

theorem xor_max (x : Nat) (h : x < 18446744073709551616) : bits .xor .u64 IntKind.u64.max x = ((18446744073709551615 - x : Nat) : Int) := by
  show IntKind.u64.wrap ((BitVec.ofInt 64 IntKind.u64.max ^^^ BitVec.ofInt 64 (x : Int)).toNat : Int) = _
  have h1 : BitVec.ofInt 64 IntKind.u64.max = BitVec.allOnes 64 := by decide
  have h2 : (BitVec.ofInt 64 (x : Int)).toNat = x := by
    rw [BitVec.ofInt_natCast, BitVec.toNat_ofNat]; exact Nat.mod_eq_of_lt (by omega)
  rw [h1, BitVec.allOnes_xor, BitVec.toNat_not, h2]
  exact wrap_u64_nat _ (by omega)

theorem u64_and_one (x : Nat) (hx : x < 18446744073709551616) : bits .and .u64 (x : Int) 1 = ((x % 2 : Nat) : Int) := by
  have := bits_and_u64_nat x 1 hx (by decide)
  rw [Nat.and_one_is_mod] at this
  exact this

theorem shl_bitLen (x k : Nat) (h0 : x ≠ 0) (h : x * 2 ^ k < 18446744073709551616) : Lib.bitLen (x * 2 ^ k) = Lib.bitLen x + k := by
  have hp := Nat.two_pow_pos k
  have hx : x < 18446744073709551616 := by
    have : x * 1 ≤ x * 2 ^ k := Nat.mul_le_mul_left _ hp
    omega
  rw [bitLen_log x h0 hx]
  have a := Nat.log2_self_le h0
  have b := Nat.lt_log2_self (n := x)
  have := bitLen_of (x * 2 ^ k) (x.log2 + k) (by rw [Nat.pow_add]; exact Nat.mul_le_mul_right _ a)
    (by rw [show x.log2 + k + 1 = (x.log2 + 1) + k by omega, Nat.pow_add]; exact Nat.mul_lt_mul_of_pos_right b hp) h
  omega

/-- split of a key that may be -/
theorem split_fields (wd : Int) (n key : Nat) (w : World) (hn : wd - 1 = (n : Int)) (h1 : 3 ≤ wd) (h2 : wd ≤ 65) (h3 : 0 < key) (h4 : key < 2 ^ n) :
    Calls Tryd.prog 23 #[.int .i64 wd, .int .u64 key] w fun e w' => e = .returned (.agg #[.int .i64 (fReg n key), .int .i64 (fExp n key), .int .u64 (fFrac n key), .int .i64 (fBits n key)]) ∧ w.alloc (.cells #[.int .i64 (fReg n key), .int .i64 (fExp n key), .int .u64 (fFrac n key), .int .i64 (fBits n key)] 25) = w' := by
  have n2 : 2 ≤ n := by omega
  have n64 : n ≤ 64 := by omega
  have hpn := pow_le64 n64
  have hk : key < 18446744073709551616 := by omega
  have k0 : ((key : Int) != 0) = true := by simp; omega
  have hp1 := pow_pred (n := n) (by omega)
  have kz : ((key : Int) / 2 ^ (n - 1) / 2 == 0) = true := by
    have : key / 2 ^ (n - 1) / 2 = 0 := by
      rw [Nat.div_div_eq_div_mul, Nat.mul_comm, ← hp1]; exact Nat.div_eq_of_lt h4
    rw [cast_shr]
    have e : (((key / 2 ^ (n - 1) : Nat) : Int) / 2) = ((key / 2 ^ (n - 1) / 2 : Nat) : Int) := by omega
    rw [e, this]; rfl
  have hsh : 2 ^ n * 2 ^ (64 - n) = 18446744073709551616 := by
    rw [← Nat.pow_add, show n + (64 - n) = 64 by omega]
  have hps := Nat.two_pow_pos (64 - n)
  have hhi : key * 2 ^ (64 - n) < 18446744073709551616 := by rw [← hsh]; exact Nat.mul_lt_mul_of_pos_right h4 hps
  have hhi' : IntKind.u64.wrap ((key : Int) * 2 ^ (64 - n)) = ((key * 2 ^ (64 - n) : Nat) : Int) := wrap_shl _ _ hhi
  have hbhi := shl_bitLen key (64 - n) (by omega) hhi
  obtain ⟨hrest, hl62⟩ := rest_lt n2 n64 h3 h4
  have hmask : ∀ l, l < 64 → bits .and .u64 key (IntKind.u64.wrap (IntKind.u64.wrap (2 ^ l) - 1)) = ((key % 2 ^ l : Nat) : Int) := fun l hl => u64_mask key l hk hl
  have many : 2 ≤ fLeft n key → fExp n key = fRest n key / 2 ^ fBits n key ∧ fExp n key ≤ 3 ∧ fBits n key + 2 = fLeft n key := by
    intro h
    have eb : fBits n key + 2 = fLeft n key := by unfold fBits; omega
    have e : fExp n key = fRest n key / 2 ^ fBits n key := by
      unfold fExp; rw [show 2 - fLeft n key = 0 by omega]; simp
    refine ⟨e, ?_, eb⟩
    rw [e]
    have : fRest n key / 2 ^ fBits n key < 4 := by
      rw [Nat.div_lt_iff_lt_mul (Nat.two_pow_pos _), show 4 * 2 ^ fBits n key = 2 ^ fLeft n key by rw [← eb, Nat.pow_add, Nat.mul_comm]]
      exact hrest
    omega
  have one : fLeft n key = 1 → fExp n key = fRest n key * 2 ∧ fFrac n key = 0 ∧ fBits n key = 0 := by
    intro h
    have eb : fBits n key = 0 := by unfold fBits; omega
    refine ⟨?_, ?_, eb⟩
    · unfold fExp; rw [eb, h]; simp
    · unfold fFrac; rw [eb]; exact Nat.mod_one _
  have none : fLeft n key = 0 → fExp n key = 0 ∧ fFrac n key = 0 ∧ fBits n key = 0 := by
    intro h
    have eb : fBits n key = 0 := by unfold fBits; omega
    have er : fRest n key = 0 := by rw [h] at hrest; simpa using hrest
    refine ⟨?_, ?_, eb⟩
    · unfold fExp; rw [eb, er]; simp
    · unfold fFrac; rw [eb]; exact Nat.mod_one _
  have hfr : 2 ≤ fLeft n key → bits .and .u64 (fRest n key) (IntKind.u64.wrap (IntKind.u64.wrap (2 ^ fBits n key) - 1)) = (fFrac n key : Int) := by
    intro h
    have eb : fBits n key + 2 = fLeft n key := (many h).2.2
    have : 2 ^ fLeft n key ≤ 18446744073709551616 := pow_le64 (by omega)
    exact u64_mask _ _ (by omega) (by omega)
  have hr64 : fRest n key < 18446744073709551616 := by
    have : 2 ^ fLeft n key ≤ 18446744073709551616 := pow_le64 (by omega)
    omega
  by_cases h5 : key < 2 ^ (n - 1)
  · obtain ⟨a1, a2, a3, a4, a5, a6⟩ := neg_parts n2 n64 h3 h5
    rw [a5]
    have L := fun w => lz_any (key * 2 ^ (64 - n)) hhi (fRun n key) (by omega) w
    have r0 : ((fRun n key : Int) == 0) = false := by simp; omega
    rcases Nat.lt_or_ge (fLeft n key) 2 with hl | hl
    · rcases Nat.lt_or_ge (fLeft n key) 1 with hl1 | hl1
      · obtain ⟨e1, e2, e3⟩ := none (by omega)
        rw [e1, e2, e3]
        exact split_walk_neg_none wd key n _ (fRun n key) 0 0 0 0 0 w hn h1 h2 n64 hk k0 kz hhi' L r0 (by omega) (by omega) (u64_and_zero key hk)
      · obtain ⟨e1, e2, e3⟩ := one (by omega)
        rw [e1, e2, e3]
        have er : fRest n key = key % 2 := by unfold fRest; rw [show fLeft n key = 1 by omega]
        have := split_walk_neg_one wd key n _ (fRun n key) 0 (fRest n key) 0 0 0 w hn h1 h2 n64 hk k0 kz hhi' L r0 (by omega) (by omega) (by rw [er]; exact u64_and_one key hk) (by omega)
        simpa using this
    · obtain ⟨e1, e2, e3⟩ := many hl
      exact split_walk_neg_many wd key n _ (fRun n key) (fLeft n key) (fRest n key) (fBits n key) (fExp n key) (fFrac n key) w hn h1 h2 n64 hk k0 kz hhi' L r0 (by omega) (by omega) hl (by omega) (by omega) (hmask _ (by omega)) hr64 (by omega) (by rw [cast_shr, e1]) e2 (hfr hl)
  · have b63 : Lib.bitLen key = n := by
      have := bitLen_of key (n - 1) (by omega) (by rw [show n - 1 + 1 = n by omega]; exact h4) hk
      omega
    have L0 := fun w => lz_any (key * 2 ^ (64 - n)) hhi 0 (by omega) w
    have hcm : bits .xor .u64 IntKind.u64.max ((key * 2 ^ (64 - n) : Nat) : Int) = ((18446744073709551615 - key * 2 ^ (64 - n) : Nat) : Int) := xor_max _ hhi
    have hc : 18446744073709551615 - key * 2 ^ (64 - n) = (2 ^ n - 1 - key) * 2 ^ (64 - n) + (2 ^ (64 - n) - 1) := by
      have e : (2 ^ n - 1 - key) * 2 ^ (64 - n) + (key + 1) * 2 ^ (64 - n) = 18446744073709551616 := by
        rw [← Nat.add_mul, show 2 ^ n - 1 - key + (key + 1) = 2 ^ n by omega, hsh]
      rw [Nat.add_mul, Nat.one_mul] at e
      omega
    by_cases h6 : key = 2 ^ n - 1
    · obtain ⟨a1, a2, a3, a4⟩ := all_parts n2 n64
      rw [← h6] at a1 a2 a3 a4
      obtain ⟨e1, e2, e3⟩ := none a2
      rw [a4, e1, e2, e3]
      have hz : 2 ^ n - 1 - key = 0 := by omega
      have hb : Lib.bitLen (18446744073709551615 - key * 2 ^ (64 - n)) = 64 - n := by
        rw [hc, hz, Nat.zero_mul, Nat.zero_add]
        by_cases hn64 : n = 64
        · subst hn64; rfl
        · have := pow_pred (n := 64 - n) (by omega)
          have hq := Nat.two_pow_pos (64 - n - 1)
          have hle := pow_le64 (n := 64 - n) (by omega)
          have := bitLen_of (2 ^ (64 - n) - 1) (64 - n - 1) (by omega) (by rw [show 64 - n - 1 + 1 = 64 - n by omega]; omega) (by omega)
          omega
      exact split_walk_pos_all wd key n _ 0 0 0 0 0 w hn h1 h2 n64 hk k0 kz hhi' L0 _ hcm (fun w => lz_any _ (by omega) n (by rw [hb]; omega) w) (by omega) (u64_and_zero key hk)
    · obtain ⟨a1, a2, a3, a4, a5, a6⟩ := pos_parts n2 n64 h4 (by omega) h6
      rw [a5]
      have hb : Lib.bitLen (18446744073709551615 - key * 2 ^ (64 - n)) = fLeft n key + 1 + (64 - n) := by
        have hcl : 2 ^ n - 1 - key ≠ 0 := by omega
        have hclt : 2 ^ n - 1 - key < 18446744073709551616 := by omega
        have hbl := bitLen_log _ hcl hclt
        have x1 := Nat.log2_self_le hcl
        have x2 := Nat.lt_log2_self (n := 2 ^ n - 1 - key)
        rw [hc]
        generalize 2 ^ n - 1 - key = c at *
        have y1 : 2 ^ (c.log2 + (64 - n)) ≤ c * 2 ^ (64 - n) := by rw [Nat.pow_add]; exact Nat.mul_le_mul_right _ x1
        have y2 : (c + 1) * 2 ^ (64 - n) ≤ 2 ^ (c.log2 + (64 - n) + 1) := by
          rw [show c.log2 + (64 - n) + 1 = (c.log2 + 1) + (64 - n) by omega, Nat.pow_add]; exact Nat.mul_le_mul_right _ x2
        rw [Nat.add_mul, Nat.one_mul] at y2
        have := bitLen_of (c * 2 ^ (64 - n) + (2 ^ (64 - n) - 1)) (c.log2 + (64 - n)) (by omega) (by omega) (by omega)
        omega
      have L := fun w => lz_any (18446744073709551615 - key * 2 ^ (64 - n)) (by omega) (fRun n key) (by rw [hb]; omega) w
      rcases Nat.lt_or_ge (fLeft n key) 2 with hl | hl
      · rcases Nat.lt_or_ge (fLeft n key) 1 with hl1 | hl1
        · obtain ⟨e1, e2, e3⟩ := none (by omega)
          rw [e1, e2, e3]
          exact split_walk_pos_none wd key n _ (fRun n key) 0 0 0 0 0 w hn h1 h2 n64 hk k0 kz hhi' L0 _ hcm L (by omega) (by omega) (by omega) (u64_and_zero key hk)
        · obtain ⟨e1, e2, e3⟩ := one (by omega)
          rw [e1, e2, e3]
          have er : fRest n key = key % 2 := by unfold fRest; rw [show fLeft n key = 1 by omega]
          have := split_walk_pos_one wd key n _ (fRun n key) 0 (fRest n key) 0 0 0 w hn h1 h2 n64 hk k0 kz hhi' L0 _ hcm L (by omega) (by omega) (by omega) (by rw [er]; exact u64_and_one key hk) (by omega)
          simpa using this
      · obtain ⟨e1, e2, e3⟩ := many hl
        exact split_walk_pos_many wd key n _ (fRun n key) (fLeft n key) (fRest n key) (fBits n key) (fExp n key) (fFrac n key) w hn h1 h2 n64 hk k0 kz hhi' L0 _ hcm L (by omega) (by omega) (by omega) hl (by omega) (by omega) (hmask _ (by omega)) hr64 (by omega) (by rw [cast_shr, e1]) e2 (hfr hl)
end Go.Proofs.YtfmecakoccnblaaDoor

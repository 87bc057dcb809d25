/- What numbers magnitudes mean, and which magnitude a number has: the plain law, and posit.Value and posit.Key by it. Conditions: as each theorem names them. -/
import Derived.Test.YtfmecakoccnblaaDoorPositKey
set_option linter.unusedVariables false
namespace Go.Proofs.YtfmecakoccnblaaDoor
open Go.RowKit

def fS (n key : Nat) : Int := fW n key / 4611686018427387904
def fA (n key : Nat) : Nat := 4611686018427387904 + (fW n key % 4611686018427387904).toNat
/-- the odd number, and the power of two, of a key -/
def fM (n key : Nat) : Nat := fA n key / 2 ^ Lib.ctz 64 (fA n key)
def fE (n key : Nat) : Int := fS n key - 62 + Lib.ctz 64 (fA n key)
/-- the whole of an odd number times a power of two -/
def numW (m : Nat) (e : Int) : Int := (e + Nat.log2 m) * 4611686018427387904 + ((m - 2 ^ Nat.log2 m) * 2 ^ (62 - Nat.log2 m) : Nat)

theorem tail_parts {n key : Nat} (h1 : 2 ≤ n) (h2 : n ≤ 64) (h3 : 0 < key) (h4 : key < 2 ^ n) :
    fTail n key = fExp n key * 4611686018427387904 + fFrac n key * 2 ^ (62 - fBits n key) ∧ fExp n key ≤ 3 ∧ fFrac n key < 2 ^ fBits n key ∧ fBits n key ≤ 60 := by
  obtain ⟨hr, hl⟩ := rest_lt h1 h2 h3 h4
  have hb : fBits n key ≤ 60 := by unfold fBits; omega
  have hf : fFrac n key < 2 ^ fBits n key := Nat.mod_lt _ (Nat.two_pow_pos _)
  have hlt := tail_lt h1 h2 h3 h4
  have e62 : (4611686018427387904 : Nat) = 2 ^ 62 := by decide
  by_cases h : 2 ≤ fLeft n key
  · have eb : fBits n key + 2 = fLeft n key := by unfold fBits; omega
    have ee : fExp n key = fRest n key / 2 ^ fBits n key := by
      unfold fExp; rw [show 2 - fLeft n key = 0 by omega]; simp
    have et : fTail n key = fExp n key * 4611686018427387904 + fFrac n key * 2 ^ (62 - fBits n key) := by
      have hdm := Nat.div_add_mod (fRest n key) (2 ^ fBits n key)
      unfold fTail fFrac
      rw [ee, show 64 - fLeft n key = 62 - fBits n key by omega, e62, show (2 : Nat) ^ 62 = 2 ^ fBits n key * 2 ^ (62 - fBits n key) by rw [← Nat.pow_add]; congr 1; omega, ← Nat.mul_assoc, ← Nat.add_mul, Nat.mul_comm (_ / _), hdm]
    exact ⟨et, by omega, hf, hb⟩
  · have eb : fBits n key = 0 := by unfold fBits; omega
    have ef : fFrac n key = 0 := by unfold fFrac; rw [eb]; exact Nat.mod_one _
    have et : fTail n key = fExp n key * 4611686018427387904 + fFrac n key * 2 ^ (62 - fBits n key) := by
      rw [ef, Nat.zero_mul, Nat.add_zero]
      unfold fTail fExp
      rw [eb, Nat.pow_zero, Nat.div_one, e62, Nat.mul_assoc, ← Nat.pow_add]
      congr 2; omega
    exact ⟨et, by omega, hf, hb⟩

theorem SA_parts {n key : Nat} (h1 : 2 ≤ n) (h2 : n ≤ 64) (h3 : 0 < key) (h4 : key < 2 ^ n) :
    fS n key = fReg n key * 4 + fExp n key ∧ fA n key = 2 ^ (62 - fBits n key) * fSig n key := by
  obtain ⟨a, b, c, d⟩ := tail_parts h1 h2 h3 h4
  have e : 2 ^ fBits n key * 2 ^ (62 - fBits n key) = 4611686018427387904 := by
    rw [← Nat.pow_add, show fBits n key + (62 - fBits n key) = 62 by omega]
  have hlt : fFrac n key * 2 ^ (62 - fBits n key) < 4611686018427387904 := by
    rw [← e]; exact Nat.mul_lt_mul_of_pos_right c (Nat.two_pow_pos _)
  have hA : fA n key = 4611686018427387904 + fFrac n key * 2 ^ (62 - fBits n key) := by unfold fA fW; omega
  constructor
  · unfold fS fW; omega
  · rw [hA]
    unfold fSig
    rw [Nat.mul_add, Nat.mul_comm (2 ^ (62 - fBits n key)) (2 ^ fBits n key), e, Nat.mul_comm (2 ^ (62 - fBits n key))]
    omega

theorem A_range (n key : Nat) : 4611686018427387904 ≤ fA n key ∧ fA n key < 9223372036854775808 := by
  unfold fA; omega
theorem W_SA (n key : Nat) : fW n key = fS n key * 4611686018427387904 + (fA n key - 4611686018427387904 : Nat) := by
  unfold fS fA; omega

/-- the odd number of a key, in parts -/
theorem M_parts (n key : Nat) : ∃ k q, fM n key = 2 * q + 1 ∧ Lib.ctz 64 (fA n key) = k ∧ fA n key = 2 ^ k * (2 * q + 1) ∧ k ≤ 62 ∧ Nat.log2 (2 * q + 1) + k = 62 ∧ fE n key = fS n key - 62 + k := by
  obtain ⟨a1, a2⟩ := A_range n key
  obtain ⟨k, q, e1, e2, e3, e4⟩ := odd_parts (fA n key) (by omega) (by omega)
  have hl : Nat.log2 (fA n key) = 62 := log2_of _ 62 (by omega) (by omega)
  have hlog : Nat.log2 (fA n key) = k + Nat.log2 (2 * q + 1) := by
    apply log2_of
    · rw [e1, Nat.pow_add]
      exact Nat.mul_le_mul_left _ (Nat.log2_self_le (by omega))
    · rw [e1, show k + (2 * q + 1).log2 + 1 = k + ((2 * q + 1).log2 + 1) by omega, Nat.pow_add]
      exact Nat.mul_lt_mul_of_pos_left Nat.lt_log2_self (Nat.two_pow_pos k)
  refine ⟨k, q, ?_, e2, e1, by omega, by omega, ?_⟩
  · unfold fM; rw [e2, e4]
  · unfold fE; rw [e2]

theorem numW_of_key (n key : Nat) : numW (fM n key) (fE n key) = fW n key := by
  obtain ⟨k, q, e1, e2, e3, e4, e5, e6⟩ := M_parts n key
  obtain ⟨a1, a2⟩ := A_range n key
  rw [W_SA]
  unfold numW
  rw [e1, e6]
  have hlog : (2 * q + 1).log2 = 62 - k := by omega
  rw [hlog, show 62 - (62 - k) = k by omega, Nat.sub_mul, ← Nat.pow_add, show 62 - k + k = 62 by omega, Nat.mul_comm (2 * q + 1), ← e3]
  have : (2 : Nat) ^ 62 = 4611686018427387904 := by decide
  rw [this]
  have : fS n key - 62 + (k : Int) + ((62 - k : Nat) : Int) = fS n key := by omega
  rw [this]

/-- an odd number has one whole -/
theorem numW_inj {m n : Nat} {d e : Int} (hm : m % 2 = 1) (hn : n % 2 = 1) (lm : Nat.log2 m ≤ 62) (ln : Nat.log2 n ≤ 62) (h : numW m d = numW n e) : m = n ∧ d = e := by
  have key : ∀ x : Nat, x % 2 = 1 → Nat.log2 x ≤ 62 → (x - 2 ^ Nat.log2 x) * 2 ^ (62 - Nat.log2 x) + 4611686018427387904 = x * 2 ^ (62 - Nat.log2 x) ∧ (x - 2 ^ Nat.log2 x) * 2 ^ (62 - Nat.log2 x) < 4611686018427387904 := by
    intro x hx lx
    have a := Nat.log2_self_le (n := x) (by omega)
    have b := Nat.lt_log2_self (n := x)
    have e : 2 ^ Nat.log2 x * 2 ^ (62 - Nat.log2 x) = 4611686018427387904 := by
      rw [← Nat.pow_add, show Nat.log2 x + (62 - Nat.log2 x) = 62 by omega]
    rw [Nat.pow_succ] at b
    constructor
    · rw [Nat.sub_mul, e]
      have := Nat.mul_le_mul_right (2 ^ (62 - Nat.log2 x)) a
      omega
    · rw [← e]
      exact Nat.mul_lt_mul_of_pos_right (by omega) (Nat.two_pow_pos _)
  obtain ⟨k1, k2⟩ := key m hm lm
  obtain ⟨k3, k4⟩ := key n hn ln
  unfold numW at h
  have hs : d + m.log2 = e + n.log2 := by omega
  have ht : m * 2 ^ (62 - m.log2) = n * 2 ^ (62 - n.log2) := by omega
  have hp : m * 2 ^ (62 - m.log2) < 18446744073709551616 := by omega
  have c1 := ctz_of (62 - m.log2) (m / 2) (by rw [show 2 * (m / 2) + 1 = m by omega, Nat.mul_comm]; exact hp)
  have c2 := ctz_of (62 - n.log2) (n / 2) (by rw [show 2 * (n / 2) + 1 = n by omega, Nat.mul_comm, ← ht]; exact hp)
  rw [show 2 * (m / 2) + 1 = m by omega, Nat.mul_comm] at c1
  rw [show 2 * (n / 2) + 1 = n by omega, Nat.mul_comm, ← ht] at c2
  have hl : 62 - m.log2 = 62 - n.log2 := by omega
  rw [hl] at ht
  exact ⟨Nat.eq_of_mul_eq_mul_right (Nat.two_pow_pos _) ht, by omega⟩

theorem M_odd (n key : Nat) : fM n key % 2 = 1 ∧ Nat.log2 (fM n key) ≤ 62 ∧ fM n key < 9223372036854775808 := by
  obtain ⟨k, q, e1, e2, e3, e4, e5, e6⟩ := M_parts n key
  obtain ⟨a1, a2⟩ := A_range n key
  refine ⟨by omega, by rw [e1]; omega, ?_⟩
  have : fM n key ≤ fA n key := Nat.div_le_self _ _
  omega

/-- the number of a key is that of a whole, just if the wholes are the same -/
theorem ME_iff {n key m : Nat} {e : Int} (hm : m % 2 = 1) (lm : Nat.log2 m ≤ 62) : (fM n key = m ∧ fE n key = e) ↔ fW n key = numW m e := by
  constructor
  · rintro ⟨rfl, rfl⟩
    exact (numW_of_key n key).symm
  · intro h
    rw [← numW_of_key] at h
    obtain ⟨a, b, _⟩ := M_odd n key
    exact numW_inj a hm b lm h

theorem reg_bounds {n key : Nat} (h1 : 2 ≤ n) (h2 : n ≤ 64) (h3 : 0 < key) (h4 : key < 2 ^ n) : -64 ≤ fReg n key ∧ fReg n key ≤ 63 := by
  rcases reg_cases h1 h2 h3 h4 with ⟨a, b, c⟩ | ⟨a, b, c⟩ | ⟨a, b, c⟩ <;> omega
theorem E_bounds {n key : Nat} (h1 : 2 ≤ n) (h2 : n ≤ 64) (h3 : 0 < key) (h4 : key < 2 ^ n) : -400 ≤ fE n key ∧ fE n key ≤ 400 ∧ -300 ≤ fS n key ∧ fS n key ≤ 300 := by
  obtain ⟨k, q, e1, e2, e3, e4, e5, e6⟩ := M_parts n key
  obtain ⟨a, b⟩ := reg_bounds h1 h2 h3 h4
  obtain ⟨s, _⟩ := SA_parts h1 h2 h3 h4
  obtain ⟨_, x, _, _⟩ := tail_parts h1 h2 h3 h4
  omega

theorem value_yes (wd : Int) (n key : Nat) (w : World) (hT : Tab w) (h : Fit wd n key) :
    Calls Tryd.prog 26 #[.int .i64 wd, .int .u64 key] w fun e w' => e = .returned (.tuple #[.int .u64 (fM n key), .int .i64 (fE n key)]) ∧
      ∃ k, w' = ((w.alloc (.cells #[.int .i64 (fReg n key), .int .i64 (fExp n key), .int .u64 (fFrac n key), .int .i64 (fBits n key)] 25)).alloc (.cells #[.int .i64 (fReg n key), .int .i64 (fExp n key), .int .u64 (fFrac n key), .int .i64 (fBits n key)] 25)).drewN k := by
  obtain ⟨hn, h1, h2, h3, h4⟩ := h
  have n2 : 2 ≤ n := by omega
  have n64 : n ≤ 64 := by omega
  obtain ⟨t1, t2, t3, t4⟩ := tail_parts n2 n64 h3 h4
  obtain ⟨s1, s2⟩ := SA_parts n2 n64 h3 h4
  obtain ⟨r1, r2⟩ := reg_bounds n2 n64 h3 h4
  obtain ⟨k, q, e1, e2, e3, e4, e5, e6⟩ := M_parts n key
  obtain ⟨a1, a2⟩ := A_range n key
  have hp0 := Nat.two_pow_pos (fBits n key)
  have hp60 := pow_le (show fBits n key ≤ 60 from t4)
  have sg0 : fSig n key ≠ 0 := by unfold fSig; omega
  have sg1 : fSig n key < 2 ^ 61 := by unfold fSig; omega
  obtain ⟨c, r, f1, f2, f3, f4⟩ := odd_parts (fSig n key) sg0 (by omega)
  have hor : bits .or .u64 (IntKind.u64.wrap (2 ^ fBits n key)) (fFrac n key : Int) = (fSig n key : Int) := by
    have := pow_lt64 (show fBits n key < 64 by omega)
    rw [wrap_pow (by omega), bits_or_u64_nat _ _ this (by omega)]
    have := or_shl (fFrac n key) 1 _ t3
    rw [Nat.one_mul] at this
    rw [this]
    unfold fSig
    rw [Nat.add_comm]
  have hA : fA n key = 2 ^ (62 - fBits n key + c) * (2 * r + 1) := by
    rw [s2, f1, ← Nat.mul_assoc, ← Nat.pow_add]
  have hk : k = 62 - fBits n key + c := by
    have := ctz_of (62 - fBits n key + c) r (by rw [← hA]; omega)
    rw [← hA, e2] at this; exact this
  have hq : 2 * q + 1 = 2 * r + 1 := by
    rw [e3, hk] at hA
    exact Nat.eq_of_mul_eq_mul_left (Nat.two_pow_pos _) hA
  have V := value_walk wd key (fReg n key) (fExp n key) (fFrac n key) (fBits n key) (fSig n key) c w hT t4 (by omega) (by omega) t2 (fun w => split_fields wd n key w hn h1 h2 h3 h4) hor sg0 (by omega) f2 (by omega)
  rw [f4, ← hq, ← e1, show (fReg n key * 4 + (fExp n key : Int) - (fBits n key : Int) + (c : Int)) = fE n key by rw [e6, s1, hk]; omega] at V
  exact V

theorem setCell_drewN' (w : World) (k : Nat) (a : Addr) (v : Value) : (w.drewN k).setCell a v = (w.setCell a v).drewN k := rfl
theorem Value_yes (wd : Int) (n key : Nat) (w : World) (hT : Tab w) (h : Fit wd n key) :
    Calls Tryd.prog 14 #[.int .i64 wd, .int .u64 key] w fun e w' => e = .returned (.tuple #[.int .u64 (fM n key), .int .i64 (fE n key), .int .i64 0]) ∧ Below w.heap.size w w' := by
  have V := Lib.hid (fun w hT => value_yes wd n key w hT h)
  have hTab := Lib.hid hT
  clear h hT
  go_enter_defers Tryd.func14, Tryd.ntmps14
  go_wp2_with fail
  refine (V.out _ (hTab.out.alloc _)).mono ?_; rintro e w1 ⟨rfl, k, rfl⟩
  go_wp2_with fail
  refine leaves_cons (f := 22) (args := #[.pointer (some ⟨w.heap.size, 0, none⟩)]) (by simp) (by simp [go_sem]) ?_
  refine (caught_idle _ _).mono ?_
  rintro e u' w'' ⟨rfl, rfl, rfl⟩
  refine leaves_ret (v := .tuple #[.int .u64 (fM n key), .int .i64 (fE n key), .int .i64 0]) ?_ ⟨rfl, ?_⟩
  · rw [setCell_drewN']
    simp [results, Tryd.results14, go_sem]
  · refine Below.setCell ?_ (by simp) _
    exact below_drewN ((((Below.refl _ _).alloc (Nat.le_refl _) _).alloc (by simp) _).alloc (by simp; omega) _) _

theorem value_no (wd : Int) (key : Nat) (w : World) (h : ¬ ∃ n, Fit wd n key) :
    Calls Tryd.prog 26 #[.int .i64 wd, .int .u64 key] w fun e w' => e = .panicked [{ v := ref 1, recovered := false }] ∧ w.alloc (.cells #[.int .i64 0, .int .i64 0, .int .u64 0, .int .i64 0] 25) = w' := by
  have S := Lib.hid (fun w => split_no wd key w h)
  clear h
  go_enter Tryd.func26, Tryd.ntmps26
  go_wp2_with fail
  refine (S.out _).mono ?_; rintro e w1 ⟨rfl, rfl⟩
  go_wp2_with fail
  exact ⟨rfl, rfl, rfl⟩
theorem Value_no (wd : Int) (key : Nat) (w : World) (h : ¬ ∃ n, Fit wd n key) :
    Calls Tryd.prog 14 #[.int .i64 wd, .int .u64 key] w fun e w' => e = .returned (.tuple #[.int .u64 0, .int .i64 0, .int .i64 1]) ∧ Below w.heap.size w w' := by
  have V := Lib.hid (fun w => value_no wd key w h)
  clear h
  go_enter_defers Tryd.func14, Tryd.ntmps14
  go_wp2_with fail
  refine (V.out _).mono ?_; rintro e w1 ⟨rfl, rfl⟩
  go_wp2_with fail
  refine leaves_cons (f := 22) (args := #[.pointer (some ⟨w.heap.size, 0, none⟩)]) (by simp) (by simp [go_sem]) ?_
  refine (caught_panicking _ 0 1 [] _ (by simp [go_sem]) (by simp [go_sem]) (by simp; omega)).mono ?_
  rintro e u' w'' ⟨rfl, rfl, rfl⟩
  refine leaves_rec (v := .tuple #[.int .u64 0, .int .i64 0, .int .i64 1]) ?_ ⟨rfl, ?_⟩
  · simp [results, Tryd.results14, go_sem]
  · refine Below.setCell ?_ (by simp) _
    exact (((Below.refl _ _).alloc (Nat.le_refl _) _).alloc (by simp) _).alloc (by simp; omega) _
end Go.Proofs.YtfmecakoccnblaaDoor

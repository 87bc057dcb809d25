/- posit.join answers the key of a regime and of what stands behind it, if there is one; else it refuses. Conditions: as each theorem names them. -/
import Derived.Test.YtfmecakoccnblaaDoorPositJoin
import Derived.Test.YtfmecakoccnblaaDoorPositCalls
set_option linter.unusedVariables false
namespace Go.Proofs.YtfmecakoccnblaaDoor
open Go.RowKit

theorem neg_made {n l r : Nat} (h1 : 2 ≤ n) (h2 : n ≤ 64) (hl : l + 2 ≤ n) (hr : r < 2 ^ l) :
    0 < 2 ^ l + r ∧ 2 ^ l + r < 2 ^ n ∧ fReg n (2 ^ l + r) = -((n - l - 1 : Nat) : Int) ∧ fLeft n (2 ^ l + r) = l ∧ fRest n (2 ^ l + r) = r := by
  have hp := pow_pred (n := n) (by omega)
  have hq := pow_le (show l + 1 ≤ n - 1 by omega)
  rw [pow_add_one] at hq
  have h0 : 0 < 2 ^ l := Nat.two_pow_pos l
  obtain ⟨a, b, c, d, e, _⟩ := neg_parts h1 h2 (key := 2 ^ l + r) (by omega) (by omega)
  generalize hL : fLeft n (2 ^ l + r) = L at *
  have : L = l := by
    rcases Nat.lt_trichotomy L l with x | x | x
    · have := pow_le (show L + 1 ≤ l by omega)
      rw [pow_add_one] at this; omega
    · exact x
    · have := pow_le (show l + 1 ≤ L by omega)
      rw [pow_add_one] at this; omega
  subst this
  exact ⟨by omega, by omega, by omega, rfl, by omega⟩

theorem pos_made {n l r : Nat} (h1 : 2 ≤ n) (h2 : n ≤ 64) (hl : l + 2 ≤ n) (hr : r < 2 ^ l) :
    0 < 2 ^ n - 2 ^ (l + 1) + r ∧ 2 ^ n - 2 ^ (l + 1) + r < 2 ^ n ∧ fReg n (2 ^ n - 2 ^ (l + 1) + r) = ((n - l - 2 : Nat) : Int) ∧ fLeft n (2 ^ n - 2 ^ (l + 1) + r) = l ∧ fRest n (2 ^ n - 2 ^ (l + 1) + r) = r := by
  have hp := pow_pred (n := n) (by omega)
  have hq := pow_le (show l + 1 ≤ n - 1 by omega)
  have hs := pow_add_one l
  have h0 : 0 < 2 ^ l := Nat.two_pow_pos l
  obtain ⟨a, b, c, d, e, _⟩ := pos_parts h1 h2 (key := 2 ^ n - 2 ^ (l + 1) + r) (by omega) (by omega) (by omega)
  generalize hL : fLeft n (2 ^ n - 2 ^ (l + 1) + r) = L at *
  rw [pow_add_one L] at c
  have : L = l := by
    rcases Nat.lt_trichotomy L l with x | x | x
    · have := pow_le (show L + 1 ≤ l by omega)
      rw [pow_add_one] at this; omega
    · exact x
    · have := pow_le (show l + 1 ≤ L by omega)
      rw [pow_add_one] at this; omega
  subst this
  exact ⟨by omega, by omega, by omega, rfl, by omega⟩

/-- what a regime says of the key -/
theorem reg_cases {n key : Nat} (h1 : 2 ≤ n) (h2 : n ≤ 64) (h3 : 0 < key) (h4 : key < 2 ^ n) :
    (fReg n key < 0 ∧ fReg n key = -((n - fLeft n key - 1 : Nat) : Int) ∧ fLeft n key + 2 ≤ n) ∨ (0 ≤ fReg n key ∧ fReg n key = ((n - fLeft n key - 2 : Nat) : Int) ∧ fLeft n key + 2 ≤ n) ∨ (fReg n key = (n : Int) - 1 ∧ key = 2 ^ n - 1 ∧ fTail n key = 0) := by
  by_cases h5 : key < 2 ^ (n - 1)
  · obtain ⟨a, b, c, d, e, _⟩ := neg_parts h1 h2 h3 h5
    exact Or.inl ⟨by omega, by omega, by omega⟩
  · by_cases h6 : key = 2 ^ n - 1
    · obtain ⟨a, b, c, d⟩ := all_parts h1 h2
      rw [← h6] at a b c d
      exact Or.inr (Or.inr ⟨d, h6, by unfold fTail; rw [c, Nat.zero_mul]⟩)
    · obtain ⟨a, b, c, d, e, _⟩ := pos_parts h1 h2 h4 (by omega) h6
      exact Or.inr (Or.inl ⟨by omega, by omega, by omega⟩)

theorem scale_eq {a b x y : Nat} (hxy : x ≤ y) (hy : y ≤ 64) (h : a * 2 ^ (64 - x) = b * 2 ^ (64 - y)) : b = a * 2 ^ (y - x) := by
  have e : 2 ^ (64 - x) = 2 ^ (y - x) * 2 ^ (64 - y) := by rw [← Nat.pow_add]; congr 1; omega
  rw [e, ← Nat.mul_assoc] at h
  exact (Nat.eq_of_mul_eq_mul_right (Nat.two_pow_pos _) h).symm
theorem scale_up {r x y : Nat} (hxy : x ≤ y) (hy : y ≤ 64) : r * 2 ^ (y - x) * 2 ^ (64 - y) = r * 2 ^ (64 - x) := by
  rw [Nat.mul_assoc, ← Nat.pow_add]; congr 2; omega

theorem wrap_all {k : Nat} (h : k ≤ 64) : IntKind.u64.wrap (IntKind.u64.wrap ((2 : Int) ^ k) - 1) = ((2 ^ k - 1 : Nat) : Int) := by
  by_cases h64 : k = 64
  · subst h64; decide
  · exact wrap_pow_sub (by omega)
theorem u64_mask' (x k : Nat) (hx : x < 18446744073709551616) (h : k ≤ 64) :
    bits .and .u64 (x : Int) (IntKind.u64.wrap (IntKind.u64.wrap (2 ^ k) - 1)) = ((x % 2 ^ k : Nat) : Int) := by
  have hp := pow_le64 h
  have h0 := Nat.two_pow_pos k
  rw [wrap_all h, bits_and_u64_nat _ _ hx (by omega), Nat.and_two_pow_sub_one_eq_mod]

/-- is this the key of a regime and a tail? -/
def Made (n : Nat) (regime : Int) (tail key : Nat) : Prop := 0 < key ∧ key < 2 ^ n ∧ fReg n key = regime ∧ fTail n key = tail

theorem join_main (wd regime : Int) (n rest size : Nat) (hn : wd - 1 = (n : Int)) (h1 : 3 ≤ wd) (h2 : wd ≤ 65) (hs1 : 1 ≤ size) (hs64 : size ≤ 64) (hr : rest < 2 ^ size) (hb1 : -10000 ≤ regime) (hb2 : regime ≤ 10000) :
    (∃ key, Made n regime (rest * 2 ^ (64 - size)) key ∧ ∀ w, Calls Tryd.prog 31 #[.int .i64 wd, .int .i64 regime, .int .u64 rest, .int .i64 size] w fun e w' => e = .returned (.int .u64 key) ∧ w = w') ∨
    ((¬ ∃ key, Made n regime (rest * 2 ^ (64 - size)) key) ∧ ∀ w, Calls Tryd.prog 31 #[.int .i64 wd, .int .i64 regime, .int .u64 rest, .int .i64 size] w fun e w' => e = .panicked [{ v := ref 8, recovered := false }] ∧ w = w') := by
  have n2 : 2 ≤ n := by omega
  have n64 : n ≤ 64 := by omega
  have hp := pow_pred (n := n) (by omega)
  have hr64 : rest < 18446744073709551616 := Nat.lt_of_lt_of_le hr (pow_le64 hs64)
  have hpn := pow_le64 n64
  by_cases hreg : 0 ≤ regime
  · obtain ⟨run, hrun⟩ : ∃ run : Nat, regime + 1 = (run : Int) := ⟨(regime + 1).toNat, by omega⟩
    rcases Nat.lt_trichotomy n run with hf | hf | hf
    · right
      refine ⟨?_, fun w => join_ones_far wd regime n run 0 rest size w hn h1 h2 hr64 hs64 hrun hreg hb2 hf⟩
      rintro ⟨key, k1, k2, k3, k4⟩
      rcases reg_cases n2 n64 k1 k2 with ⟨a, b, c⟩ | ⟨a, b, c⟩ | ⟨a, b, c⟩ <;> omega
    · -- ones alone
      by_cases hz : rest = 0
      · left
        subst hz
        obtain ⟨a1, a2, a3, a4⟩ := all_parts n2 n64
        refine ⟨2 ^ n - 1, ⟨by have := Nat.two_pow_pos (n - 1); omega, by have := Nat.two_pow_pos n; omega, by omega, by unfold fTail; rw [a3]; simp⟩, fun w => ?_⟩
        subst hf
        exact join_ones_full_down wd regime n n 0 0 size w hn h1 h2 hr64 hs64 hrun hreg hb2 rfl (by omega) size (by omega) hs1 hs64 (by rw [u64_mask' 0 size hr64 hs64]; simp) 0 (2 ^ n - 1) (2 ^ n - 1) (by simp) n64 (wrap_all n64) (wrap_u64_nat _ (by omega)) (by rw [bits_or_u64_nat _ _ (by omega) (by decide)]; simp)
      · right
        constructor
        · rintro ⟨key, k1, k2, k3, k4⟩
          have : 0 < rest * 2 ^ (64 - size) := Nat.mul_pos (by omega) (Nat.two_pow_pos _)
          rcases reg_cases n2 n64 k1 k2 with ⟨a, b, c⟩ | ⟨a, b, c⟩ | ⟨a, b, c⟩ <;> omega
        · intro w
          subst hf
          exact join_ones_full_lost wd regime n n 0 rest size w hn h1 h2 hr64 hs64 hrun hreg hb2 rfl (by omega) size rest (by omega) hs1 hs64 (by rw [u64_mask' rest size hr64 hs64, Nat.mod_eq_of_lt hr]) (by simp; omega)
    · obtain ⟨left, hl⟩ : ∃ left : Nat, n = run + left + 1 := ⟨n - run - 1, by omega⟩
      have hleft : (n : Int) - run - 1 = (left : Int) := by omega
      have ht : IntKind.u64.wrap (IntKind.u64.wrap (IntKind.u64.wrap (2 ^ run) - 1) * 2 ^ (n - run)) = ((2 ^ n - 2 ^ (left + 1) : Nat) : Int) := by
        have hq := Nat.two_pow_pos run
        have hq2 := Nat.two_pow_pos (left + 1)
        have e : (2 ^ run - 1) * 2 ^ (n - run) = 2 ^ n - 2 ^ (left + 1) := by
          rw [Nat.sub_mul, Nat.one_mul, ← Nat.pow_add, show run + (n - run) = n by omega, show n - run = left + 1 by omega]
        rw [wrap_all (by omega), cast_shl, e, wrap_u64_nat _ (by omega)]
      have hor : ∀ r : Nat, r < 2 ^ left → bits .or .u64 ((2 ^ n - 2 ^ (left + 1) : Nat) : Int) (r : Int) = ((2 ^ n - 2 ^ (left + 1) + r : Nat) : Int) := by
        intro r hr
        have hle := pow_le (show left + 1 ≤ n by omega)
        have hs := pow_add_one left
        have e : 2 ^ n - 2 ^ (left + 1) = (2 ^ run - 1) * 2 ^ (left + 1) := by
          rw [Nat.sub_mul, Nat.one_mul, ← Nat.pow_add, show run + (left + 1) = n by omega]
        rw [bits_or_u64_nat _ _ (by omega) (by omega), e, or_shl _ _ _ (by omega)]
      rcases Nat.lt_or_ge left size with hsl | hsl
      · have hd : (size : Int) - left = ((size - left : Nat) : Int) := by omega
        by_cases hz : rest % 2 ^ (size - left) = 0
        · left
          have hdiv : rest / 2 ^ (size - left) * 2 ^ (size - left) = rest := by
            have := Nat.div_add_mod rest (2 ^ (size - left))
            rw [hz, Nat.mul_comm] at this; omega
          have hrs : rest / 2 ^ (size - left) < 2 ^ left := by
            rw [Nat.div_lt_iff_lt_mul (Nat.two_pow_pos _), ← Nat.pow_add, show left + (size - left) = size by omega]; exact hr
          obtain ⟨b1, b2, b3, b4, b5⟩ := pos_made n2 n64 (show left + 2 ≤ n by omega) hrs
          refine ⟨_, ⟨b1, b2, by omega, ?_⟩, fun w => join_ones_some_down wd regime n run left rest size w hn h1 h2 hr64 hs64 hrun hreg hb2 hf hleft (size - left) hd (by omega) (by omega) (by rw [u64_mask' _ _ hr64 (by omega), hz]; rfl) _ _ _ (cast_shr _ _) n64 (by omega) ht (hor _ hrs)⟩
          unfold fTail
          rw [b4, b5]
          conv => rhs; rw [← hdiv]
          rw [scale_up (by omega) hs64]
        · right
          constructor
          · rintro ⟨key, k1, k2, k3, k4⟩
            rcases reg_cases n2 n64 k1 k2 with ⟨a, b, c⟩ | ⟨a, b, c⟩ | ⟨a, b, c⟩
            · omega
            · have hlk : fLeft n key = left := by omega
              unfold fTail at k4
              rw [hlk] at k4
              have := scale_eq (by omega) hs64 k4
              rw [this] at hz
              exact hz (Nat.mul_mod_left _ _)
            · omega
          · intro w
            exact join_ones_some_lost wd regime n run left rest size w hn h1 h2 hr64 hs64 hrun hreg hb2 hf hleft (size - left) (rest % 2 ^ (size - left)) hd (by omega) (by omega) (u64_mask' _ _ hr64 (by omega)) (by generalize rest % 2 ^ (size - left) = z at *; simp; omega)
      · left
        have hd : (left : Int) - size = ((left - size : Nat) : Int) := by omega
        have hrs : rest * 2 ^ (left - size) < 2 ^ left := by
          have := Nat.mul_lt_mul_of_pos_right hr (Nat.two_pow_pos (left - size))
          rw [← Nat.pow_add, show size + (left - size) = left by omega] at this; exact this
        have hll := pow_le64 (show left ≤ 64 by omega)
        obtain ⟨b1, b2, b3, b4, b5⟩ := pos_made n2 n64 (show left + 2 ≤ n by omega) hrs
        refine ⟨_, ⟨b1, b2, by omega, ?_⟩, fun w => join_ones_some_up wd regime n run left rest size w hn h1 h2 hr64 hs64 hrun hreg hb2 hf hleft (left - size) hd hsl (by omega) _ _ _ (wrap_shl _ _ (by omega)) n64 (by omega) ht (hor _ hrs)⟩
        unfold fTail
        rw [b4, b5, scale_up hsl (by omega)]
  · obtain ⟨run, hrun⟩ : ∃ run : Nat, -regime = (run : Int) := ⟨(-regime).toNat, by omega⟩
    rcases Nat.lt_trichotomy n run with hf | hf | hf
    · right
      refine ⟨?_, fun w => join_zeros_far wd regime n run 0 rest size w hn h1 h2 hr64 hs64 hrun (by omega) hb1 hf⟩
      rintro ⟨key, k1, k2, k3, k4⟩
      rcases reg_cases n2 n64 k1 k2 with ⟨a, b, c⟩ | ⟨a, b, c⟩ | ⟨a, b, c⟩ <;> omega
    · right
      constructor
      · rintro ⟨key, k1, k2, k3, k4⟩
        rcases reg_cases n2 n64 k1 k2 with ⟨a, b, c⟩ | ⟨a, b, c⟩ | ⟨a, b, c⟩ <;> omega
      · intro w
        subst hf
        by_cases hz : rest = 0
        · subst hz
          exact join_zeros_full_none wd regime n n 0 0 size w hn h1 h2 hr64 hs64 hrun (by omega) hb1 rfl (by omega) size (by omega) hs1 hs64 (by rw [u64_mask' 0 size hr64 hs64]; simp)
        · exact join_zeros_full_lost wd regime n n 0 rest size w hn h1 h2 hr64 hs64 hrun (by omega) hb1 rfl (by omega) size rest (by omega) hs1 hs64 (by rw [u64_mask' rest size hr64 hs64, Nat.mod_eq_of_lt hr]) (by simp; omega)
    · obtain ⟨left, hl⟩ : ∃ left : Nat, n = run + left + 1 := ⟨n - run - 1, by omega⟩
      have hleft : (n : Int) - run - 1 = (left : Int) := by omega
      have hne : ((run : Int) == (n : Int)) = false := by simp; omega
      have hor : ∀ r : Nat, r < 2 ^ left → bits .or .u64 (IntKind.u64.wrap (2 ^ left)) (r : Int) = ((2 ^ left + r : Nat) : Int) := by
        intro r hr
        have hle := pow_lt64 (show left < 64 by omega)
        rw [wrap_pow (by omega), bits_or_u64_nat _ _ hle (by omega)]
        have := or_shl r 1 left hr
        rw [Nat.one_mul] at this
        rw [this]
      rcases Nat.lt_or_ge left size with hsl | hsl
      · have hd : (size : Int) - left = ((size - left : Nat) : Int) := by omega
        by_cases hz : rest % 2 ^ (size - left) = 0
        · left
          have hdiv : rest / 2 ^ (size - left) * 2 ^ (size - left) = rest := by
            have := Nat.div_add_mod rest (2 ^ (size - left))
            rw [hz, Nat.mul_comm] at this; omega
          have hrs : rest / 2 ^ (size - left) < 2 ^ left := by
            rw [Nat.div_lt_iff_lt_mul (Nat.two_pow_pos _), ← Nat.pow_add, show left + (size - left) = size by omega]; exact hr
          obtain ⟨b1, b2, b3, b4, b5⟩ := neg_made n2 n64 (show left + 2 ≤ n by omega) hrs
          refine ⟨_, ⟨b1, b2, by omega, ?_⟩, fun w => join_zeros_some_down wd regime n run left rest size w hn h1 h2 hr64 hs64 hrun (by omega) hb1 hf hleft (size - left) hd (by omega) (by omega) (by rw [u64_mask' _ _ hr64 (by omega), hz]; rfl) _ _ (cast_shr _ _) (by omega) hne (hor _ hrs)⟩
          unfold fTail
          rw [b4, b5]
          conv => rhs; rw [← hdiv]
          rw [scale_up (by omega) hs64]
        · right
          constructor
          · rintro ⟨key, k1, k2, k3, k4⟩
            rcases reg_cases n2 n64 k1 k2 with ⟨a, b, c⟩ | ⟨a, b, c⟩ | ⟨a, b, c⟩
            · have hlk : fLeft n key = left := by omega
              unfold fTail at k4
              rw [hlk] at k4
              have := scale_eq (by omega) hs64 k4
              rw [this] at hz
              exact hz (Nat.mul_mod_left _ _)
            · omega
            · omega
          · intro w
            exact join_zeros_some_lost wd regime n run left rest size w hn h1 h2 hr64 hs64 hrun (by omega) hb1 hf hleft (size - left) (rest % 2 ^ (size - left)) hd (by omega) (by omega) (u64_mask' _ _ hr64 (by omega)) (by generalize rest % 2 ^ (size - left) = z at *; simp; omega)
      · left
        have hd : (left : Int) - size = ((left - size : Nat) : Int) := by omega
        have hrs : rest * 2 ^ (left - size) < 2 ^ left := by
          have := Nat.mul_lt_mul_of_pos_right hr (Nat.two_pow_pos (left - size))
          rw [← Nat.pow_add, show size + (left - size) = left by omega] at this; exact this
        have hll := pow_le64 (show left ≤ 64 by omega)
        obtain ⟨b1, b2, b3, b4, b5⟩ := neg_made n2 n64 (show left + 2 ≤ n by omega) hrs
        refine ⟨_, ⟨b1, b2, by omega, ?_⟩, fun w => join_zeros_some_up wd regime n run left rest size w hn h1 h2 hr64 hs64 hrun (by omega) hb1 hf hleft (left - size) hd hsl (by omega) _ _ (wrap_shl _ _ (by omega)) (by omega) hne (hor _ hrs)⟩
        unfold fTail
        rw [b4, b5, scale_up hsl (by omega)]

theorem Made_W {n key tail : Nat} {regime : Int} (h : Made n regime tail key) : fW n key = regime * 18446744073709551616 + tail := by
  unfold fW; rw [h.2.2.1, h.2.2.2]
theorem Made_inj {n a b tail : Nat} {regime : Int} (h1 : 2 ≤ n) (h2 : n ≤ 64) (ha : Made n regime tail a) (hb : Made n regime tail b) : a = b :=
  W_inj h1 h2 ha.1 ha.2.1 hb.1 hb.2.1 (by rw [Made_W ha, Made_W hb])
end Go.Proofs.YtfmecakoccnblaaDoor

/- caliperref05.bits and number walked: a key's text of bits, and a text's number. Conditions: as each theorem names them. -/
import Derived.Test.YtfmecakoccnblaaDoorPositRun
import Derived.Test.YtfmecakoccnblaaDoorPositKeys
import Derived.Laws.Concat
import Derived.Laws.BytesString
set_option linter.unusedVariables false
namespace Go.Proofs.YtfmecakoccnblaaDoor
open Go.RowKit

theorem conv_one (p : Nat) (x : Int) (b : Nat) (hx : x = ((48 + b % 2 : Nat) : Int)) (w : World) :
    (Sem.run Tryd.prog (convert 64 9 (Value.slice (some { block := w.heap.size, off := 0 }) 1 1)) (w.alloc (Obj.cells #[Value.int IntKind.u8 x] 5))) = .ok (.string ⟨#[bitC b]⟩) (w.alloc (Obj.cells #[Value.int IntKind.u8 x] 5)) := by
  subst hx
  rw [run_convert_bytes_string _ 64 9 5 _ _ _ (by kernel_rfl) (by kernel_rfl) (by kernel_rfl), run_bytesToString _ _ _ _ [((48 + b % 2 : Nat) : Int)] (by simp [go_sem])]
  rfl
theorem bits_ref_no (wd : Int) (key : Nat) (w : World) (h : ¬ (3 ≤ wd ∧ wd ≤ 65 ∧ 0 < key)) :
    Calls Tryd.prog 24 #[.int .i64 wd, .int .u64 key] w fun e w' => e = .returned (.tuple #[.string ⟨#[]⟩, .bool false]) ∧ w = w' := by
  by_cases a1 : wd < 3
  · have b1 : decide (wd < 3) = true := by simp; omega
    clear h
    go_enter Tryd.func24, Tryd.ntmps24
    go_wp2_with fail
    go_ret2
    exact ⟨rfl, rfl⟩
  · have b1 : decide (wd < 3) = false := by simp; omega
    by_cases a2 : 65 < wd
    · have b2 : decide (65 < wd) = true := by simp; omega
      clear h a1
      go_enter Tryd.func24, Tryd.ntmps24
      go_wp2_with fail
      go_ret2
      exact ⟨rfl, rfl⟩
    · have b2 : decide (65 < wd) = false := by simp; omega
      have b3 : ((key : Int) == 0) = true := by simp; omega
      clear h a1 a2
      go_enter Tryd.func24, Tryd.ntmps24
      go_wp2_with fail
      go_ret2
      exact ⟨rfl, rfl⟩

theorem bits_ref (wd : Int) (n key : Nat) (w : World) (hn : wd - 1 = (n : Int)) (h1 : 3 ≤ wd) (h2 : wd ≤ 65) (h3 : 0 < key) (h4 : key < 18446744073709551616) (b : Bool) (hb : b = decide (key < 2 ^ n)) :
    Calls Tryd.prog 24 #[.int .i64 wd, .int .u64 key] w fun e w' => (∃ s, BT s n key ∧ e = .returned (.tuple #[.string s, .bool b])) ∧ Below w.heap.size w w' := by
  have t1 : decide (wd < 3) = false := by simp; omega
  have t2 : decide (65 < wd) = false := by simp; omega
  have t3 : ((key : Int) == 0) = false := by simp; omega
  obtain ⟨K, k0, k1, k2, k3⟩ : ∃ K : Nat → Nat, K 0 = key ∧ (∀ j, K (j + 1) = K j / 2) ∧ (∀ j, K j < 18446744073709551616) ∧ (∀ j, K j = key / 2 ^ j) :=
    ⟨fun j => key / 2 ^ j, by simp, fun j => by show key / 2 ^ (j + 1) = key / 2 ^ j / 2; rw [Nat.pow_succ, Nat.div_div_eq_div_mul], fun j => Nat.lt_of_le_of_lt (Nat.div_le_self _ _) h4, fun j => rfl⟩
  have K0 := Lib.hid k0
  have K1 := Lib.hid k1
  have K2 := Lib.hid k2
  have K3 := Lib.hid k3
  have HB := Lib.hid hb
  have HN := Lib.hid hn
  clear k0 k1 k2 k3 hb hn
  go_enter Tryd.func24, Tryd.ntmps24
  go_wp2_with fail
  go_loopw [1, 6, 7] (fun k s i wr => ∃ (j : Nat) (sb : ByteArray), j ≤ n ∧ k = .int .u64 (K j) ∧ s = .string sb ∧ Hid (BT sb j key) ∧ i = .int .i64 (1 + j) ∧ Hid (Below w.heap.size w wr)) (fun _ _ i _ => (n + 1 - (intOf i).toNat))
  case atStart => exact ⟨0, ⟨#[]⟩, Nat.zero_le _, by rw [K0.out], rfl, Lib.hid (BT.nil _), rfl, Lib.hid (Below.refl _ _)⟩
  case round =>
    obtain ⟨j, sb, hj, rfl, rfl, hs, rfl, hB⟩ := hrel
    have u1 := K2.out j
    by_cases hlt : j < n
    · have u2 : (1 : Int) + j < wd := by have := HN.out; omega
      have u3 := Lib.hid (K1.out j)
      have u4 : ((K j : Nat) : Int) / 2 = ((K (j + 1) : Nat) : Int) := by rw [u3.out]; omega
      have u5 := conv_one 0 (48 + (K j : Int) % 2) (K j) (by omega) wr
      have u6 := hs.out.size
      have u7 : j ≤ 64 := by have := HN.out; omega
      go_wp2_with fail
      go_roundw
      case rel =>
        refine ⟨j + 1, ⟨#[bitC (K j)]⟩ ++ sb, by omega, rfl, rfl, Lib.hid ?_, by go_num, Lib.hid (bgrow hB.out _)⟩
        rw [K3.out]
        have := BT.append (BT.one (key / 2 ^ j)) hs.out.mod (Nat.mod_lt _ (Nat.two_pow_pos j))
        rw [Nat.mul_comm, Nat.div_add_mod, Nat.add_comm] at this
        exact this
      case measure => simp [intOf]; omega
    · obtain rfl : j = n := by omega
      have u2 : ¬ (1 : Int) + j < wd := by have := HN.out; omega
      have u8 : ((K j : Int) == 0) = b := by
        rw [HB.out, K3.out, Bool.eq_iff_iff]
        simp only [beq_iff_eq, decide_eq_true_eq]
        have hp := Nat.two_pow_pos j
        constructor
        · intro h
          have h' : key / 2 ^ j = 0 := by omega
          exact (Nat.div_eq_zero_iff_lt hp).1 h'
        · intro h
          rw [Nat.div_eq_of_lt h]; rfl
      go_wp2_with fail
      go_ret2
      exact ⟨⟨_, hs.out, rfl⟩, hB.out⟩

theorem number_ref (s : ByteArray) (n v : Nat) (w : World) (hs : BT s n v) (hv : v < 2 ^ n) (hn : n ≤ 64) :
    Calls Tryd.prog 25 #[.string s] w fun e w' => e = .returned (.int .u64 v) ∧ w = w' := by
  have hsz := hs.size
  have hl := pow_le64 hn
  have hget := Lib.hid (fun i hi => hs.get i hi)
  obtain ⟨K, k0, k1, k2, k3⟩ : ∃ K : Nat → Nat, K 0 = 0 ∧ (∀ j, j < n → K (j + 1) = 2 * K j + v / 2 ^ (n - 1 - j) % 2) ∧ (∀ j, K j < 18446744073709551616) ∧ K n = v := by
    refine ⟨fun j => v / 2 ^ (n - j), ?_, ?_, fun j => Nat.lt_of_le_of_lt (Nat.div_le_self _ _) (by omega), ?_⟩
    · show v / 2 ^ (n - 0) = 0
      rw [Nat.sub_zero]; exact Nat.div_eq_of_lt hv
    · intro j hj
      show v / 2 ^ (n - (j + 1)) = 2 * (v / 2 ^ (n - j)) + v / 2 ^ (n - 1 - j) % 2
      rw [show n - j = n - 1 - j + 1 by omega, Nat.pow_succ, ← Nat.div_div_eq_div_mul, show n - (j + 1) = n - 1 - j by omega]
      omega
    · show v / 2 ^ (n - n) = v
      rw [Nat.sub_self, Nat.pow_zero, Nat.div_one]
  have K0 := Lib.hid k0
  have K1 := Lib.hid k1
  have K2 := Lib.hid k2
  have K3 := Lib.hid k3
  clear k0 k1 k2 k3 hs hv hl
  go_enter Tryd.func25, Tryd.ntmps25
  go_wp2_with fail
  go_loop [3, 4] (fun x i => ∃ j : Nat, j ≤ n ∧ x = .int .u64 (K j) ∧ i = .int .i64 j) (fun _ i => (n - (intOf i).toNat))
  case atStart => exact ⟨0, Nat.zero_le _, by rw [K0.out]; rfl, rfl⟩
  case round =>
    obtain ⟨j, hj, rfl, rfl⟩ := hrel
    have u1 := K2.out j
    by_cases hlt : j < n
    · obtain ⟨bt, hbt⟩ : ∃ bt, v / 2 ^ (n - 1 - j) % 2 = bt := ⟨_, rfl⟩
      have hb2 : bt < 2 := by rw [← hbt]; exact Nat.mod_lt _ (by decide)
      have u2 := K1.out j hlt
      have u4 := hget.out j
      rw [hbt] at u2 u4
      have U2 := Lib.hid u2
      have u3 := K2.out (j + 1)
      have HBT := Lib.hid hbt
      clear hbt u2
      have u5 : IntKind.u64.wrap (IntKind.u64.wrap (2 * (K j : Int)) + (48 + (bt : Int) - 48)) = (K (j + 1) : Int) := by
        have := U2.out
        rw [show (2 * (K j : Int)) = ((2 * K j : Nat) : Int) by omega, wrap_u64_nat _ (by omega), show (((2 * K j : Nat) : Int) + (48 + (bt : Int) - 48)) = ((2 * K j + bt : Nat) : Int) by omega, wrap_u64_nat _ (by omega), this]
      go_wp2_with fail
      go_round
      case rel => exact ⟨j + 1, by omega, rfl, by go_num⟩
      case measure => simp [intOf]; omega
    · obtain rfl : j = n := by omega
      have u2 := K3.out
      go_wp2_with fail
      go_ret
      exact ⟨rfl, rfl⟩
end Go.Proofs.YtfmecakoccnblaaDoor

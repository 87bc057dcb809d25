/- package math-bits' Div64; package nat's short. Conditions: as each theorem names them. -/
import Derived.Test.YteiajccjlbghoaaDiv64
import Derived.Test.YteiajccjlbghoaaIsn
set_option linter.unusedVariables false
namespace Go.Proofs.Yteiajccjlbghoaa
open Go.RowKit

theorem wrap_left (u l P v : Nat) (h : u * 4294967296 + l = P + v) (hv : v < 18446744073709551616) : IntKind.u64.wrap (IntKind.u64.wrap (IntKind.u64.wrap ((u : Int) * 4294967296) + (l : Int)) - IntKind.u64.wrap (P : Int)) = (v : Int) := by
  rw [IntKind.wrap_u64, IntKind.wrap_u64, IntKind.wrap_u64, IntKind.wrap_u64]
  omega
theorem mask32 (x : Nat) (h : x < 18446744073709551616) : bits .and .u64 (x : Int) 4294967295 = ((x % 4294967296 : Nat) : Int) := by
  have := bits_and_u64_nat x 4294967295 h (by decide)
  rw [show ((4294967295 : Nat) : Int) = 4294967295 by rfl] at this
  rw [this, show (4294967295 : Nat) = 2 ^ 32 - 1 by decide, Nat.and_two_pow_sub_one_eq_mod]
theorem shl_bitLen (y : Nat) (h0 : 0 < y) (h : y < 18446744073709551616) : ∃ s, s + Lib.bitLen y = 64 ∧ s < 64 ∧ 9223372036854775808 ≤ y * 2 ^ s ∧ y * 2 ^ s < 18446744073709551616 := by
  have hl := bitLen_log y (by omega) h
  have h1 := Nat.log2_self_le (n := y) (by omega)
  have h2 := Nat.lt_log2_self (n := y)
  have h3 : y.log2 < 64 := (Nat.log2_lt (by omega)).2 h
  refine ⟨63 - y.log2, by omega, by omega, ?_, ?_⟩
  · have := Nat.mul_le_mul_right (2 ^ (63 - y.log2)) h1
    rw [← Nat.pow_add, show y.log2 + (63 - y.log2) = 63 by omega] at this
    exact this
  · have := Nat.mul_lt_mul_of_pos_right h2 (Nat.two_pow_pos (63 - y.log2))
    rw [← Nat.pow_add, show y.log2 + 1 + (63 - y.log2) = 64 by omega] at this
    exact this

theorem div64_any (hi lo y q r : Nat) (w : World) (hhi : hi < y) (hlo : lo < 18446744073709551616) (hy : y < 18446744073709551616) (hq : (hi * 18446744073709551616 + lo) / y = q) (hr : (hi * 18446744073709551616 + lo) % y = r) :
    Calls Try.prog 72 #[.int .u64 hi, .int .u64 lo, .int .u64 y] w fun e w' => e = .returned (.tuple #[.int .u64 q, .int .u64 r]) ∧ ∃ k, w' = w.drewN k := by
  rcases Nat.eq_zero_or_pos hi with h0 | h0
  · subst h0
    rw [Nat.zero_mul, Nat.zero_add] at hq hr
    exact div64_low lo y q r w hlo hy (by omega) hq hr
  obtain ⟨s, hs1, hs2, hy1, hy2⟩ := shl_bitLen y (by omega) hy
  obtain ⟨y1, e1⟩ : ∃ y1, y * 2 ^ s = y1 := ⟨_, rfl⟩
  rw [e1] at hy1 hy2
  obtain ⟨e, he⟩ : ∃ e, 64 - s = e := ⟨_, rfl⟩
  obtain ⟨a, ha⟩ : ∃ a, y1 / 4294967296 = a := ⟨_, rfl⟩
  obtain ⟨b, hb⟩ : ∃ b, y1 % 4294967296 = b := ⟨_, rfl⟩
  obtain ⟨u, hu⟩ : ∃ u, hi * 2 ^ s + lo / 2 ^ e = u := ⟨_, rfl⟩
  obtain ⟨l, hl⟩ : ∃ l, lo * 2 ^ s % 18446744073709551616 = l := ⟨_, rfl⟩
  obtain ⟨l1, hl1⟩ : ∃ l1, l / 4294967296 = l1 := ⟨_, rfl⟩
  obtain ⟨l0, hl0⟩ : ∃ l0, l % 4294967296 = l0 := ⟨_, rfl⟩
  obtain ⟨q1, hq1⟩ : ∃ q1, (u * 4294967296 + l1) / y1 = q1 := ⟨_, rfl⟩
  obtain ⟨v, hv⟩ : ∃ v, (u * 4294967296 + l1) % y1 = v := ⟨_, rfl⟩
  obtain ⟨q0, hq0⟩ : ∃ q0, (v * 4294967296 + l0) / y1 = q0 := ⟨_, rfl⟩
  obtain ⟨H1, H0, d1, d2, d3, d4⟩ := div_parts hhi hlo hs2 he e1 hy1 hy2 ha hb hu hl hl1 hl0 hq1 hv hq0
  have hl64 : l < 18446744073709551616 := by rw [← hl]; exact Nat.mod_lt _ (by decide)
  have hW : (18446744073709551616 : Nat) = 2 ^ e * 2 ^ s := by rw [← Nat.pow_add, ← he, show 64 - s + s = 64 by omega]
  have hlt : lo / 2 ^ e < 2 ^ s := by rw [Nat.div_lt_iff_lt_mul (Nat.two_pow_pos _), Nat.mul_comm, ← hW]; exact hlo
  have hhs : hi * 2 ^ s < 18446744073709551616 := by
    have : hi * 2 ^ s ≤ y * 2 ^ s := Nat.mul_le_mul_right _ (by omega)
    omega
  have f1 := Nat.div_add_mod (u * 4294967296 + l1) y1
  rw [hq1, hv, Nat.mul_comm] at f1
  have f2 := Nat.div_add_mod (v * 4294967296 + l0) y1
  rw [hq0, Nat.mul_comm] at f2
  have hq1lt := H1.q_lt
  have hq0lt := H0.q_lt
  have f3 := Nat.mod_lt (v * 4294967296 + l0) (show 0 < y1 by omega)
  refine div64_walk hi lo y s e y1 a b u l l1 l0 q1 v q0 q r w hhi h0 hlo hy (fun w => lz_any y hy s hs1 w) hs2 (by omega) (by omega) ?_ hy2 ?_ ?_ ?_ ?_ hl64 ?_ ?_ H1 H0 d3 d4 ?_ ?_ ?_ ?_
  · rw [cast_shl, e1]; exact wrap_u64_nat _ hy2
  · rw [← ha]; rfl
  · rw [mask32 _ hy2, hb]
  · rw [wrap_shl _ _ hhs, cast_shr, bits_or_u64_nat _ _ hhs (Nat.lt_of_le_of_lt (Nat.div_le_self _ _) hlo), or_shl _ _ _ hlt, hu]
  · rw [cast_shl, wrap_u64_mod, hl]
  · rw [← hl1]; rfl
  · rw [mask32 _ hl64, hl0]
  · rw [← Int.natCast_mul]
    exact wrap_left u l1 (q1 * y1) v f1.symm (by omega)
  · rw [← hq, d1]
  · omega
  · rw [← Int.natCast_mul, wrap_left v l0 (q0 * y1) _ f2.symm (by omega), cast_shr, ← hr, d2]

/-- the number of the words from the j-th on -/
def tl (F : Nat → Nat) (n j : Nat) : Nat := S (fun i => F (j + i)) (n - j)
theorem tl_end (F : Nat → Nat) (n : Nat) : tl F n n = 0 := by unfold tl; rw [Nat.sub_self, S_zero]
theorem tl_zero (F : Nat → Nat) (n : Nat) : tl F n 0 = S F n := by unfold tl; rw [Nat.sub_zero]; exact S_congr fun i _ => by rw [Nat.zero_add]
theorem tl_step (F : Nat → Nat) {n j : Nat} (h : j < n) : tl F n j = F j + Wd * tl F n (j + 1) := by
  unfold tl
  rw [show n - j = n - (j + 1) + 1 by omega, S_shift, Nat.add_zero]
  congr 2
  exact S_congr fun i _ => by congr 1; omega
theorem tl_congr {F G : Nat → Nat} {n j : Nat} (h : ∀ i, j ≤ i → F i = G i) : tl F n j = tl G n j := S_congr fun i _ => h _ (by omega)
theorem short_step {F O : Nat → Nat} {n t b left q r : Nat} (ht : t < n) (h : tl F n (t + 1) = tl O n (t + 1) * b + left) (hq : (left * 18446744073709551616 + F t) / b = q) (hr : (left * 18446744073709551616 + F t) % b = r) :
    tl F n t = tl (upd O t q) n t * b + r := by
  rw [tl_step F ht, tl_step (upd O t q) ht, upd_at, tl_congr (F := upd O t q) (G := O) (fun i hi => upd_ne O q (by omega)), h]
  have d := Nat.div_add_mod (left * 18446744073709551616 + F t) b
  rw [hq, hr, Nat.mul_comm] at d
  rw [Nat.add_mul, Nat.mul_add, Nat.mul_assoc Wd, Nat.add_assoc (q * b), Nat.add_comm (Wd * _) r, ← Nat.add_assoc (q * b), d, Nat.mul_comm Wd left, Wd_eq]
  omega

theorem short_any (A : Option Addr) (n c : Nat) (F : Nat → Nat) (b : Nat) (w : World) (hA : Rd w A n c F) (hn : n ≤ 1048576) (hb0 : 0 < b) (hb : b < 18446744073709551616) :
    Calls Try.prog 60 #[.slice A n c, .int .u64 b] w fun e w' => (∃ r, ∃ v : Nat, e = .returned (.tuple #[r, .int .u64 v]) ∧ v < b ∧ IsN w' r (S F n / b) ∧ v = S F n % b) ∧ Below w.heap.size w w' := by
  have hmk := run_make_row' (P := Try.prog) 23 35 (.int .u64 0) 8 Try.underlying23 infoU rfl .i64 .i64 n (by omega) (by omega)
  have hA' := Lib.hid hA
  clear hA
  go_enter Try.func60, Try.ntmps60
  go_wp2_with fail
  go_loopw [7, 8] (fun l i wr => ∃ (j left : Nat) (y : Int) (O : Nat → Nat), j ≤ n ∧ l = .int .u64 left ∧ left < b ∧ i = .int .i64 y ∧ y + 1 = (j : Int) ∧ Hid (Row wr w.heap.size n O) ∧ Hid (∀ i, i < n → O i < Wd) ∧ Hid (tl F n j = tl O n j * b + left) ∧ Hid (Below w.heap.size w wr)) (fun _ i _ => (1 + intOf i).toNat)
  case atStart =>
    exact ⟨n, 0, _, fun _ => 0, Nat.le_refl _, rfl, hb0, rfl, by omega, Lib.hid (Row.made w n), Lib.hid (fun i hi => Wd_pos), Lib.hid (by rw [tl_end, tl_end, Nat.zero_mul]), Lib.hid ((Below.refl _ _).alloc (Nat.le_refl _) _)⟩
  case round =>
    obtain ⟨j, left, y, O, hj, rfl, hlb, rfl, hy, hrow, hO, hS, hB⟩ := hrel
    rcases j with _ | t
    · obtain rfl : y = -1 := by omega
      have HRR := Lib.hid (hrow.out.rd (by omega) hO.out)
      go_wp2_with fail
      with_reducible (refine (trim_any _ n n O _ HRR.out).mono ?_)
      rintro e w' ⟨⟨x, hx, rfl⟩, rfl⟩
      have HX := Lib.hid hx
      clear hx
      go_wp2_with fail
      go_ret2
      have hs := hS.out
      rw [tl_zero, tl_zero] at hs
      refine ⟨⟨_, left, rfl, hlb, ⟨_, _, _, _, rfl, HRR.out.cut HX.out.le, HX.out.nm, ?_⟩, ?_⟩, hB.out⟩
      · rw [HX.out.sum, hs, Nat.mul_comm, Nat.mul_add_div hb0, Nat.div_eq_of_lt hlb, Nat.add_zero]
      · rw [hs, Nat.mul_comm, Nat.mul_add_mod, Nat.mod_eq_of_lt hlb]
    · obtain rfl : y = (t : Int) := by omega
      have rA := (hA'.out.below hB.out)
      obtain ⟨ad, rfl, hb1, hx⟩ := rA.at_ t (by omega)
      have hx64 := rA.word' t (by omega)
      obtain ⟨q, hq⟩ : ∃ q, (left * 18446744073709551616 + F t) / b = q := ⟨_, rfl⟩
      obtain ⟨r, hr⟩ : ∃ r, (left * 18446744073709551616 + F t) % b = r := ⟨_, rfl⟩
      have hst := Lib.hid (short_step (F := F) (O := O) (n := n) (by omega) hS.out hq hr)
      have hq64 : q < 18446744073709551616 := by
        rw [← hq, Nat.div_lt_iff_lt_mul hb0]
        have : (left + 1) * 18446744073709551616 ≤ b * 18446744073709551616 := Nat.mul_le_mul_right _ hlb
        omega
      have hrb : r < b := by rw [← hr]; exact Nat.mod_lt _ hb0
      have D := Lib.hid (fun w => div64_any left (F t) b q r w hlb hx64 hb hq hr)
      have u1 : decide ((0 : Int) ≤ (t : Int)) = true := decide_eq_true (by omega)
      have htn : t < n := by omega
      clear rA hq hr
      go_wp2_with fail
      with_reducible (refine (D.out _).mono ?_)
      rintro e w' ⟨rfl, k, rfl⟩
      have hrow2 : Row (wr.drewN k) w.heap.size n O := hrow.out
      have hc1 := hrow2.at_ t (by omega)
      have hf1 := hrow2.free t
      clear hrow2
      go_wp2_with fail
      go_roundw
      case rel =>
        refine ⟨t, r, _, upd O t q, by omega, rfl, hrb, rfl, by omega, Lib.hid ?_, Lib.hid (fun i hi => ?_), hst, Lib.hid ?_⟩
        · exact Row.set (Row.drewN hrow.out k) t q
        · by_cases h1 : i = t
          · rw [h1, upd_at]; exact hq64
          · rw [upd_ne _ _ h1]; exact hO.out i hi
        · exact (bdrewN hB.out k).setCell (by simp) _
      case measure => simp [intOf]; omega
end Go.Proofs.Yteiajccjlbghoaa

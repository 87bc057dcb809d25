/- package nat's Bits, Bit, Word, Cmp; package cmp's Compare of uint64. Conditions: as each theorem names them. -/
import Derived.Test.YteiajccjlbghoaaClone
import Derived.Test.YteiajccjlbghoaaShelf
import Derived.Test.YteiajccjlbghoaaNum
import Derived.Lib.BitFns
set_option linter.unusedVariables false
namespace Go.Proofs.Yteiajccjlbghoaa
open Go.RowKit

/-- how many bits a number has -/
def bitsN (N : Nat) : Nat := if N = 0 then 0 else Nat.log2 N + 1
theorem Wp_two (n : Nat) : Wd ^ n = 2 ^ (64 * n) := by rw [Wd_pow, ← Nat.pow_mul]
theorem bitsN_S {n : Nat} {F : Nat → Nat} (hF : ∀ i, i < n + 1 → F i < Wd) (h : F n ≠ 0) : bitsN (S F (n + 1)) = 64 * n + Lib.bitLen (F n) := by
  have a := S_lt (F := F) (n := n) (fun i hi => hF i (by omega))
  have hl := Nat.log2_self_le h
  have hu := Nat.lt_log2_self (n := F n)
  have hw := Wp_two n
  have e : Nat.log2 (S F (n + 1)) = 64 * n + Nat.log2 (F n) := by
    apply log2_of
    · rw [S_succ, hw, Nat.pow_add, Nat.mul_comm]
      have := Nat.mul_le_mul_right (2 ^ (64 * n)) hl
      omega
    · rw [S_succ, Nat.add_assoc, Nat.pow_add, ← hw, Nat.mul_comm (Wd ^ n)]
      have : (F n + 1) * Wd ^ n ≤ 2 ^ ((F n).log2 + 1) * Wd ^ n := Nat.mul_le_mul_right _ hu
      rw [Nat.add_mul, Nat.one_mul] at this
      omega
  have h0 : S F (n + 1) ≠ 0 := by
    have := nm_ge (F := F) (n := n) (Or.inr (by rwa [Nat.add_sub_cancel]))
    have := Wp_pos n
    omega
  unfold bitsN
  rw [if_neg h0, e, bitLen_log _ h (by have := hF n (by omega); rw [Wd_eq] at this; exact this)]
  omega

theorem ret_i64 {a b : Int} (h : a = b) : Ending.returned (.int .i64 a) = .returned (.int .i64 b) := by rw [h]
theorem bits_any (A : Option Addr) (n c : Nat) (F : Nat → Nat) (w : World) (h : Rd w A n c F) (N : Nat) (hN : bitsN (S F n) = N) :
    Calls Try.prog 27 #[.slice A n c] w fun e w' => e = .returned (.int .i64 N) ∧ w = w' := by
  have h' := Lib.hid h
  have hn := h.small
  have HN := Lib.hid hN
  clear h hN
  go_enter Try.func27, Try.ntmps27
  go_wp2_with fail
  with_reducible (refine (trim_any A n c F _ h'.out).mono ?_)
  rintro e w' ⟨⟨m, hm, rfl⟩, rfl⟩
  have hr := h'.out.cut hm.le
  have hs := hm.sum
  have hle := hm.le
  rcases m with _ | k
  · have : N = 0 := by rw [← HN.out, ← hs, S_zero]; rfl
    subst this
    clear hm hr hs
    go_wp2_with fail
    go_ret
    exact ⟨rfl, rfl⟩
  · obtain ⟨ad, rfl, hb, hx⟩ := hr.at_ k (by omega)
    have hw := hr.word' k (by omega)
    have hF : F k ≠ 0 := by
      rcases hm.nm with h | h
      · omega
      · rwa [Nat.add_sub_cancel] at h
    have hsum := bitsN_S hr.word hF
    rw [hs, HN.out] at hsum
    have L := Lib.hid (fun w => Try.bits_Len64 (F k) w (by omega) (by omega))
    have hbl : Lib.bitLen (F k) ≤ 64 := Lib.bitLen_le _ 64 (by decide) hw
    have HS := Lib.hid hsum
    clear hm hr hs hF hsum
    go_wp2_with fail
    with_reducible (refine (L.out _).mono ?_)
    rintro e w' ⟨rfl, rfl⟩
    go_wp2_with fail
    go_ret
    exact ⟨ret_i64 (by have := HS.out; omega), rfl⟩

/-- how two numbers compare -/
def cmpN (a b : Nat) : Int := if a < b then -1 else if b < a then 1 else 0
theorem cmpu_any (x y : Nat) (r : Int) (hr : cmpN x y = r) (w : World) :
    Calls Try.prog 52 #[.int .u64 x, .int .u64 y] w fun e w' => e = .returned (.int .i64 r) ∧ w' = w := by
  have hnan : ∀ (x : Nat) (w : World), Calls Try.prog 71 #[.int .u64 x] w fun e w' => e = .returned (.bool false) ∧ w = w' := by
    intro x w
    have t1 : ((x : Int) != (x : Int)) = false := by simp
    go_enter Try.func71, Try.ntmps71
    go_wp2_with fail
    go_ret
    exact ⟨rfl, rfl⟩
  have N := Lib.hid hnan
  clear hnan
  rcases Nat.lt_trichotomy x y with h | h | h
  · obtain rfl : r = -1 := by rw [← hr]; exact if_pos h
    have t1 : decide (x < y) = true := by simpa using h
    clear hr
    go_enter Try.func52, Try.ntmps52
    go_wp2_with fail
    refine (N.out _ _).mono ?_; rintro e w' ⟨rfl, rfl⟩
    go_wp2_with fail
    refine (N.out _ _).mono ?_; rintro e w' ⟨rfl, rfl⟩
    go_wp2_with fail
    go_ret
    exact ⟨rfl, rfl⟩
  · subst h
    obtain rfl : r = 0 := by rw [← hr]; unfold cmpN; simp
    have t1 : decide (x < x) = false := by simp
    clear hr
    go_enter Try.func52, Try.ntmps52
    go_wp2_with fail
    refine (N.out _ _).mono ?_; rintro e w' ⟨rfl, rfl⟩
    go_wp2_with fail
    refine (N.out _ _).mono ?_; rintro e w' ⟨rfl, rfl⟩
    go_wp2_with fail
    go_ret
    exact ⟨rfl, rfl⟩
  · obtain rfl : r = 1 := by rw [← hr]; unfold cmpN; rw [if_neg (by omega), if_pos h]
    have t1 : decide (x < y) = false := by simp; omega
    have t2 : decide (y < x) = true := by simpa using h
    clear hr
    go_enter Try.func52, Try.ntmps52
    go_wp2_with fail
    refine (N.out _ _).mono ?_; rintro e w' ⟨rfl, rfl⟩
    go_wp2_with fail
    refine (N.out _ _).mono ?_; rintro e w' ⟨rfl, rfl⟩
    go_wp2_with fail
    go_ret
    exact ⟨rfl, rfl⟩

theorem cmpN_len {m k : Nat} {F G : Nat → Nat} (hF : ∀ i, i < m → F i < Wd) (hG : ∀ i, i < k → G i < Wd) (nF : Nm m F) (nG : Nm k G) : (m < k → cmpN (S F m) (S G k) = -1) ∧ (k < m → cmpN (S F m) (S G k) = 1) := by
  refine ⟨fun h => if_pos (S_lt_len hF nG h), fun h => ?_⟩
  have := S_lt_len hG nF h
  unfold cmpN
  rw [if_neg (by omega), if_pos this]
theorem cmpN_at {m j : Nat} {F G : Nat → Nat} (hj : j < m) (hF : ∀ i, i < m → F i < Wd) (hG : ∀ i, i < m → G i < Wd) (he : ∀ i, j + 1 ≤ i → i < m → F i = G i) (hne : F j ≠ G j) : cmpN (S F m) (S G m) = cmpN (F j) (G j) := by
  obtain ⟨a, b⟩ := S_high (F := F) (G := G) (show j + 1 ≤ m by omega) he
  obtain ⟨a2, _⟩ := S_high (F := G) (G := F) (show j + 1 ≤ m by omega) (fun i h1 h2 => (he i h1 h2).symm)
  unfold cmpN
  rcases Nat.lt_or_gt_of_ne hne with h | h
  · have := S_top_lt (F := F) (G := G) (j := j) (fun i hi => hF i (by omega)) h
    rw [if_pos (a.2 this), if_pos h]
  · have := S_top_lt (F := G) (G := F) (j := j) (fun i hi => hG i (by omega)) h
    have h1 := a2.2 this
    rw [if_neg (by omega), if_pos h1, if_neg (by omega), if_pos h]
theorem cmpN_same {m : Nat} {F G : Nat → Nat} (he : ∀ i, i < m → F i = G i) : cmpN (S F m) (S G m) = 0 := by
  rw [S_congr he]; unfold cmpN; simp
theorem compareInt_lt (x y : Int) : (x < y → Lib.compareInt x y = -1) ∧ (y < x → Lib.compareInt x y = 1) ∧ (x = y → Lib.compareInt x y = 0) := by
  unfold Lib.compareInt
  refine ⟨fun h => by simp [h], fun h => ?_, fun h => by simp [h]⟩
  rw [if_neg (by omega), if_pos (by omega)]

theorem cmp_any (A B : Option Addr) (n c m d : Nat) (F G : Nat → Nat) (w : World) (hA : Rd w A n c F) (hB : Rd w B m d G) (r : Int) (hr : cmpN (S F n) (S G m) = r) :
    Calls Try.prog 25 #[.slice A n c, .slice B m d] w fun e w' => e = .returned (.int .i64 r) ∧ ∃ k, w' = w.drewN k := by
  have hA' := Lib.hid hA
  have hB' := Lib.hid hB
  have hn := hA.small
  have hm := hB.small
  have HR := Lib.hid hr
  clear hA hB hr
  go_enter Try.func25, Try.ntmps25
  go_wp2_with fail
  with_reducible (refine (trim_any A n c F _ hA'.out).mono ?_)
  rintro e w' ⟨⟨x, hx, rfl⟩, rfl⟩
  have HX := Lib.hid hx
  clear hx
  go_wp2_with fail
  with_reducible (refine (trim_any B m d G _ hB'.out).mono ?_)
  rintro e w' ⟨⟨y, hy, rfl⟩, rfl⟩
  have HY := Lib.hid hy
  clear hy
  go_wp2_with fail
  with_reducible (refine (Try.cmp_Compare_int _ _ _).mono ?_)
  rintro e w' ⟨rfl, rfl⟩
  have hrx := hA'.out.cut HX.out.le
  have hry := hB'.out.cut HY.out.le
  have hle : x ≤ n := HX.out.le
  have hle2 : y ≤ m := HY.out.le
  have hlen := cmpN_len hrx.word hry.word HX.out.nm HY.out.nm
  rw [HX.out.sum, HY.out.sum, HR.out] at hlen
  rcases Nat.lt_trichotomy x y with h | h | h
  · have ci := (compareInt_lt x y).1 (by omega)
    obtain rfl := hlen.1 h
    clear hlen hrx hry
    go_wp2_with fail
    go_ret
    exact ⟨rfl, 0, rfl⟩
  · subst h
    have ci := (compareInt_lt x x).2.2 rfl
    have HRX := Lib.hid hrx
    have HRY := Lib.hid hry
    clear hlen hrx hry
    go_wp2_with fail
    go_loopw [6] (fun i wr => ∃ (j : Nat) (y : Int), j ≤ x ∧ i = .int .i64 y ∧ y + 1 = (j : Int) ∧ Hid (∀ i, j ≤ i → i < x → F i = G i) ∧ Hid (∃ k, wr = w'.drewN k)) (fun i _ => (1 + intOf i).toNat)
    case atStart => exact ⟨x, _, Nat.le_refl _, rfl, by omega, Lib.hid (fun i h1 h2 => by omega), Lib.hid ⟨0, rfl⟩⟩
    case round =>
      obtain ⟨j, yy, hj, rfl, hy, hz, hW⟩ := hrel
      rcases j with _ | i
      · obtain rfl : yy = -1 := by omega
        obtain rfl : r = 0 := by
          rw [← HR.out, ← HX.out.sum, ← HY.out.sum]
          exact cmpN_same (fun i hi => hz.out i (Nat.zero_le _) hi)
        go_wp2_with fail
        go_ret
        exact ⟨rfl, hW.out⟩
      · obtain rfl : yy = (i : Int) := by omega
        have hri : Rd wr A x x F := by obtain ⟨k, rfl⟩ := hW.out; exact HRX.out.drewN k
        have hrj : Rd wr B x x G := by obtain ⟨k, rfl⟩ := hW.out; exact HRY.out.drewN k
        obtain ⟨ad, rfl, hb1, hx1⟩ := hri.at_ i (by omega)
        obtain ⟨bd, rfl, hb2, hx2⟩ := hrj.at_ i (by omega)
        have hw1 := hri.word' i (by omega)
        have hw2 := hrj.word' i (by omega)
        obtain ⟨rr, hrr⟩ : ∃ rr, cmpN (F i) (G i) = rr := ⟨_, rfl⟩
        have C := Lib.hid (fun w => cmpu_any (F i) (G i) rr hrr w)
        have HRR := Lib.hid hrr
        clear hri hrj hrr
        have u1 : (i : Int) < x := by omega
        by_cases hfg : F i = G i
        · obtain rfl : rr = 0 := by rw [← HRR.out, hfg]; unfold cmpN; simp
          have HE := Lib.hid hfg
          clear hfg
          go_wp2_with fail
          go_quiet ((go_at_call 52; exact Calls.quiet_of_same (C.out _)))
          go_wp2_with fail
          go_roundw
          case rel =>
            refine ⟨i, _, by omega, rfl, by omega, Lib.hid (fun t h1 h2 => ?_), Lib.hid ?_⟩
            · rcases Nat.eq_or_lt_of_le h1 with e | e
              · rw [← e]; exact HE.out
              · exact hz.out t e h2
            · obtain ⟨k, hk⟩ := hW.out
              rw [hk]
              exact ⟨_, World.drewN_drewN _ _ _⟩
          case measure => simp [intOf]; omega
        · have hne : (rr != 0) = true := by
            rw [← HRR.out]; unfold cmpN; simp; omega
          obtain rfl : rr = r := by
            rw [← HRR.out, ← HR.out, ← HX.out.sum, ← HY.out.sum]
            exact (cmpN_at (by omega) HRX.out.word HRY.out.word hz.out hfg).symm
          have HE := Lib.hid hfg
          clear hfg
          go_wp2_with fail
          go_quiet ((go_at_call 52; exact Calls.quiet_of_same (C.out _)))
          go_wp2_with fail
          go_ret
          refine ⟨rfl, ?_⟩
          obtain ⟨k, hk⟩ := hW.out
          rw [hk]
          exact ⟨_, World.drewN_drewN _ _ _⟩
  · have ci := (compareInt_lt x y).2.1 (by omega)
    obtain rfl := hlen.2 h
    clear hlen hrx hry
    go_wp2_with fail
    go_ret
    exact ⟨rfl, 0, rfl⟩
end Go.Proofs.Yteiajccjlbghoaa

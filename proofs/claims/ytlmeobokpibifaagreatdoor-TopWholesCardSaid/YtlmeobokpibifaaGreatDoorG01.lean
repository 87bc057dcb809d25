/- Numbers of words, the lowest first: the plain law. No program stands here. Conditions: as each theorem names them. How a slice of words reads in memory; package nat's trim, at, Norm, Of. Conditions: as each theorem names them. package slices' Clone at Nat; package nat's Norm, Of. Conditions: as each theorem names them. Plain facts on the 64-bit words of Go: what shifts, masks, lengths and trailing noughts of such words come to, as natural numbers. Conditions: as each theorem names them. package nat's Bits, Bit, Word, Cmp; package cmp's Compare of uint64. Conditions: as each theorem names them. -/
import Derived.Lib.Hide
import Derived.Test.YtlmeobokpibifaaGreatDoorProg
import Derived.WalkKit
import Derived.Deep.OwnRows
import Derived.Deep.QuietTactic
import Derived.BigQuiet
import Derived.Deep.Draws
import Derived.StillTailTactics
import Derived.WalkLawsBesides
import Derived.WalkSpells
import Derived.Laws.OwnMore
import Derived.Deep.AppendLies
import Derived.Maps.AppendAt
import Derived.OwnWalk
import Derived.Lib.SliceRun
import Derived.Laws.Bits64b
import Derived.Lib.TrailingZeros
import Derived.Lib.BitFns
import Derived.Test.YtlmeobokpibifaaGreatDoorShelf
section
set_option linter.unusedSimpArgs false
set_option linter.unusedVariables false
set_option linter.unusedVariables false
namespace Go.Proofs.YtlmeobokpibifaaGreatDoor

/-- a word's count of values -/
def Wd : Nat := 18446744073709551616
theorem Wd_eq : Wd = 18446744073709551616 := rfl
theorem Wd_pow : Wd = 2 ^ 64 := by decide
/-- the number of the lowest n words -/
def S (F : Nat → Nat) : Nat → Nat
  | 0 => 0
  | n + 1 => S F n + F n * Wd ^ n
theorem S_zero (F : Nat → Nat) : S F 0 = 0 := rfl
theorem S_succ (F : Nat → Nat) (n : Nat) : S F (n + 1) = S F n + F n * Wd ^ n := rfl
theorem Wd_pos : 0 < Wd := by decide
theorem Wp_pos (n : Nat) : 0 < Wd ^ n := Nat.pow_pos Wd_pos
theorem Wp_succ (n : Nat) : Wd ^ (n + 1) = Wd ^ n * Wd := Nat.pow_succ ..
theorem S_congr {F G : Nat → Nat} {n : Nat} (h : ∀ i, i < n → F i = G i) : S F n = S G n := by
  induction n with
  | zero => rfl
  | succ n ih => rw [S_succ, S_succ, ih (fun i hi => h i (by omega)), h n (by omega)]
theorem S_lt {F : Nat → Nat} {n : Nat} (h : ∀ i, i < n → F i < Wd) : S F n < Wd ^ n := by
  induction n with
  | zero => exact Nat.one_pos
  | succ n ih =>
    rw [S_succ, Wp_succ]
    have a := ih (fun i hi => h i (by omega))
    have b := h n (by omega)
    have c : (F n + 1) * Wd ^ n ≤ Wd * Wd ^ n := Nat.mul_le_mul_right _ b
    rw [Nat.add_mul, Nat.one_mul, Nat.mul_comm Wd] at c
    omega
theorem S_le_succ (F : Nat → Nat) (n : Nat) : S F n ≤ S F (n + 1) := by rw [S_succ]; exact Nat.le_add_right _ _
theorem S_mono {F : Nat → Nat} {m n : Nat} (h : m ≤ n) : S F m ≤ S F n := by
  induction h with
  | refl => exact Nat.le_refl _
  | step _ ih => exact Nat.le_trans ih (S_le_succ _ _)
/-- words behind the first ones that are all 0 -/
theorem S_zeros {F : Nat → Nat} {m n : Nat} (h : m ≤ n) (z : ∀ i, m ≤ i → i < n → F i = 0) : S F n = S F m := by
  induction h with
  | refl => rfl
  | @step k hk ih => rw [S_succ, ih (fun i h1 h2 => z i h1 (by omega)), z k hk (by omega), Nat.zero_mul, Nat.add_zero]
/-- words from the m-th on -/
theorem S_split (F : Nat → Nat) (m k : Nat) : S F (m + k) = S F m + Wd ^ m * S (fun i => F (m + i)) k := by
  induction k with
  | zero => simp [S_zero]
  | succ k ih =>
    rw [← Nat.add_assoc, S_succ, ih, S_succ, Nat.mul_add, Nat.pow_add, Nat.add_assoc]
    congr 2
    rw [Nat.mul_left_comm]
theorem S_shift (F : Nat → Nat) (n : Nat) : S F (n + 1) = F 0 + Wd * S (fun i => F (i + 1)) n := by
  have := S_split F 1 n
  rw [Nat.add_comm] at this
  rw [this, S_succ, S_zero, Nat.zero_add, Nat.pow_zero, Nat.mul_one, Nat.pow_one]
  congr 2
  exact S_congr fun i _ => by rw [Nat.add_comm]
/-- is the highest word not 0? -/
def Nm (n : Nat) (F : Nat → Nat) : Prop := n = 0 ∨ F (n - 1) ≠ 0
theorem nm_ge {n : Nat} {F : Nat → Nat} (h : Nm (n + 1) F) : Wd ^ n ≤ S F (n + 1) := by
  rcases h with h | h
  · exact absurd h (by omega)
  · rw [Nat.add_sub_cancel] at h
    rw [S_succ]
    have : 1 * Wd ^ n ≤ F n * Wd ^ n := Nat.mul_le_mul_right _ (Nat.pos_of_ne_zero h)
    omega
theorem nm_zero {n : Nat} {F : Nat → Nat} (h : Nm n F) : S F n = 0 ↔ n = 0 := by
  constructor
  · intro h0
    rcases n with _ | n
    · rfl
    · have := nm_ge h; have := Wp_pos n; omega
  · rintro rfl; rfl
/-- how many words a number takes -/
theorem nm_len {n k N : Nat} {F : Nat → Nat} (h : Nm n F) (hs : S F n = N) (hN : N < Wd ^ k) : n ≤ k := by
  rcases Nat.lt_or_ge k n with hlt | hge
  · exfalso
    obtain ⟨m, rfl⟩ : ∃ m, n = m + 1 := ⟨n - 1, by omega⟩
    have a := nm_ge h
    have b : Wd ^ k ≤ Wd ^ m := Nat.pow_le_pow_right Wd_pos (by omega)
    omega
  · exact hge
/-- the words of a number are its own -/
theorem S_inj {F G : Nat → Nat} {n : Nat} (hF : ∀ i, i < n → F i < Wd) (hG : ∀ i, i < n → G i < Wd) (h : S F n = S G n) : ∀ i, i < n → F i = G i := by
  induction n generalizing F G with
  | zero => intro i hi; omega
  | succ n ih =>
    rw [S_shift, S_shift] at h
    have f0 := hF 0 (by omega)
    have g0 := hG 0 (by omega)
    have e0 : F 0 = G 0 := by
      have := congrArg (· % Wd) h
      simp only [Nat.add_mul_mod_self_left, Nat.mod_eq_of_lt f0, Nat.mod_eq_of_lt g0] at this
      exact this
    have e1 : S (fun i => F (i + 1)) n = S (fun i => G (i + 1)) n := by
      rw [e0] at h
      exact Nat.eq_of_mul_eq_mul_left Wd_pos (Nat.add_left_cancel h)
    intro i hi
    rcases i with _ | i
    · exact e0
    · exact ih (fun i hi => hF (i + 1) (by omega)) (fun i hi => hG (i + 1) (by omega)) e1 i (by omega)
theorem S_lt_len {F G : Nat → Nat} {m n : Nat} (hF : ∀ i, i < m → F i < Wd) (hG : Nm n G) (h : m < n) : S F m < S G n := by
  obtain ⟨k, rfl⟩ : ∃ k, n = k + 1 := ⟨n - 1, by omega⟩
  have a := S_lt hF
  have b := nm_ge hG
  have c : Wd ^ m ≤ Wd ^ k := Nat.pow_le_pow_right Wd_pos (by omega)
  omega
/-- two numbers of n words, alike from the j-th on, are told apart by the words below -/
theorem S_high {F G : Nat → Nat} {j n : Nat} (hj : j ≤ n) (h : ∀ i, j ≤ i → i < n → F i = G i) : (S F n < S G n ↔ S F j < S G j) ∧ (S F n = S G n ↔ S F j = S G j) := by
  obtain ⟨k, rfl⟩ : ∃ k, n = j + k := ⟨n - j, by omega⟩
  rw [S_split, S_split, S_congr (F := fun i => F (j + i)) (G := fun i => G (j + i)) (fun i hi => h (j + i) (by omega) (by omega))]
  omega
theorem S_top_lt {F G : Nat → Nat} {j : Nat} (hF : ∀ i, i < j → F i < Wd) (h : F j < G j) : S F (j + 1) < S G (j + 1) := by
  rw [S_succ, S_succ]
  have a := S_lt hF
  have c : (F j + 1) * Wd ^ j ≤ G j * Wd ^ j := Nat.mul_le_mul_right _ h
  rw [Nat.add_mul, Nat.one_mul] at c
  omega
end Go.Proofs.YtlmeobokpibifaaGreatDoor
end

section
set_option linter.unusedSimpArgs false
set_option linter.unusedVariables false
set_option linter.unusedVariables false
namespace Go.Proofs.YtlmeobokpibifaaGreatDoor
open Go.RowKit

/-- a slice reads as the words F 0 .. F (n - 1) -/
def Rd (w : World) (A : Option Addr) (n c : Nat) (F : Nat → Nat) : Prop :=
  n ≤ c ∧ n ≤ 17592186044416 ∧ (A = none → c = 0) ∧ (∀ i, i < n → F i < Wd) ∧ (0 < n → ∃ ad, A = some ad ∧ ad.block < w.heap.size ∧ ∀ i, i < n → w.cell? (ad.add i) = some (.int .u64 (F i)))

theorem block_add (a : Addr) (n : Nat) : (a.add n).block = a.block := by unfold Addr.add; split <;> rfl
theorem add_add (a : Addr) (i j : Nat) : (a.add i).add j = a.add (i + j) := by
  unfold Addr.add
  by_cases hi : i = 0 <;> by_cases hj : j = 0 <;> simp [hi, hj, Nat.add_assoc]

section
variable {w w' : World} {A : Option Addr} {n c : Nat} {F : Nat → Nat}
theorem Rd.len (h : Rd w A n c F) : n ≤ c := h.1
theorem Rd.small (h : Rd w A n c F) : n ≤ 17592186044416 := h.2.1
theorem Rd.word (h : Rd w A n c F) : ∀ i, i < n → F i < Wd := h.2.2.2.1
theorem Rd.word' (h : Rd w A n c F) : ∀ i, i < n → F i < 18446744073709551616 := h.2.2.2.1
theorem Rd.at_ (h : Rd w A n c F) (k : Nat) (hk : k < n) : ∃ ad, A = some ad ∧ ad.block < w.heap.size ∧ w.cell? (ad.add k) = some (.int .u64 (F k)) := by
  obtain ⟨ad, e, b, hc⟩ := h.2.2.2.2 (by omega)
  exact ⟨ad, e, b, hc k hk⟩
theorem Rd.keep (h : Rd w A n c F) (hs : w.heap.size ≤ w'.heap.size) (hk : ∀ p : Addr, A.map (·.block) = some p.block → p.block < w.heap.size → w'.cell? p = w.cell? p) : Rd w' A n c F := by
  obtain ⟨a, b, d, e, f⟩ := h
  refine ⟨a, b, d, e, fun hn => ?_⟩
  obtain ⟨ad, rfl, hb, hc⟩ := f hn
  exact ⟨ad, rfl, by omega, fun i hi => (hk _ (by simp [block_add]) (by rw [block_add]; exact hb)).trans (hc i hi)⟩
theorem Rd.below (h : Rd w A n c F) (hb : Below w.heap.size w w') : Rd w' A n c F := h.keep hb.size fun p _ hp => hb.cell hp
theorem Rd.alloc (h : Rd w A n c F) (o : Obj) : Rd (w.alloc o) A n c F := h.below ((Below.refl _ _).alloc (Nat.le_refl _) _)
theorem Rd.drewN (h : Rd w A n c F) (k : Nat) : Rd (w.drewN k) A n c F := h
theorem Rd.cut (h : Rd w A n c F) {m : Nat} (hm : m ≤ n) : Rd w A m m F := by
  obtain ⟨a, b, d, e, f⟩ := h
  refine ⟨Nat.le_refl _, by omega, fun hA => by have := d hA; omega, fun i hi => e i (by omega), fun hn => ?_⟩
  obtain ⟨ad, hA, hb, hc⟩ := f (by omega)
  exact ⟨ad, hA, hb, fun i hi => hc i (by omega)⟩
theorem Rd.congr {G : Nat → Nat} (h : Rd w A n c F) (e : ∀ i, i < n → F i = G i) : Rd w A n c G := by
  obtain ⟨a, b, d, x, f⟩ := h
  refine ⟨a, b, d, fun i hi => by rw [← e i hi]; exact x i hi, fun hn => ?_⟩
  obtain ⟨ad, hA, hb, hc⟩ := f hn
  exact ⟨ad, hA, hb, fun i hi => by rw [← e i hi]; exact hc i hi⟩
theorem Rd.nil (w : World) (F : Nat → Nat) : Rd w none 0 0 F := ⟨Nat.le_refl _, by decide, fun _ => rfl, fun i hi => absurd hi (Nat.not_lt_zero _), fun h => absurd h (Nat.lt_irrefl _)⟩
theorem Rd.row {b : Nat} {t : TypeId} (h : w.rowIs b t n (fun i => .int .u64 (F i))) (hm : n ≤ 17592186044416) (hF : ∀ i, i < n → F i < Wd) : Rd w (some ⟨b, 0, none⟩) n n F := by
  refine ⟨Nat.le_refl _, hm, fun h => by simp at h, hF, fun hn => ⟨_, rfl, h.lt, fun i hi => ?_⟩⟩
  rw [← h.cell hi]
  congr 1
  unfold Addr.add
  split <;> simp_all
end

/-- what trim leaves -/
def Trim (n : Nat) (F : Nat → Nat) (m : Nat) : Prop := m ≤ n ∧ (∀ i, m ≤ i → i < n → F i = 0) ∧ Nm m F
theorem Trim.le {n m : Nat} {F : Nat → Nat} (h : Trim n F m) : m ≤ n := h.1
theorem Trim.nm {n m : Nat} {F : Nat → Nat} (h : Trim n F m) : Nm m F := h.2.2
theorem Trim.sum {n m : Nat} {F : Nat → Nat} (h : Trim n F m) : S F m = S F n := (S_zeros h.1 h.2.1).symm

theorem trim_any (A : Option Addr) (n c : Nat) (F : Nat → Nat) (w : World) (h : Rd w A n c F) :
    Calls Tryz.prog 76 #[.slice A n c] w fun e w' => (∃ m, Trim n F m ∧ e = .returned (.slice A m m)) ∧ w = w' := by
  have hn := h.len
  have hc := h.small
  have hcell := Lib.hid h.at_
  have hword := Lib.hid h.word'
  have hnil := Lib.hid h.2.2.1
  clear h
  go_enter Tryz.func76, Tryz.ntmps76
  go_wp2_with fail
  go_loop [3] (fun i => ∃ k : Nat, k ≤ n ∧ i = .int .i64 k ∧ Hid (∀ i, k ≤ i → i < n → F i = 0)) (fun i => (intOf i).toNat)
  case atStart => exact ⟨n, Nat.le_refl _, rfl, Lib.hid (fun i h1 h2 => by omega)⟩
  case round =>
    obtain ⟨k, hk, rfl, hz⟩ := hrel
    rcases k with _ | j
    · have t1 : decide ((0 : Int) < ((0 : Nat) : Int)) = false := by decide
      rcases A with _ | ad
      · obtain rfl : c = 0 := hnil.out rfl
        go_wp2_with fail
        go_ret
        exact ⟨⟨0, ⟨Nat.zero_le _, hz.out, Or.inl rfl⟩, rfl⟩, rfl⟩
      · go_wp2_with fail
        go_ret
        exact ⟨⟨0, ⟨Nat.zero_le _, hz.out, Or.inl rfl⟩, rfl⟩, rfl⟩
    · obtain ⟨ad, rfl, hb, hx⟩ := hcell.out j (by omega)
      have hw := hword.out j (by omega)
      have t1 : decide ((0 : Int) < ((j + 1 : Nat) : Int)) = true := decide_eq_true (by omega)
      by_cases h0 : F j = 0
      · have t2 : ((F j : Int) == 0) = true := by simp [h0]
        have H0 := Lib.hid h0
        clear h0
        go_wp2_with fail
        go_round
        case rel =>
          refine ⟨j, by omega, rfl, Lib.hid (fun i h1 h2 => ?_)⟩
          rcases Nat.eq_or_lt_of_le h1 with e | e
          · rw [← e]; exact H0.out
          · exact hz.out i e h2
        case measure => simp [intOf]
      · have t2 : ((F j : Int) == 0) = false := by simp; omega
        have H0 := Lib.hid h0
        clear h0
        go_wp2_with fail
        go_ret
        exact ⟨⟨j + 1, ⟨hk, hz.out, Or.inr H0.out⟩, rfl⟩, rfl⟩

theorem at_any (A : Option Addr) (n c : Nat) (F : Nat → Nat) (i : Int) (w : World) (h : Rd w A n c F) (v : Nat) (hv : v = if 0 ≤ i ∧ i < n then F i.toNat else 0) :
    Calls Tryz.prog 77 #[.slice A n c, .int .i64 i] w fun e w' => e = .returned (.int .u64 v) ∧ w = w' := by
  have hn := h.len
  have hc := h.small
  by_cases h1 : i < 0
  · have t1 : decide (i < 0) = true := by simpa using h1
    obtain rfl : v = 0 := by rw [hv, if_neg (by omega)]
    clear h hv
    go_enter Tryz.func77, Tryz.ntmps77
    go_wp2_with fail
    go_ret
    exact ⟨rfl, rfl⟩
  · have t1 : decide (i < 0) = false := by simpa using h1
    by_cases h2 : i < n
    · obtain ⟨j, rfl⟩ : ∃ j : Nat, i = (j : Int) := ⟨i.toNat, by omega⟩
      obtain ⟨ad, rfl, hb, hx⟩ := h.at_ j (by omega)
      have t2 : decide (n ≤ j) = false := by simp; omega
      have hv' : v = F j := by rw [hv, if_pos (by omega)]; rfl
      have hw := h.word' j (by omega)
      subst hv'
      clear h hv
      go_enter Tryz.func77, Tryz.ntmps77
      go_wp2_with fail
      go_ret
      exact ⟨rfl, rfl⟩
    · have t2 : (n : Int) ≤ i := by omega
      obtain rfl : v = 0 := by rw [hv, if_neg (by omega)]
      clear h hv
      go_enter Tryz.func77, Tryz.ntmps77
      go_wp2_with fail
      go_ret
      exact ⟨rfl, rfl⟩
end Go.Proofs.YtlmeobokpibifaaGreatDoor
end

section
set_option linter.unusedSimpArgs false
set_option linter.unusedVariables false
set_option linter.unusedVariables false
namespace Go.Proofs.YtlmeobokpibifaaGreatDoor
open Go.RowKit

theorem infoU : (Tryz.prog.info? 22).map (fun i => (i.zero, i.size, i.bytes)) = some (some (.int .u64 0), 1, 8) := by kernel_rfl

/-- words as cells -/
def cellsF (n : Nat) (F : Nat → Nat) : List Value := (List.range n).map fun i => Value.int .u64 (F i)
theorem cellsF_len (n : Nat) (F : Nat → Nat) : (cellsF n F).length = n := by simp [cellsF]
theorem cellsF_get (n : Nat) (F : Nat → Nat) (i : Nat) (h : i < n) : (cellsF n F)[i]? = some (.int .u64 (F i)) := by simp [cellsF, h]
theorem cellsF_one (n : Nat) (F : Nat → Nat) : ∀ u ∈ cellsF n F, u.oneCell' = true := by
  intro u hu
  simp only [cellsF, List.mem_map] at hu
  obtain ⟨i, _, rfl⟩ := hu
  rfl

/-- what an owned row reads as -/
theorem rd_own {w : World} {base n : Nat} {v : Value} {F : Nat → Nat} (h : w.ownsRow base 22 1 v n (cellsF n F)) (hn : n ≤ 17592186044416) (hF : ∀ i, i < n → F i < Wd) : ∃ A c, v = .slice A n c ∧ Rd w A n c F ∧ (0 < n → ∃ g, A = some ⟨g, 0, none⟩ ∧ base ≤ g ∧ c ≤ maxLen) := by
  rcases h.2 with ⟨rfl, rfl⟩ | ⟨g, cap, cur, rfl, hg, hh, hnc, hm, hsz, hcs⟩
  · exact ⟨none, 0, rfl, Rd.nil _ _, fun h => absurd h (Nat.lt_irrefl _)⟩
  · refine ⟨_, _, rfl, ⟨hnc, hn, fun h => by simp at h, hF, fun hn0 => ⟨_, rfl, ?_, fun i hi => ?_⟩⟩, fun _ => ⟨g, rfl, hg, hm⟩⟩
    · rcases Nat.lt_or_ge g w.heap.size with hlt | hge
      · exact hlt
      · rw [Array.getElem?_eq_none hge] at hh; cases hh
    · have e : (⟨g, 0, none⟩ : Addr).add i = ⟨g, i, none⟩ := by unfold Addr.add; split <;> simp_all
      rw [e]
      have hx := cellsF_get n F i hi
      rw [← hcs, List.getElem?_take, if_pos (by omega), Array.getElem?_toList] at hx
      simp [World.cell?, hh, hx]

theorem clone_any (A : Option Addr) (n c : Nat) (F : Nat → Nat) (w : World) (h : Rd w A n c F) :
    Calls Tryz.prog 90 #[.slice A n c] w fun e w' => (∃ A' c', Rd w' A' n c' F ∧ e = .returned (.slice A' n c') ∧ (0 < n → ∃ g, A' = some ⟨g, 0, none⟩ ∧ w.heap.size ≤ g)) ∧ Below w.heap.size w w' := by
  rcases A with _ | ad
  · obtain rfl : c = 0 := h.2.2.1 rfl
    obtain rfl : n = 0 := by have := h.len; omega
    clear h
    have he := Lib.run_eql_slice_nil (P := Tryz.prog) w 39 22 none 0 0 0 0 Tryz.underlying39
    go_enter Tryz.func90, Tryz.ntmps90
    go_wp2_with fail
    go_ret
    exact ⟨⟨none, 0, Rd.nil _ _, rfl, fun h => absurd h (Nat.lt_irrefl _)⟩, Below.refl _ _⟩
  · have he := Lib.run_eql_slice_nil (P := Tryz.prog) w 39 22 (some ad) n c 0 0 Tryz.underlying39
    have hn := h.small
    have ha := (h.alloc (.cells #[] 22))
    have hown : (w.alloc (.cells #[] 22)).ownsRow w.heap.size 22 1 (.slice (some ⟨w.heap.size, 0, none⟩) 0 0) 0 [] :=
      ⟨rfl, Or.inr ⟨w.heap.size, 0, #[], rfl, Nat.le_refl _, Deep.blk_alloc_new _ _, Nat.le_refl _, by decide, rfl, rfl⟩⟩
    have hnews : ∀ j u, (cellsF n F)[j]? = some u → (w.alloc (.cells #[] 22)).cell? (ad.add j) = some u := by
      intro j u hj
      have hlt : j < n := by
        have := (List.getElem?_eq_some_iff.1 hj).1
        rwa [cellsF_len] at this
      rw [cellsF_get n F j hlt] at hj
      obtain ⟨ad', e, _, hx⟩ := ha.at_ j hlt
      cases e
      rw [hx, ← hj]
    obtain ⟨i0, hi, hz0, hz1, hz2⟩ := info_parts infoU
    have h' := Lib.hid h
    have HA := Lib.hid ha
    have HO := Lib.hid hown
    have HNW := Lib.hid hnews
    have HI := Lib.hid (And.intro hi (And.intro hz0 (And.intro hz1 hz2)))
    clear h ha hown hnews hi hz0 hz1 hz2
    go_enter Tryz.func90, Tryz.ntmps90
    go_wp2_with (at_builtin; refine wpList_append_own_at (w.alloc (.cells #[] 22)) rfl (.tmp 5) (.tmp 6) 39 rfl w.heap.size 22 i0 (.int .u64 0) 1 8 Tryz.underlying39 HI.out.1 HI.out.2.1 HI.out.2.2.1 HI.out.2.2.2 rfl (by decide) _ 0 [] rfl HO.out ad n c (cellsF n F) rfl (by rw [cellsF_len, Nat.mul_one]) HNW.out (cellsF_one n F) (by unfold maxLen; omega) (by omega) (by simp) ?_)
    intro v' w' hown' hgrow _ _
    obtain ⟨A', c', rfl, hrd, hfr⟩ := rd_own hown' hn h'.out.word
    have HR := Lib.hid hrd
    have HG := Lib.hid hgrow
    have HF := Lib.hid hfr
    clear hown' hgrow hrd hfr
    go_wp2_with fail
    go_ret
    exact ⟨⟨A', c', HR.out, rfl, fun h0 => by obtain ⟨g, a, b, _⟩ := HF.out h0; exact ⟨g, a, b⟩⟩, ((Below.refl _ _).alloc (Nat.le_refl _) _).grown HG.out (by simp) (by simp [Value.ownBlock])⟩

theorem norm_any (A : Option Addr) (n c : Nat) (F : Nat → Nat) (w : World) (h : Rd w A n c F) :
    Calls Tryz.prog 73 #[.slice A n c] w fun e w' => (∃ A' c' m, Trim n F m ∧ Rd w' A' m c' F ∧ e = .returned (.slice A' m c') ∧ (0 < m → ∃ g, A' = some ⟨g, 0, none⟩ ∧ w.heap.size ≤ g)) ∧ Below w.heap.size w w' := by
  have h' := Lib.hid h
  clear h
  go_enter Tryz.func73, Tryz.ntmps73
  go_wp2_with fail
  with_reducible (refine (trim_any A n c F _ h'.out).mono ?_)
  rintro e w' ⟨⟨m, hm, rfl⟩, rfl⟩
  have HM := Lib.hid hm
  clear hm
  go_wp2_with fail
  with_reducible (refine (clone_any A m m F _ (h'.out.cut HM.out.le)).mono ?_)
  rintro e w' ⟨⟨A', c', hr, rfl, hf⟩, hb⟩
  have HR := Lib.hid hr
  have HF := Lib.hid hf
  have HB := Lib.hid hb
  clear hr hf hb
  go_wp2_with fail
  go_ret
  exact ⟨⟨A', c', m, HM.out, HR.out, rfl, HF.out⟩, HB.out⟩

theorem one_row (w : World) (v : Value) (t : TypeId) : (w.alloc (.cells #[v] t)).rowIs w.heap.size t 1 (fun _ => v) :=
  World.rowIs_alloc w #[v] t (fun _ => v) (by
    intro i hi
    obtain rfl : i = 0 := by simpa using hi
    rfl)
theorem of_any (x : Nat) (hx : x < 18446744073709551616) (w : World) :
    Calls Tryz.prog 44 #[.int .u64 x] w fun e w' => (∃ A' c' m, Trim 1 (fun _ => x) m ∧ Rd w' A' m c' (fun _ => x) ∧ e = .returned (.slice A' m c')) ∧ Below w.heap.size w w' := by
  have hr : Rd (w.alloc (.cells #[.int .u64 x] 22)) (some ⟨w.heap.size, 0, none⟩) 1 1 (fun _ => x) :=
    Rd.row (one_row w _ 22) (by decide) (fun _ _ => hx)
  have H := Lib.hid hr
  clear hr
  go_enter Tryz.func44, Tryz.ntmps44
  go_wp2_with fail
  with_reducible (refine (norm_any _ 1 1 (fun _ => x) _ H.out).mono ?_)
  rintro e w' ⟨⟨A', c', m, hm, hr, rfl, hf⟩, hb⟩
  have HM := Lib.hid hm
  have HR := Lib.hid hr
  have HB := Lib.hid hb
  clear hr hm hf hb
  go_wp2_with fail
  go_ret
  exact ⟨⟨A', c', m, HM.out, HR.out, rfl⟩, ((Below.refl _ _).alloc (Nat.le_refl _) _).trans (HB.out.mono (by simp))⟩
end Go.Proofs.YtlmeobokpibifaaGreatDoor
end

section
set_option linter.unusedSimpArgs false
set_option linter.unusedVariables false
namespace Go.Proofs.YtlmeobokpibifaaGreatDoor

theorem wrap_u64_nat (a : Nat) (h : a < 18446744073709551616) : IntKind.u64.wrap (a : Int) = (a : Int) := by
  rw [IntKind.wrap_u64]; omega
theorem wrap_u64_mod (a : Nat) : IntKind.u64.wrap (a : Int) = ((a % 18446744073709551616 : Nat) : Int) := by
  rw [IntKind.wrap_u64]; omega
theorem pow_lt64 {k : Nat} (h : k < 64) : 2 ^ k < 18446744073709551616 :=
  Nat.pow_lt_pow_right (a := 2) (by decide) h
theorem cast_pow (k : Nat) : ((2 : Int) ^ k) = ((2 ^ k : Nat) : Int) := by simp
theorem cast_shr (x k : Nat) : ((x : Int) / 2 ^ k) = ((x / 2 ^ k : Nat) : Int) := by simp
theorem cast_shl (x k : Nat) : ((x : Int) * 2 ^ k) = ((x * 2 ^ k : Nat) : Int) := by simp
theorem wrap_pow {k : Nat} (h : k < 64) : IntKind.u64.wrap ((2 : Int) ^ k) = ((2 ^ k : Nat) : Int) := by
  rw [cast_pow, wrap_u64_nat _ (pow_lt64 h)]
theorem wrap_shl (x k : Nat) (h : x * 2 ^ k < 18446744073709551616) : IntKind.u64.wrap ((x : Int) * 2 ^ k) = ((x * 2 ^ k : Nat) : Int) := by
  rw [cast_shl, wrap_u64_nat _ h]
theorem wrap_pow_sub {k : Nat} (h : k < 64) : IntKind.u64.wrap (IntKind.u64.wrap ((2 : Int) ^ k) - 1) = ((2 ^ k - 1 : Nat) : Int) := by
  have hp := pow_lt64 h
  have h0 : 0 < 2 ^ k := Nat.two_pow_pos k
  rw [wrap_pow h, show (((2 ^ k : Nat) : Int) - 1) = ((2 ^ k - 1 : Nat) : Int) by omega, wrap_u64_nat _ (by omega)]
theorem u64_mask (x k : Nat) (hx : x < 18446744073709551616) (h : k < 64) :
    bits .and .u64 (x : Int) (IntKind.u64.wrap (IntKind.u64.wrap (2 ^ k) - 1)) = ((x % 2 ^ k : Nat) : Int) := by
  have hp := pow_lt64 h
  rw [wrap_pow_sub h, bits_and_u64_nat _ _ hx (by omega), Nat.and_two_pow_sub_one_eq_mod]
theorem or_pow (x k : Nat) (hx : x < 2 ^ k) : x ||| 2 ^ k = x + 2 ^ k := by
  have h := Nat.two_pow_add_eq_or_of_lt hx 1
  rw [Nat.mul_one] at h
  rw [Nat.or_comm, ← h, Nat.add_comm]
theorem or_shl (x y k : Nat) (hx : x < 2 ^ k) : y * 2 ^ k ||| x = y * 2 ^ k + x := by
  have h := Nat.two_pow_add_eq_or_of_lt hx y
  rw [Nat.mul_comm y, ← h]
theorem or_shl' (x y k : Nat) (hx : x < 2 ^ k) : x ||| y * 2 ^ k = y * 2 ^ k + x := by
  rw [Nat.or_comm, or_shl x y k hx]
theorem u64_or_pow (x k : Nat) (hx : x < 2 ^ k) (h : k < 64) :
    bits .or .u64 (x : Int) (IntKind.u64.wrap (2 ^ k)) = ((x + 2 ^ k : Nat) : Int) := by
  have hp := pow_lt64 h
  rw [wrap_pow h, bits_or_u64_nat _ _ (by omega) hp, or_pow x k hx]

/-- x without its bit k, if it has that bit and none above it -/
theorem andNot_top (x k : Nat) (h1 : 2 ^ k ≤ x) (h2 : x < 2 ^ (k + 1)) (hk : k < 64) : x &&& (18446744073709551615 - 2 ^ k) = x - 2 ^ k := by
  have hp := pow_lt64 hk
  have e2 : x = 2 ^ k * 1 + (x - 2 ^ k) := by omega
  have hlt : x - 2 ^ k < 2 ^ k := by rw [Nat.pow_succ] at h2; omega
  apply Nat.eq_of_testBit_eq
  intro i
  have e3 : 18446744073709551615 - 2 ^ k = 2 ^ 64 - (2 ^ k + 1) := by omega
  rw [Nat.testBit_and, e3, Nat.testBit_two_pow_sub_succ (by omega), Nat.testBit_two_pow]
  by_cases hi : k = i
  · subst hi
    simp [Nat.testBit_lt_two_pow hlt]
  · have hx : x.testBit i = (x - 2 ^ k).testBit i := by
      rcases Nat.lt_or_gt_of_ne hi with h | h
      · have h3 : x < 2 ^ i := Nat.lt_of_lt_of_le h2 (Nat.pow_le_pow_right (by decide) h)
        rw [Nat.testBit_lt_two_pow h3, Nat.testBit_lt_two_pow (by omega)]
      · conv => lhs; rw [e2]
        rw [Nat.testBit_two_pow_mul_add _ hlt, if_pos h]
    rw [hx]
    by_cases h64 : i < 64
    · simp [h64, hi]
    · have h3 : x - 2 ^ k < 2 ^ i := Nat.lt_of_lt_of_le (by omega : x - 2 ^ k < 2 ^ 64) (Nat.pow_le_pow_right (by decide) (by omega))
      simp [Nat.testBit_lt_two_pow h3]
theorem u64_andNot_top (x k : Nat) (h1 : 2 ^ k ≤ x) (h2 : x < 2 ^ (k + 1)) (hk : k < 64) :
    bits .andNot .u64 (x : Int) (IntKind.u64.wrap (2 ^ k)) = ((x - 2 ^ k : Nat) : Int) := by
  have hp := pow_lt64 hk
  have h64 : 2 ^ (k + 1) ≤ 2 ^ 64 := Nat.pow_le_pow_right (by decide) (by omega)
  have hx : x < 18446744073709551616 := by omega
  have h3 : (BitVec.ofInt 64 (x : Int)).toNat = x := by
    rw [BitVec.ofInt_natCast, BitVec.toNat_ofNat]; exact Nat.mod_eq_of_lt (by omega)
  have h4 : (BitVec.ofInt 64 ((2 ^ k : Nat) : Int)).toNat = 2 ^ k := by
    rw [BitVec.ofInt_natCast, BitVec.toNat_ofNat]; exact Nat.mod_eq_of_lt (by omega)
  rw [wrap_pow hk]
  show IntKind.u64.wrap ((BitVec.ofInt 64 (x : Int) &&& ~~~BitVec.ofInt 64 ((2 ^ k : Nat) : Int)).toNat : Int) = _
  rw [BitVec.toNat_and, BitVec.toNat_not, h3, h4, show (2 ^ 64 - 1 - 2 ^ k : Nat) = 18446744073709551615 - 2 ^ k by omega, andNot_top x k h1 h2 hk, wrap_u64_nat _ (by omega)]

theorem bitLen_of (x k : Nat) (h1 : 2 ^ k ≤ x) (h2 : x < 2 ^ (k + 1)) (h3 : x < 18446744073709551616) : Lib.bitLen x = k + 1 := by
  rw [Lib.bitLen_shift k x h1 h3]
  have : x / 2 ^ k = 1 := by
    rw [Nat.pow_succ] at h2
    have h0 : 0 < 2 ^ k := Nat.two_pow_pos k
    have a1 : 1 ≤ x / 2 ^ k := (Nat.le_div_iff_mul_le h0).2 (by omega)
    have a2 : x / 2 ^ k < 2 := (Nat.div_lt_iff_lt_mul h0).2 (by omega)
    omega
  rw [this]
  rfl
theorem bitLen_log (x : Nat) (h0 : x ≠ 0) (h3 : x < 18446744073709551616) : Lib.bitLen x = Nat.log2 x + 1 :=
  bitLen_of x _ (Nat.log2_self_le h0) Nat.lt_log2_self h3
theorem bitLen_zero : Lib.bitLen 0 = 0 := rfl
theorem log2_of (x k : Nat) (h1 : 2 ^ k ≤ x) (h2 : x < 2 ^ (k + 1)) : Nat.log2 x = k := by
  have h0 : x ≠ 0 := by have := Nat.two_pow_pos k; omega
  have a := Nat.log2_self_le h0
  have b := Nat.lt_log2_self (n := x)
  have c1 : x.log2 < k + 1 := (Nat.pow_lt_pow_iff_right (a := 2) (by decide)).1 (Nat.lt_of_le_of_lt a h2)
  have c2 : k < x.log2 + 1 := (Nat.pow_lt_pow_iff_right (a := 2) (by decide)).1 (Nat.lt_of_le_of_lt h1 b)
  omega

/-- an odd number times a power of two: which power -/
theorem ctz_of (k m : Nat) (h : 2 ^ k * (2 * m + 1) < 18446744073709551616) : Lib.ctz 64 (2 ^ k * (2 * m + 1)) = k := by
  have h0 : 2 ^ k * (2 * m + 1) ≠ 0 := by have := Nat.two_pow_pos k; exact Nat.mul_ne_zero (by omega) (by omega)
  have e : Lib.ctz 64 (2 ^ k * (2 * m + 1)) = Lib.ctzFrom 64 (2 ^ k * (2 * m + 1)) := by simp [Lib.ctz, h0]
  rw [e]
  obtain ⟨m', hm, _⟩ := Lib.ctzFrom_spec 64 (2 ^ k * (2 * m + 1)) (by omega) (by omega)
  have hu : ∀ a b x y : Nat, 2 ^ a * (2 * x + 1) = 2 ^ b * (2 * y + 1) → ¬ a < b := by
    intro a b x y hh hab
    obtain ⟨d, rfl⟩ : ∃ d, b = a + (d + 1) := ⟨b - a - 1, by omega⟩
    rw [Nat.pow_add, Nat.mul_assoc] at hh
    have := Nat.eq_of_mul_eq_mul_left (Nat.two_pow_pos a) hh
    rw [Nat.pow_succ, Nat.mul_right_comm, Nat.mul_comm _ 2] at this
    omega
  have a1 := hu _ _ _ _ hm
  have a2 := hu _ _ _ _ hm.symm
  omega
/-- every word that is not 0 is an odd number times a power of two -/
theorem odd_parts (x : Nat) (h0 : x ≠ 0) (h : x < 18446744073709551616) : ∃ k m, x = 2 ^ k * (2 * m + 1) ∧ Lib.ctz 64 x = k ∧ k < 64 ∧ x / 2 ^ k = 2 * m + 1 := by
  obtain ⟨m, hm, hk⟩ := Lib.ctzFrom_spec 64 x (by omega) (by omega)
  refine ⟨Lib.ctzFrom 64 x, m, hm, by simp [Lib.ctz, h0], hk, ?_⟩
  have h1 : x / 2 ^ Lib.ctzFrom 64 x = 2 ^ Lib.ctzFrom 64 x * (2 * m + 1) / 2 ^ Lib.ctzFrom 64 x := congrArg (· / 2 ^ Lib.ctzFrom 64 x) hm
  rw [h1, Nat.mul_div_cancel_left _ (Nat.two_pow_pos _)]
theorem ctz_odd (x : Nat) (h : x % 2 = 1) (hx : x < 18446744073709551616) : Lib.ctz 64 x = 0 := by
  have := ctz_of 0 (x / 2) (by omega)
  rw [show 2 ^ 0 * (2 * (x / 2) + 1) = x by omega] at this
  exact this
theorem ctz_double (x : Nat) (h0 : x ≠ 0) (h : 2 * x < 18446744073709551616) : Lib.ctz 64 (2 * x) = Lib.ctz 64 x + 1 := by
  obtain ⟨k, m, hx, hk, _, _⟩ := odd_parts x h0 (by omega)
  rw [hk]
  have e : 2 * x = 2 ^ (k + 1) * (2 * m + 1) := by rw [Nat.pow_succ, Nat.mul_comm (2 ^ k) 2, Nat.mul_assoc, ← hx]
  rw [e]
  exact ctz_of _ _ (by rw [← e]; exact h)
end Go.Proofs.YtlmeobokpibifaaGreatDoor
end

section
set_option linter.unusedSimpArgs false
set_option linter.unusedVariables false
set_option linter.unusedVariables false
namespace Go.Proofs.YtlmeobokpibifaaGreatDoor
open Go.RowKit

/-- how many bits a number has -/
def bitsN (N : Nat) : Nat := if N = 0 then 0 else Nat.log2 N + 1
theorem Wp_two (n : Nat) : Wd ^ n = 2 ^ (64 * n) := by rw [Wd_pow, ← Nat.pow_mul]
theorem bitsN_S {n : Nat} {F : Nat → Nat} (hF : ∀ i, i < n + 1 → F i < Wd) (h : F n ≠ 0) : bitsN (S F (n + 1)) = 64 * n + Lib.bitLen (F n) := by
  have a := S_lt (F := F) (n := n) (fun i hi => hF i (by omega))
  have hl := Nat.log2_self_le h
  have hu := Nat.lt_log2_self (n := F n)
  have hw := Wp_two n
  have e : Nat.log2 (S F (n + 1)) = 64 * n + Nat.log2 (F n) := by
    apply log2_of
    · rw [S_succ, hw, Nat.pow_add, Nat.mul_comm]
      have := Nat.mul_le_mul_right (2 ^ (64 * n)) hl
      omega
    · rw [S_succ, Nat.add_assoc, Nat.pow_add, ← hw, Nat.mul_comm (Wd ^ n)]
      have : (F n + 1) * Wd ^ n ≤ 2 ^ ((F n).log2 + 1) * Wd ^ n := Nat.mul_le_mul_right _ hu
      rw [Nat.add_mul, Nat.one_mul] at this
      omega
  have h0 : S F (n + 1) ≠ 0 := by
    have := nm_ge (F := F) (n := n) (Or.inr (by rwa [Nat.add_sub_cancel]))
    have := Wp_pos n
    omega
  unfold bitsN
  rw [if_neg h0, e, bitLen_log _ h (by have := hF n (by omega); rw [Wd_eq] at this; exact this)]
  omega

theorem ret_i64 {a b : Int} (h : a = b) : Ending.returned (.int .i64 a) = .returned (.int .i64 b) := by rw [h]
theorem bits_any (A : Option Addr) (n c : Nat) (F : Nat → Nat) (w : World) (h : Rd w A n c F) (N : Nat) (hN : bitsN (S F n) = N) :
    Calls Tryz.prog 58 #[.slice A n c] w fun e w' => e = .returned (.int .i64 N) ∧ w = w' := by
  have h' := Lib.hid h
  have hn := h.small
  have HN := Lib.hid hN
  clear h hN
  go_enter Tryz.func58, Tryz.ntmps58
  go_wp2_with fail
  with_reducible (refine (trim_any A n c F _ h'.out).mono ?_)
  rintro e w' ⟨⟨m, hm, rfl⟩, rfl⟩
  have hr := h'.out.cut hm.le
  have hs := hm.sum
  have hle := hm.le
  rcases m with _ | k
  · have : N = 0 := by rw [← HN.out, ← hs, S_zero]; rfl
    subst this
    clear hm hr hs
    go_wp2_with fail
    go_ret
    exact ⟨rfl, rfl⟩
  · obtain ⟨ad, rfl, hb, hx⟩ := hr.at_ k (by omega)
    have hw := hr.word' k (by omega)
    have hF : F k ≠ 0 := by
      rcases hm.nm with h | h
      · omega
      · rwa [Nat.add_sub_cancel] at h
    have hsum := bitsN_S hr.word hF
    rw [hs, HN.out] at hsum
    have L := Lib.hid (fun w => Tryz.bits_Len64 (F k) w (by omega) (by omega))
    have hbl : Lib.bitLen (F k) ≤ 64 := Lib.bitLen_le _ 64 (by decide) hw
    have HS := Lib.hid hsum
    clear hm hr hs hF hsum
    go_wp2_with fail
    with_reducible (refine (L.out _).mono ?_)
    rintro e w' ⟨rfl, rfl⟩
    go_wp2_with fail
    go_ret
    exact ⟨ret_i64 (by have := HS.out; omega), rfl⟩

/-- how two numbers compare -/
def cmpN (a b : Nat) : Int := if a < b then -1 else if b < a then 1 else 0
theorem cmpu_any (x y : Nat) (r : Int) (hr : cmpN x y = r) (w : World) :
    Calls Tryz.prog 117 #[.int .u64 x, .int .u64 y] w fun e w' => e = .returned (.int .i64 r) ∧ w' = w := by
  have hnan : ∀ (x : Nat) (w : World), Calls Tryz.prog 135 #[.int .u64 x] w fun e w' => e = .returned (.bool false) ∧ w = w' := by
    intro x w
    have t1 : ((x : Int) != (x : Int)) = false := by simp
    go_enter Tryz.func135, Tryz.ntmps135
    go_wp2_with fail
    go_ret
    exact ⟨rfl, rfl⟩
  have N := Lib.hid hnan
  clear hnan
  rcases Nat.lt_trichotomy x y with h | h | h
  · obtain rfl : r = -1 := by rw [← hr]; exact if_pos h
    have t1 : decide (x < y) = true := by simpa using h
    clear hr
    go_enter Tryz.func117, Tryz.ntmps117
    go_wp2_with fail
    refine (N.out _ _).mono ?_; rintro e w' ⟨rfl, rfl⟩
    go_wp2_with fail
    refine (N.out _ _).mono ?_; rintro e w' ⟨rfl, rfl⟩
    go_wp2_with fail
    go_ret
    exact ⟨rfl, rfl⟩
  · subst h
    obtain rfl : r = 0 := by rw [← hr]; unfold cmpN; simp
    have t1 : decide (x < x) = false := by simp
    clear hr
    go_enter Tryz.func117, Tryz.ntmps117
    go_wp2_with fail
    refine (N.out _ _).mono ?_; rintro e w' ⟨rfl, rfl⟩
    go_wp2_with fail
    refine (N.out _ _).mono ?_; rintro e w' ⟨rfl, rfl⟩
    go_wp2_with fail
    go_ret
    exact ⟨rfl, rfl⟩
  · obtain rfl : r = 1 := by rw [← hr]; unfold cmpN; rw [if_neg (by omega), if_pos h]
    have t1 : decide (x < y) = false := by simp; omega
    have t2 : decide (y < x) = true := by simpa using h
    clear hr
    go_enter Tryz.func117, Tryz.ntmps117
    go_wp2_with fail
    refine (N.out _ _).mono ?_; rintro e w' ⟨rfl, rfl⟩
    go_wp2_with fail
    refine (N.out _ _).mono ?_; rintro e w' ⟨rfl, rfl⟩
    go_wp2_with fail
    go_ret
    exact ⟨rfl, rfl⟩

theorem cmpN_len {m k : Nat} {F G : Nat → Nat} (hF : ∀ i, i < m → F i < Wd) (hG : ∀ i, i < k → G i < Wd) (nF : Nm m F) (nG : Nm k G) : (m < k → cmpN (S F m) (S G k) = -1) ∧ (k < m → cmpN (S F m) (S G k) = 1) := by
  refine ⟨fun h => if_pos (S_lt_len hF nG h), fun h => ?_⟩
  have := S_lt_len hG nF h
  unfold cmpN
  rw [if_neg (by omega), if_pos this]
theorem cmpN_at {m j : Nat} {F G : Nat → Nat} (hj : j < m) (hF : ∀ i, i < m → F i < Wd) (hG : ∀ i, i < m → G i < Wd) (he : ∀ i, j + 1 ≤ i → i < m → F i = G i) (hne : F j ≠ G j) : cmpN (S F m) (S G m) = cmpN (F j) (G j) := by
  obtain ⟨a, b⟩ := S_high (F := F) (G := G) (show j + 1 ≤ m by omega) he
  obtain ⟨a2, _⟩ := S_high (F := G) (G := F) (show j + 1 ≤ m by omega) (fun i h1 h2 => (he i h1 h2).symm)
  unfold cmpN
  rcases Nat.lt_or_gt_of_ne hne with h | h
  · have := S_top_lt (F := F) (G := G) (j := j) (fun i hi => hF i (by omega)) h
    rw [if_pos (a.2 this), if_pos h]
  · have := S_top_lt (F := G) (G := F) (j := j) (fun i hi => hG i (by omega)) h
    have h1 := a2.2 this
    rw [if_neg (by omega), if_pos h1, if_neg (by omega), if_pos h]
theorem cmpN_same {m : Nat} {F G : Nat → Nat} (he : ∀ i, i < m → F i = G i) : cmpN (S F m) (S G m) = 0 := by
  rw [S_congr he]; unfold cmpN; simp
theorem compareInt_lt (x y : Int) : (x < y → Lib.compareInt x y = -1) ∧ (y < x → Lib.compareInt x y = 1) ∧ (x = y → Lib.compareInt x y = 0) := by
  unfold Lib.compareInt
  refine ⟨fun h => by simp [h], fun h => ?_, fun h => by simp [h]⟩
  rw [if_neg (by omega), if_pos (by omega)]

theorem cmp_any (A B : Option Addr) (n c m d : Nat) (F G : Nat → Nat) (w : World) (hA : Rd w A n c F) (hB : Rd w B m d G) (r : Int) (hr : cmpN (S F n) (S G m) = r) :
    Calls Tryz.prog 85 #[.slice A n c, .slice B m d] w fun e w' => e = .returned (.int .i64 r) ∧ ∃ k, w' = w.drewN k := by
  have hA' := Lib.hid hA
  have hB' := Lib.hid hB
  have hn := hA.small
  have hm := hB.small
  have HR := Lib.hid hr
  clear hA hB hr
  go_enter Tryz.func85, Tryz.ntmps85
  go_wp2_with fail
  with_reducible (refine (trim_any A n c F _ hA'.out).mono ?_)
  rintro e w' ⟨⟨x, hx, rfl⟩, rfl⟩
  have HX := Lib.hid hx
  clear hx
  go_wp2_with fail
  with_reducible (refine (trim_any B m d G _ hB'.out).mono ?_)
  rintro e w' ⟨⟨y, hy, rfl⟩, rfl⟩
  have HY := Lib.hid hy
  clear hy
  go_wp2_with fail
  with_reducible (refine (Tryz.cmp_Compare_int _ _ _).mono ?_)
  rintro e w' ⟨rfl, rfl⟩
  have hrx := hA'.out.cut HX.out.le
  have hry := hB'.out.cut HY.out.le
  have hle : x ≤ n := HX.out.le
  have hle2 : y ≤ m := HY.out.le
  have hlen := cmpN_len hrx.word hry.word HX.out.nm HY.out.nm
  rw [HX.out.sum, HY.out.sum, HR.out] at hlen
  rcases Nat.lt_trichotomy x y with h | h | h
  · have ci := (compareInt_lt x y).1 (by omega)
    obtain rfl := hlen.1 h
    clear hlen hrx hry
    go_wp2_with fail
    go_ret
    exact ⟨rfl, 0, rfl⟩
  · subst h
    have ci := (compareInt_lt x x).2.2 rfl
    have HRX := Lib.hid hrx
    have HRY := Lib.hid hry
    clear hlen hrx hry
    go_wp2_with fail
    go_loopw [6] (fun i wr => ∃ (j : Nat) (y : Int), j ≤ x ∧ i = .int .i64 y ∧ y + 1 = (j : Int) ∧ Hid (∀ i, j ≤ i → i < x → F i = G i) ∧ Hid (∃ k, wr = w'.drewN k)) (fun i _ => (1 + intOf i).toNat)
    case atStart => exact ⟨x, _, Nat.le_refl _, rfl, by omega, Lib.hid (fun i h1 h2 => by omega), Lib.hid ⟨0, rfl⟩⟩
    case round =>
      obtain ⟨j, yy, hj, rfl, hy, hz, hW⟩ := hrel
      rcases j with _ | i
      · obtain rfl : yy = -1 := by omega
        obtain rfl : r = 0 := by
          rw [← HR.out, ← HX.out.sum, ← HY.out.sum]
          exact cmpN_same (fun i hi => hz.out i (Nat.zero_le _) hi)
        go_wp2_with fail
        go_ret
        exact ⟨rfl, hW.out⟩
      · obtain rfl : yy = (i : Int) := by omega
        have hri : Rd wr A x x F := by obtain ⟨k, rfl⟩ := hW.out; exact HRX.out.drewN k
        have hrj : Rd wr B x x G := by obtain ⟨k, rfl⟩ := hW.out; exact HRY.out.drewN k
        obtain ⟨ad, rfl, hb1, hx1⟩ := hri.at_ i (by omega)
        obtain ⟨bd, rfl, hb2, hx2⟩ := hrj.at_ i (by omega)
        have hw1 := hri.word' i (by omega)
        have hw2 := hrj.word' i (by omega)
        obtain ⟨rr, hrr⟩ : ∃ rr, cmpN (F i) (G i) = rr := ⟨_, rfl⟩
        have C := Lib.hid (fun w => cmpu_any (F i) (G i) rr hrr w)
        have HRR := Lib.hid hrr
        clear hri hrj hrr
        have u1 : (i : Int) < x := by omega
        by_cases hfg : F i = G i
        · obtain rfl : rr = 0 := by rw [← HRR.out, hfg]; unfold cmpN; simp
          have HE := Lib.hid hfg
          clear hfg
          go_wp2_with fail
          go_quiet ((go_at_call 117; exact Calls.quiet_of_same (C.out _)))
          go_wp2_with fail
          go_roundw
          case rel =>
            refine ⟨i, _, by omega, rfl, by omega, Lib.hid (fun t h1 h2 => ?_), Lib.hid ?_⟩
            · rcases Nat.eq_or_lt_of_le h1 with e | e
              · rw [← e]; exact HE.out
              · exact hz.out t e h2
            · obtain ⟨k, hk⟩ := hW.out
              rw [hk]
              exact ⟨_, World.drewN_drewN _ _ _⟩
          case measure => simp [intOf]; omega
        · have hne : (rr != 0) = true := by
            rw [← HRR.out]; unfold cmpN; simp; omega
          obtain rfl : rr = r := by
            rw [← HRR.out, ← HR.out, ← HX.out.sum, ← HY.out.sum]
            exact (cmpN_at (by omega) HRX.out.word HRY.out.word hz.out hfg).symm
          have HE := Lib.hid hfg
          clear hfg
          go_wp2_with fail
          go_quiet ((go_at_call 117; exact Calls.quiet_of_same (C.out _)))
          go_wp2_with fail
          go_ret
          refine ⟨rfl, ?_⟩
          obtain ⟨k, hk⟩ := hW.out
          rw [hk]
          exact ⟨_, World.drewN_drewN _ _ _⟩
  · have ci := (compareInt_lt x y).2.1 (by omega)
    obtain rfl := hlen.2 h
    clear hlen hrx hry
    go_wp2_with fail
    go_ret
    exact ⟨rfl, 0, rfl⟩
end Go.Proofs.YtlmeobokpibifaaGreatDoor
end

/- How a slice of words reads in memory; package nat's trim, at, Norm, Of. Conditions: as each theorem names them. -/
import Derived.Test.YteiajccjlbghoaaProg
import Derived.Test.YteiajccjlbghoaaSum
import Derived.WalkKit
import Derived.Deep.OwnRows
import Derived.Deep.QuietTactic
import Derived.BigQuiet
import Derived.Deep.Draws
import Derived.StillTailTactics
import Derived.WalkLawsBesides
import Derived.WalkSpells
import Derived.Laws.OwnMore
import Derived.Deep.AppendLies
import Derived.Lib.Hide
set_option linter.unusedVariables false
namespace Go.Proofs.Yteiajccjlbghoaa
open Go.RowKit

/-- a slice reads as the words F 0 .. F (n - 1) -/
def Rd (w : World) (A : Option Addr) (n c : Nat) (F : Nat → Nat) : Prop :=
  n ≤ c ∧ n ≤ 17592186044416 ∧ (A = none → c = 0) ∧ (∀ i, i < n → F i < Wd) ∧ (0 < n → ∃ ad, A = some ad ∧ ad.block < w.heap.size ∧ ∀ i, i < n → w.cell? (ad.add i) = some (.int .u64 (F i)))

theorem block_add (a : Addr) (n : Nat) : (a.add n).block = a.block := by unfold Addr.add; split <;> rfl
theorem add_add (a : Addr) (i j : Nat) : (a.add i).add j = a.add (i + j) := by
  unfold Addr.add
  by_cases hi : i = 0 <;> by_cases hj : j = 0 <;> simp [hi, hj, Nat.add_assoc]

section
variable {w w' : World} {A : Option Addr} {n c : Nat} {F : Nat → Nat}
theorem Rd.len (h : Rd w A n c F) : n ≤ c := h.1
theorem Rd.small (h : Rd w A n c F) : n ≤ 17592186044416 := h.2.1
theorem Rd.word (h : Rd w A n c F) : ∀ i, i < n → F i < Wd := h.2.2.2.1
theorem Rd.word' (h : Rd w A n c F) : ∀ i, i < n → F i < 18446744073709551616 := h.2.2.2.1
theorem Rd.at_ (h : Rd w A n c F) (k : Nat) (hk : k < n) : ∃ ad, A = some ad ∧ ad.block < w.heap.size ∧ w.cell? (ad.add k) = some (.int .u64 (F k)) := by
  obtain ⟨ad, e, b, hc⟩ := h.2.2.2.2 (by omega)
  exact ⟨ad, e, b, hc k hk⟩
theorem Rd.keep (h : Rd w A n c F) (hs : w.heap.size ≤ w'.heap.size) (hk : ∀ p : Addr, A.map (·.block) = some p.block → p.block < w.heap.size → w'.cell? p = w.cell? p) : Rd w' A n c F := by
  obtain ⟨a, b, d, e, f⟩ := h
  refine ⟨a, b, d, e, fun hn => ?_⟩
  obtain ⟨ad, rfl, hb, hc⟩ := f hn
  exact ⟨ad, rfl, by omega, fun i hi => (hk _ (by simp [block_add]) (by rw [block_add]; exact hb)).trans (hc i hi)⟩
theorem Rd.below (h : Rd w A n c F) (hb : Below w.heap.size w w') : Rd w' A n c F := h.keep hb.size fun p _ hp => hb.cell hp
theorem Rd.alloc (h : Rd w A n c F) (o : Obj) : Rd (w.alloc o) A n c F := h.below ((Below.refl _ _).alloc (Nat.le_refl _) _)
theorem Rd.drewN (h : Rd w A n c F) (k : Nat) : Rd (w.drewN k) A n c F := h
theorem Rd.cut (h : Rd w A n c F) {m : Nat} (hm : m ≤ n) : Rd w A m m F := by
  obtain ⟨a, b, d, e, f⟩ := h
  refine ⟨Nat.le_refl _, by omega, fun hA => by have := d hA; omega, fun i hi => e i (by omega), fun hn => ?_⟩
  obtain ⟨ad, hA, hb, hc⟩ := f (by omega)
  exact ⟨ad, hA, hb, fun i hi => hc i (by omega)⟩
theorem Rd.congr {G : Nat → Nat} (h : Rd w A n c F) (e : ∀ i, i < n → F i = G i) : Rd w A n c G := by
  obtain ⟨a, b, d, x, f⟩ := h
  refine ⟨a, b, d, fun i hi => by rw [← e i hi]; exact x i hi, fun hn => ?_⟩
  obtain ⟨ad, hA, hb, hc⟩ := f hn
  exact ⟨ad, hA, hb, fun i hi => by rw [← e i hi]; exact hc i hi⟩
theorem Rd.nil (w : World) (F : Nat → Nat) : Rd w none 0 0 F := ⟨Nat.le_refl _, by decide, fun _ => rfl, fun i hi => absurd hi (Nat.not_lt_zero _), fun h => absurd h (Nat.lt_irrefl _)⟩
theorem Rd.row {b : Nat} {t : TypeId} (h : w.rowIs b t n (fun i => .int .u64 (F i))) (hm : n ≤ 17592186044416) (hF : ∀ i, i < n → F i < Wd) : Rd w (some ⟨b, 0, none⟩) n n F := by
  refine ⟨Nat.le_refl _, hm, fun h => by simp at h, hF, fun hn => ⟨_, rfl, h.lt, fun i hi => ?_⟩⟩
  rw [← h.cell hi]
  congr 1
  unfold Addr.add
  split <;> simp_all
end

/-- what trim leaves -/
def Trim (n : Nat) (F : Nat → Nat) (m : Nat) : Prop := m ≤ n ∧ (∀ i, m ≤ i → i < n → F i = 0) ∧ Nm m F
theorem Trim.le {n m : Nat} {F : Nat → Nat} (h : Trim n F m) : m ≤ n := h.1
theorem Trim.nm {n m : Nat} {F : Nat → Nat} (h : Trim n F m) : Nm m F := h.2.2
theorem Trim.sum {n m : Nat} {F : Nat → Nat} (h : Trim n F m) : S F m = S F n := (S_zeros h.1 h.2.1).symm

theorem trim_any (A : Option Addr) (n c : Nat) (F : Nat → Nat) (w : World) (h : Rd w A n c F) :
    Calls Try.prog 50 #[.slice A n c] w fun e w' => (∃ m, Trim n F m ∧ e = .returned (.slice A m m)) ∧ w = w' := by
  have hn := h.len
  have hc := h.small
  have hcell := Lib.hid h.at_
  have hword := Lib.hid h.word'
  have hnil := Lib.hid h.2.2.1
  clear h
  go_enter Try.func50, Try.ntmps50
  go_wp2_with fail
  go_loop [3] (fun i => ∃ k : Nat, k ≤ n ∧ i = .int .i64 k ∧ Hid (∀ i, k ≤ i → i < n → F i = 0)) (fun i => (intOf i).toNat)
  case atStart => exact ⟨n, Nat.le_refl _, rfl, Lib.hid (fun i h1 h2 => by omega)⟩
  case round =>
    obtain ⟨k, hk, rfl, hz⟩ := hrel
    rcases k with _ | j
    · have t1 : decide ((0 : Int) < ((0 : Nat) : Int)) = false := by decide
      rcases A with _ | ad
      · obtain rfl : c = 0 := hnil.out rfl
        go_wp2_with fail
        go_ret
        exact ⟨⟨0, ⟨Nat.zero_le _, hz.out, Or.inl rfl⟩, rfl⟩, rfl⟩
      · go_wp2_with fail
        go_ret
        exact ⟨⟨0, ⟨Nat.zero_le _, hz.out, Or.inl rfl⟩, rfl⟩, rfl⟩
    · obtain ⟨ad, rfl, hb, hx⟩ := hcell.out j (by omega)
      have hw := hword.out j (by omega)
      have t1 : decide ((0 : Int) < ((j + 1 : Nat) : Int)) = true := decide_eq_true (by omega)
      by_cases h0 : F j = 0
      · have t2 : ((F j : Int) == 0) = true := by simp [h0]
        have H0 := Lib.hid h0
        clear h0
        go_wp2_with fail
        go_round
        case rel =>
          refine ⟨j, by omega, rfl, Lib.hid (fun i h1 h2 => ?_)⟩
          rcases Nat.eq_or_lt_of_le h1 with e | e
          · rw [← e]; exact H0.out
          · exact hz.out i e h2
        case measure => simp [intOf]
      · have t2 : ((F j : Int) == 0) = false := by simp; omega
        have H0 := Lib.hid h0
        clear h0
        go_wp2_with fail
        go_ret
        exact ⟨⟨j + 1, ⟨hk, hz.out, Or.inr H0.out⟩, rfl⟩, rfl⟩

theorem at_any (A : Option Addr) (n c : Nat) (F : Nat → Nat) (i : Int) (w : World) (h : Rd w A n c F) (v : Nat) (hv : v = if 0 ≤ i ∧ i < n then F i.toNat else 0) :
    Calls Try.prog 63 #[.slice A n c, .int .i64 i] w fun e w' => e = .returned (.int .u64 v) ∧ w = w' := by
  have hn := h.len
  have hc := h.small
  by_cases h1 : i < 0
  · have t1 : decide (i < 0) = true := by simpa using h1
    obtain rfl : v = 0 := by rw [hv, if_neg (by omega)]
    clear h hv
    go_enter Try.func63, Try.ntmps63
    go_wp2_with fail
    go_ret
    exact ⟨rfl, rfl⟩
  · have t1 : decide (i < 0) = false := by simpa using h1
    by_cases h2 : i < n
    · obtain ⟨j, rfl⟩ : ∃ j : Nat, i = (j : Int) := ⟨i.toNat, by omega⟩
      obtain ⟨ad, rfl, hb, hx⟩ := h.at_ j (by omega)
      have t2 : decide (n ≤ j) = false := by simp; omega
      have hv' : v = F j := by rw [hv, if_pos (by omega)]; rfl
      have hw := h.word' j (by omega)
      subst hv'
      clear h hv
      go_enter Try.func63, Try.ntmps63
      go_wp2_with fail
      go_ret
      exact ⟨rfl, rfl⟩
    · have t2 : (n : Int) ≤ i := by omega
      obtain rfl : v = 0 := by rw [hv, if_neg (by omega)]
      clear h hv
      go_enter Try.func63, Try.ntmps63
      go_wp2_with fail
      go_ret
      exact ⟨rfl, rfl⟩
end Go.Proofs.Yteiajccjlbghoaa

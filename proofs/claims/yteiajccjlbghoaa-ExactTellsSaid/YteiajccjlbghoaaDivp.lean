/- Long division, word by word: the plain law. No program stands here. Conditions: as each theorem names them. -/
import Derived.Test.YteiajccjlbghoaaDivW
set_option linter.unusedVariables false
namespace Go.Proofs.Yteiajccjlbghoaa

/-- what holds when the words of the quotient from the j-th on are found -/
structure Found (Uo O Qw : Nat → Nat) (n1 lv Q V j : Nat) : Prop where
  low : ∀ i, i < j → O i = Uo i
  high : ∀ i, j + lv ≤ i → i < n1 → O i = 0
  rest : S (fun i => O (j + i)) lv < V
  sum : tl Uo n1 j = tl Qw Q j * V + S (fun i => O (j + i)) lv

theorem found_start {Uo : Nat → Nat} {n1 lv Q V : Nat} (hQ : Q + lv = n1) (hl : 0 < lv) (hU : ∀ i, Uo i < Wd) (hz : Uo (n1 - 1) = 0) (hV : Wd ^ (lv - 1) ≤ V) (Qw : Nat → Nat) : Found Uo Uo Qw n1 lv Q V Q := by
  have e : S (fun i => Uo (Q + i)) lv = S (fun i => Uo (Q + i)) (lv - 1) := by
    obtain ⟨m, rfl⟩ : ∃ m, lv = m + 1 := ⟨lv - 1, by omega⟩
    rw [S_succ, Nat.add_sub_cancel]
    have : Uo (Q + m) = 0 := by rw [← hz]; congr 1; omega
    rw [this, Nat.zero_mul, Nat.add_zero]
  refine ⟨fun _ _ => rfl, fun i h1 h2 => by omega, ?_, ?_⟩
  · rw [e]
    have := S_lt (F := fun i => Uo (Q + i)) (n := lv - 1) (fun i _ => hU _)
    omega
  · rw [tl_end, Nat.zero_mul, Nat.zero_add]
    unfold tl
    rw [show n1 - Q = lv by omega]

theorem found_x {Uo O Qw : Nat → Nat} {n1 lv Q V t : Nat} (h : Found Uo O Qw n1 lv Q V (t + 1)) : S (fun i => O (t + i)) (lv + 1) = O t + Wd * S (fun i => O (t + 1 + i)) lv := by
  rw [S_shift, Nat.add_zero]
  congr 2
  exact S_congr fun i _ => by congr 1; omega
theorem found_lt {Uo O Qw : Nat → Nat} {n1 lv Q V t : Nat} (h : Found Uo O Qw n1 lv Q V (t + 1)) (hO : O t < Wd) : S (fun i => O (t + i)) (lv + 1) < V * 18446744073709551616 := by
  rw [found_x h]
  have := h.rest
  have e : Wd * (S (fun i => O (t + 1 + i)) lv + 1) ≤ Wd * V := Nat.mul_le_mul_left _ this
  rw [Nat.mul_add, Nat.mul_one, Nat.mul_comm Wd V] at e
  rw [Wd_eq] at e hO ⊢
  omega
theorem found_step {Uo O P Qw : Nat → Nat} {n1 lv Q V t q : Nat} (h : Found Uo O Qw n1 lv Q V (t + 1)) (hQ : Q + lv = n1) (htQ : t < Q) (hV : V < Wd ^ lv) (hP : ∀ i, i < t ∨ t + (lv + 1) ≤ i → P i = O i) (hPw : ∀ i, P i < Wd)
    (hq : S (fun i => O (t + i)) (lv + 1) / V = q) (hr : S (fun i => P (t + i)) (lv + 1) = S (fun i => O (t + i)) (lv + 1) % V) (hV0 : 0 < V) : Found Uo P (upd Qw t q) n1 lv Q V t := by
  have hrl := Nat.mod_lt (S (fun i => O (t + i)) (lv + 1)) hV0
  have hz : P (t + lv) = 0 := by
    rcases Nat.eq_zero_or_pos (P (t + lv)) with h0 | h0
    · exact h0
    · exfalso
      rw [S_succ] at hr
      have : 1 * Wd ^ lv ≤ P (t + lv) * Wd ^ lv := Nat.mul_le_mul_right _ h0
      omega
  have hs : S (fun i => P (t + i)) lv = S (fun i => O (t + i)) (lv + 1) % V := by
    rw [← hr, S_succ, hz, Nat.zero_mul, Nat.add_zero]
  have hx := found_x h
  refine ⟨fun i hi => by rw [hP i (Or.inl hi)]; exact h.low i (by omega), fun i h1 h2 => ?_, by rw [hs]; exact hrl, ?_⟩
  · rcases Nat.eq_or_lt_of_le h1 with e | e
    · rw [← e]; exact hz
    · rw [hP i (Or.inr (by omega))]; exact h.high i (by omega) h2
  · rw [tl_step Uo (by omega), tl_step (upd Qw t q) htQ, upd_at, tl_congr (F := upd Qw t q) (G := Qw) (fun i hi => upd_ne Qw q (by omega)), h.sum, hs, ← h.low t (by omega)]
    have d := Nat.div_add_mod (S (fun i => O (t + i)) (lv + 1)) V
    rw [hq, Nat.mul_comm] at d
    rw [Nat.add_mul, Nat.mul_add, Nat.mul_assoc Wd]
    omega
theorem found_end {Uo O Qw : Nat → Nat} {n1 lv Q V : Nat} (h : Found Uo O Qw n1 lv Q V 0) (hQ : Q + lv = n1) (hV0 : 0 < V) : S Qw Q = S Uo n1 / V ∧ S O n1 = S Uo n1 % V := by
  have hs := h.sum
  have e : S O n1 = S (fun i => O (0 + i)) lv := by
    rw [S_zeros (show lv ≤ n1 by omega) (fun i h1 h2 => h.high i (by omega) h2)]
    exact S_congr fun i _ => by rw [Nat.zero_add]
  rw [← e, tl_zero, tl_zero] at hs
  have hr := h.rest
  rw [← e] at hr
  rw [hs, Nat.mul_comm (S Qw Q)]
  refine ⟨?_, ?_⟩
  · rw [Nat.mul_add_div hV0, Nat.div_eq_of_lt hr, Nat.add_zero]
  · rw [Nat.mul_add_mod, Nat.mod_eq_of_lt hr]
end Go.Proofs.Yteiajccjlbghoaa

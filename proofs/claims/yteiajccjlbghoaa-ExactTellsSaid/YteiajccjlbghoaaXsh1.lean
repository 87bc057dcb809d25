/- package caliperlaw02's shown: numbers that it names, and what they are. Conditions: as each theorem names them. -/
import Derived.Test.YteiajccjlbghoaaXten
set_option linter.unusedVariables false
namespace Go.Proofs.Yteiajccjlbghoaa
open Go.RowKit

theorem at_world {P : Program} {f : FuncId} {args : Array Value} {R : Ending → World → Prop} {w : World} (h : ∀ w', w' = w → Calls P f args w' R) : Calls P f args w R := h w rfl
theorem at_code {P : Program} {c : Code} {Q : Exit → Act → World → Prop} {a : Act} {w : World} (h : ∀ w', w' = w → c.wp P Q a w') : c.wp P Q a w := h w rfl
theorem lit_rd {w : World} {g x : Nat} (h : w.cell? { block := g, off := 0 } = some (.int .u64 x)) (hx : x < 18446744073709551616) : Rd w (some { block := g, off := 0 }) 1 1 (fun _ => x) :=
  ⟨by decide, by decide, fun h => by simp at h, fun _ _ => hx, fun _ => ⟨_, rfl, World.block_lt_of_cell? w _ h, fun i hi => by
    have e : i = 0 := by omega
    rw [e]; exact h⟩⟩
theorem lit_N {w : World} {g x : Nat} (h : w.cell? { block := g, off := 0 } = some (.int .u64 x)) (hx : x < 18446744073709551616) (h0 : x ≠ 0) : IsN w (.slice (some { block := g, off := 0 }) 1 1) x :=
  ⟨_, 1, 1, fun _ => x, rfl, lit_rd h hx, Or.inr h0, by rw [S_succ, S_zero]; simp⟩

theorem sh_floor : vx 5 (-2) 0 / tenx 0 = 1 ∧ restN (vx 5 (-2) 0) (tenx 0) = 1 := by
  obtain ⟨C, hC, h1, h2⟩ := floor_parts 5 (-2) 0 0 (by decide) (by decide) (by decide)
  rw [h1, h2]
  obtain ⟨r1, r2⟩ := restN_part (5 * 5 ^ ((0 : Int) - 0).toNat * 2 ^ ((-2 : Int) - 0).toNat) (1 * 5 ^ ((0 : Int) - 0).toNat * 2 ^ ((0 : Int) - (-2)).toNat) C hC
  rw [r1, r2]
  decide
theorem sh_log : Lg 5 (-2) 0 0 := by
  obtain ⟨C, hC, h1, h2⟩ := floor_parts 5 (-2) 0 0 (by decide) (by decide) (by decide)
  refine ⟨by decide, by decide, Or.inr ⟨by decide, ?_, ?_⟩⟩
  · rw [h1, h2]; exact Nat.mul_le_mul_right _ (by decide)
  · rw [tenx_succ (by decide), h1, h2, ← Nat.mul_assoc]; exact Nat.mul_lt_mul_of_pos_right (by decide) hC
theorem lg_ten {k : Int} (h : -19000 ≤ k ∧ k ≤ 19000) : Lg 1 k k k := by
  refine ⟨h.1, h.2, Or.inr ⟨by decide, Nat.le_refl _, ?_⟩⟩
  rw [tenx_succ (by omega)]
  have := tenx_pos k
  show tenx k < _
  omega
theorem sh_cmp : xcmp 125 (-2) (-2) 5 (-2) 0 = 0 := by
  rw [xcmp_cross _ _ _ _ _ _ (by decide) (by decide) (by decide) (by decide)]
  decide
theorem xcmp_self (M : Nat) (s f : Int) : xcmp M s f M s f = 0 := by
  unfold xcmp cmpN; rw [if_neg (Nat.lt_irrefl _), if_neg (Nat.lt_irrefl _)]
theorem sh_sgn : cmpI (sx false 5 (-2) 0) (sx true 5 (-2) 0) = 1 := by
  have := vx_pos (M := 5) (-2) 0 (by decide)
  unfold sx cmpI
  simp only [Bool.false_eq_true, if_false, if_true]
  rw [if_neg (by omega), if_pos (by omega)]
theorem sh_nil (neg : Bool) (s f : Int) : cmpI (sx neg 0 s f) (sx false 0 0 0) = 0 := by
  unfold sx cmpI; simp [vx_zero]
theorem sh_far : xcmp 1 5000 5000 1 (-5000) (-5000) = 1 := by
  have h1 : tenx (-5000) ≤ tenx 4999 := tenx_mono (by decide) (by decide)
  have h2 : tenx 5000 = 10 * tenx 4999 := tenx_succ (k := 4999) (by decide)
  have h3 := tenx_pos 4999
  show cmpN (tenx 5000) (tenx (-5000)) = 1
  exact (cmpN_cases _ _).2.1.2 (by omega)
theorem pow_uniq {r a b p q : Nat} (hr : 0 < r) (ha : a % r ≠ 0) (hb : b % r ≠ 0) (h : a * r ^ p = b * r ^ q) : p = q ∧ a = b := by
  have key : ∀ {a b p q : Nat}, a % r ≠ 0 → a * r ^ p = b * r ^ q → p ≤ q → p = q ∧ a = b := by
    intro a b p q ha h hpq
    obtain ⟨d, rfl⟩ : ∃ d, q = p + d := ⟨q - p, by omega⟩
    rw [Nat.pow_add, Nat.mul_left_comm, Nat.mul_comm a] at h
    have h2 : a = b * r ^ d := Nat.eq_of_mul_eq_mul_left (Nat.pow_pos hr) h
    rcases d with _ | d
    · exact ⟨rfl, by rw [h2]; simp⟩
    · exfalso
      apply ha
      rw [h2, Nat.pow_succ, ← Nat.mul_assoc]
      exact Nat.mul_mod_left _ _
  rcases Nat.le_total p q with hpq | hpq
  · exact key ha h hpq
  · obtain ⟨x, y⟩ := key hb h.symm hpq
    exact ⟨x.symm, y.symm⟩
theorem five_odd (n : Nat) : 5 ^ n % 2 = 1 := by
  induction n with
  | zero => rfl
  | succ n ih => rw [Nat.pow_succ]; omega
theorem Bare.vx {M N : Nat} {s f t g : Int} (h : Bare M s f N t g) (hs : -40000 ≤ s) (hf : -40000 ≤ f) : vx M s f = N * 5 ^ (g + 40000).toNat * 2 ^ (t + 40000).toNat := by
  obtain ⟨p, q, rfl, rfl, rfl⟩ := h.same
  unfold Go.Proofs.Yteiajccjlbghoaa.vx
  rw [show (f + (q : Int) + 40000).toNat = q + (f + 40000).toNat by omega, show (s + (p : Int) + 40000).toNat = p + (s + 40000).toNat by omega, Nat.pow_add, Nat.pow_add]
  simp only [Nat.mul_assoc, Nat.mul_left_comm, Nat.mul_comm]
theorem Bare.uniq {M N M' N' : Nat} {s f t g s' f' t' g' : Int} (h : Bare M s f N t g) (h' : Bare M' s' f' N' t' g') (hs : -40000 ≤ s) (hf : -40000 ≤ f) (hs' : -40000 ≤ s') (hf' : -40000 ≤ f')
    (e : Go.Proofs.Yteiajccjlbghoaa.vx M s f = Go.Proofs.Yteiajccjlbghoaa.vx M' s' f') : N = N' ∧ t = t' ∧ g = g' := by
  rw [h.vx hs hf, h'.vx hs' hf'] at e
  have o : ∀ {N : Nat} (n : Nat), N % 2 = 1 → (N * 5 ^ n) % 2 ≠ 0 := by
    intro N n h
    rw [Nat.mul_mod, h, five_odd]; decide
  obtain ⟨e1, e2⟩ := pow_uniq (by decide) (o _ h.two) (o _ h'.two) e
  obtain ⟨e3, e4⟩ := pow_uniq (by decide) h.five h'.five e2
  obtain ⟨p, q, _, rfl, rfl⟩ := h.same
  obtain ⟨p', q', _, rfl, rfl⟩ := h'.same
  exact ⟨e4, by omega, by omega⟩
theorem sh_bare : Bare 125 (-2) (-2) 1 (-2) 1 := ⟨by decide, by decide, 0, 3, by decide, by decide, by decide⟩
theorem fit_small {x : Nat} (h : x < 18446744073709551616) : fitB x = true := by
  unfold fitB
  apply decide_eq_true
  have : (18446744073709551616 : Nat) = 2 ^ 64 := by decide
  rw [this] at h
  exact Nat.lt_of_lt_of_le h (Nat.pow_le_pow_right (by decide) (by decide : 64 ≤ fitE))
theorem cmpB (u v : Value) (M N : Nat) (r : Int) (w : World) (h1 : IsN w u M) (h2 : IsN w v N) (hr : cmpN M N = r) :
    Calls Try.prog 25 #[u, v] w fun e w' => e = .returned (.int .i64 r) ∧ Below w.heap.size w w' :=
  (cmp_N u v M N r w h1 h2 hr).mono fun e w' ⟨he, k, hk⟩ => ⟨he, by rw [hk]; exact bdrewN (Below.refl _ _) k⟩
theorem log_X (neg : Bool) (v : Value) (s f : Int) (M : Nat) (w : World) (h : XOk w v M s f) (hs : -6000 ≤ s ∧ s ≤ 6000) (hf : -6000 ≤ f ∧ f ≤ 6000) (hb : bitsN M ≤ 9000) :
    Calls Try.prog 19 #[xv neg v s f] w fun e w' => (∃ k, e = .returned (.int .i64 k) ∧ Lg M s f k) ∧ Below w.heap.size w w' := by
  rcases Nat.eq_zero_or_pos M with h0 | h0
  · subst h0
    exact (log_zero neg v s f w h.isn).mono fun e w' ⟨he, hb⟩ => ⟨⟨0, he, by decide, by decide, Or.inl ⟨rfl, rfl⟩⟩, hb⟩
  · exact log_pos neg v s f M w h h0 hs hf hb
theorem log_is (neg : Bool) (v : Value) (s f : Int) (M : Nat) (k : Int) (w : World) (h : XOk w v M s f) (hs : -6000 ≤ s ∧ s ≤ 6000) (hf : -6000 ≤ f ∧ f ≤ 6000) (hb : bitsN M ≤ 9000) (hM : 0 < M) (hk : Lg M s f k) :
    Calls Try.prog 19 #[xv neg v s f] w fun e w' => e = .returned (.int .i64 k) ∧ Below w.heap.size w w' := by
  refine (log_X neg v s f M w h hs hf hb).mono ?_
  rintro e w' ⟨⟨j, rfl, hj⟩, hb⟩
  rw [hj.uniq hk rfl Iff.rfl]
  exact ⟨rfl, hb⟩
theorem ten_X (k : Int) (w : World) (hk : -10000 ≤ k ∧ k ≤ 10000) :
    Calls Try.prog 29 #[.int .i64 k] w fun e w' => (∃ A n c, e = .returned (xv false (.slice A n c) k k) ∧ XOk w' (.slice A n c) 1 k k) ∧ Below w.heap.size w w' :=
  (ten_any k w).mono fun e w' ⟨⟨A, n, c, he, h⟩, hb⟩ => ⟨⟨A, n, c, he, h, by decide, hk.1, hk.2, hk.1, hk.2⟩, hb⟩
end Go.Proofs.Yteiajccjlbghoaa

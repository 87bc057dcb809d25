/- PositDoubles walked: setting the next bit of the exponent doubles. Conditions: the table of math-bits lies as the text lays it. -/
import Derived.Test.YtfmecakoccnblaaDoorPositBack
set_option linter.unusedVariables false
namespace Go.Proofs.YtfmecakoccnblaaDoor
open Go.RowKit

/-- fields that have room have a key -/
theorem fields_made {n l b ex fr : Nat} {q : Int} (h1 : 2 ≤ n) (h2 : n ≤ 64) (hl : l + 2 ≤ n) (hb : l = b + 2) (he : ex ≤ 3) (hf : fr < 2 ^ b) (hq : q = ((n - l - 2 : Nat) : Int) ∨ q = -((n - l - 1 : Nat) : Int)) :
    ∃ key, 0 < key ∧ key < 2 ^ n ∧ fReg n key = q ∧ fExp n key = ex ∧ fFrac n key = fr ∧ fBits n key = b := by
  have hr : ex * 2 ^ b + fr < 2 ^ l := by rw [hb]; exact rest_fits ex fr b he hf
  have go : ∀ key, fLeft n key = l → fRest n key = ex * 2 ^ b + fr → fExp n key = ex ∧ fFrac n key = fr ∧ fBits n key = b := by
    intro key kl kr
    have kb : fBits n key = b := by unfold fBits; rw [kl]; omega
    refine ⟨?_, ?_, kb⟩
    · unfold fExp
      rw [kb, kr, kl, show 2 - l = 0 by omega, Nat.pow_zero, Nat.mul_one, Nat.mul_comm, Nat.mul_add_div (Nat.two_pow_pos b), Nat.div_eq_of_lt hf]
      rfl
    · unfold fFrac
      rw [kb, kr, Nat.mul_comm, Nat.mul_add_mod, Nat.mod_eq_of_lt hf]
  rcases hq with hq | hq
  · obtain ⟨y1, y2, y3, y4, y5⟩ := pos_made h1 h2 hl hr
    exact ⟨_, y1, y2, by rw [y3, hq], go _ y4 y5⟩
  · obtain ⟨y1, y2, y3, y4, y5⟩ := neg_made h1 h2 hl hr
    exact ⟨_, y1, y2, by rw [y3, hq], go _ y4 y5⟩

theorem W_fields {n key : Nat} (h1 : 2 ≤ n) (h2 : n ≤ 64) (h3 : 0 < key) (h4 : key < 2 ^ n) :
    fW n key = fReg n key * 18446744073709551616 + fExp n key * 4611686018427387904 + (fFrac n key * 2 ^ (62 - fBits n key) : Nat) := by
  obtain ⟨t1, _⟩ := tail_parts h1 h2 h3 h4
  unfold fW
  rw [t1]
  omega

theorem M_up {n key key' : Nat} {c : Int} (h : fW n key' = fW n key + c * 4611686018427387904) : fM n key' = fM n key ∧ fE n key' = fE n key + c := by
  obtain ⟨m1, m2, _⟩ := M_odd n key
  refine (ME_iff m1 m2).2 ?_
  rw [h, ← numW_of_key]
  unfold numW
  omega

theorem doubles_no (wd : Int) (key : Nat) (w : World) (hT : Tab w) (h : ¬ ∃ n, Fit wd n key) :
    Calls Tryd.prog 9 #[.int .i64 wd, .int .u64 key] w fun r w' => r = .returned (.bool true) ∧ Below w.heap.size w w' := by
  have S := Lib.hid (fun w => Split_no wd key w h)
  have hTab := Lib.hid hT
  clear h hT
  go_enter Tryd.func9, Tryd.ntmps9
  go_wp2_with fail
  refine (shown_true _ hTab.out).mono ?_; rintro r w1 ⟨rfl, b1⟩
  go_wp2_with fail
  refine (S.out _).mono ?_; rintro r w2 ⟨rfl, b2⟩
  go_wp2_with fail
  go_ret
  exact ⟨rfl, bgrow (bthen b1 b2) _⟩
theorem doubles_three (wd reg : Int) (ex fr bts key : Nat) (w : World) (hT : Tab w)
    (S : ∀ w, Calls Tryd.prog 12 #[.int .i64 wd, .int .u64 key] w fun r w' => r = .returned (.tuple #[.agg #[.int .i64 reg, .int .i64 ex, .int .u64 fr, .int .i64 bts], .int .i64 0]) ∧ Below w.heap.size w w')
    (h : ((ex : Int) == 3) = true) :
    Calls Tryd.prog 9 #[.int .i64 wd, .int .u64 key] w fun r w' => r = .returned (.bool true) ∧ Below w.heap.size w w' := by
  have S' := Lib.hid S
  have hTab := Lib.hid hT
  clear S hT
  go_enter Tryd.func9, Tryd.ntmps9
  go_wp2_with fail
  refine (shown_true _ hTab.out).mono ?_; rintro r w1 ⟨rfl, b1⟩
  go_wp2_with fail
  refine (S'.out _).mono ?_; rintro r w2 ⟨rfl, b2⟩
  go_wp2_with fail
  go_ret
  exact ⟨rfl, bgrow (bthen b1 b2) _⟩
theorem bset {w a : World} (h : Below w.heap.size w a) {p : Addr} {v : Value} (hp : w.heap.size ≤ p.block) : Below w.heap.size w (a.setCell p v) := h.setCell hp v
theorem doubles_none (wd reg : Int) (ex ex1 fr bts m key : Nat) (d : Int) (w : World) (hT : Tab w)
    (S : ∀ w, Calls Tryd.prog 12 #[.int .i64 wd, .int .u64 key] w fun r w' => r = .returned (.tuple #[.agg #[.int .i64 reg, .int .i64 ex, .int .u64 fr, .int .i64 bts], .int .i64 0]) ∧ Below w.heap.size w w')
    (V : ∀ w, Tab w → Calls Tryd.prog 14 #[.int .i64 wd, .int .u64 key] w fun r w' => r = .returned (.tuple #[.int .u64 m, .int .i64 d, .int .i64 0]) ∧ Below w.heap.size w w')
    (J : ∀ w, Calls Tryd.prog 20 #[.int .i64 wd, .agg #[.int .i64 reg, .int .i64 ex1, .int .u64 fr, .int .i64 bts]] w fun r w' => r = .returned (.tuple #[.int .u64 0, .int .i64 1]) ∧ Below w.heap.size w w')
    (h : ((ex : Int) == 3) = false) (he : wrap64 ((ex : Int) + 1) = (ex1 : Int)) (hb : ((bts : Int) == 0) = true) :
    Calls Tryd.prog 9 #[.int .i64 wd, .int .u64 key] w fun r w' => r = .returned (.bool true) ∧ Below w.heap.size w w' := by
  have S' := Lib.hid S
  have J' := Lib.hid J
  have V' := Lib.hid V
  have hTab := Lib.hid hT
  clear S J V hT
  go_enter Tryd.func9, Tryd.ntmps9
  go_wp2_with fail
  refine (shown_true _ hTab.out).mono ?_; rintro r w1 ⟨rfl, b1⟩
  have hTab1 := Lib.hid (hTab.out.below b1)
  go_wp2_with fail
  refine (S'.out _).mono ?_; rintro r w2 ⟨rfl, b2⟩
  have hTab2 := Lib.hid (hTab1.out.below b2)
  go_wp2_with fail
  refine (V'.out _ (hTab2.out.alloc _)).mono ?_; rintro r w3 ⟨rfl, b3⟩
  have hc3 : ∀ b o, b < w2.heap.size + 1 → w3.cell? ⟨b, o, none⟩ = (w2.alloc (.cells #[.int .i64 reg, .int .i64 ex, .int .u64 fr, .int .i64 bts] 25)).cell? ⟨b, o, none⟩ := fun b o hb => (bcell b3).1 b o (by simpa using hb)
  have hf3 : ∀ b o, b < w2.heap.size + 1 → w3.frozen? ⟨b, o, none⟩ = (w2.alloc (.cells #[.int .i64 reg, .int .i64 ex, .int .u64 fr, .int .i64 bts] 25)).frozen? ⟨b, o, none⟩ := fun b o hb => (bcell b3).2 b o (by simpa using hb)
  have c0 := hc3 w2.heap.size 0 (by omega)
  have c1 := hc3 w2.heap.size 1 (by omega)
  have c2 := hc3 w2.heap.size 2 (by omega)
  have c3 := hc3 w2.heap.size 3 (by omega)
  have g1 := hf3 w2.heap.size 1 (by omega)
  clear hc3 hf3
  simp [go_sem] at c0 c1 c2 c3 g1
  go_wp2_with fail
  refine (J'.out _).mono ?_; rintro r w4 ⟨rfl, b4⟩
  have k3 : w4.cell? ⟨w2.heap.size, 3, none⟩ = some (.int .i64 bts) := by
    have hs := b3.size
    rw [(bcell b4).1 _ _ (by simp at hs ⊢; omega)]
    simp [go_sem, c3]
  go_wp2_with fail
  go_ret
  exact ⟨rfl, bthen (bset (bthen (bgrow (bthen b1 b2) _) b3) (by have := b1.size; have := b2.size; simp; omega)) b4⟩
theorem doubles_some (wd reg : Int) (ex ex1 fr bts m key k : Nat) (d d1 : Int) (w : World) (hT : Tab w)
    (S : ∀ w, Calls Tryd.prog 12 #[.int .i64 wd, .int .u64 key] w fun r w' => r = .returned (.tuple #[.agg #[.int .i64 reg, .int .i64 ex, .int .u64 fr, .int .i64 bts], .int .i64 0]) ∧ Below w.heap.size w w')
    (V : ∀ w, Tab w → Calls Tryd.prog 14 #[.int .i64 wd, .int .u64 key] w fun r w' => r = .returned (.tuple #[.int .u64 m, .int .i64 d, .int .i64 0]) ∧ Below w.heap.size w w')
    (J : ∀ w, Calls Tryd.prog 20 #[.int .i64 wd, .agg #[.int .i64 reg, .int .i64 ex1, .int .u64 fr, .int .i64 bts]] w fun r w' => r = .returned (.tuple #[.int .u64 k, .int .i64 0]) ∧ Below w.heap.size w w')
    (V2 : ∀ w, Tab w → Calls Tryd.prog 14 #[.int .i64 wd, .int .u64 k] w fun r w' => r = .returned (.tuple #[.int .u64 m, .int .i64 d1, .int .i64 0]) ∧ Below w.heap.size w w')
    (h : ((ex : Int) == 3) = false) (he : wrap64 ((ex : Int) + 1) = (ex1 : Int)) (hd : wrap64 (d + 1) = d1) (hk : decide (key < k) = true) :
    Calls Tryd.prog 9 #[.int .i64 wd, .int .u64 key] w fun r w' => r = .returned (.bool true) ∧ Below w.heap.size w w' := by
  have S' := Lib.hid S
  have J' := Lib.hid J
  have V' := Lib.hid V
  have V2' := Lib.hid V2
  have hTab := Lib.hid hT
  clear S J V V2 hT
  go_enter Tryd.func9, Tryd.ntmps9
  go_wp2_with fail
  refine (shown_true _ hTab.out).mono ?_; rintro r w1 ⟨rfl, b1⟩
  have hTab1 := Lib.hid (hTab.out.below b1)
  go_wp2_with fail
  refine (S'.out _).mono ?_; rintro r w2 ⟨rfl, b2⟩
  have hTab2 := Lib.hid (hTab1.out.below b2)
  go_wp2_with fail
  refine (V'.out _ (hTab2.out.alloc _)).mono ?_; rintro r w3 ⟨rfl, b3⟩
  have hc3 : ∀ b o, b < w2.heap.size + 1 → w3.cell? ⟨b, o, none⟩ = (w2.alloc (.cells #[.int .i64 reg, .int .i64 ex, .int .u64 fr, .int .i64 bts] 25)).cell? ⟨b, o, none⟩ := fun b o hb => (bcell b3).1 b o (by simpa using hb)
  have hf3 : ∀ b o, b < w2.heap.size + 1 → w3.frozen? ⟨b, o, none⟩ = (w2.alloc (.cells #[.int .i64 reg, .int .i64 ex, .int .u64 fr, .int .i64 bts] 25)).frozen? ⟨b, o, none⟩ := fun b o hb => (bcell b3).2 b o (by simpa using hb)
  have c0 := hc3 w2.heap.size 0 (by omega)
  have c1 := hc3 w2.heap.size 1 (by omega)
  have c2 := hc3 w2.heap.size 2 (by omega)
  have c3 := hc3 w2.heap.size 3 (by omega)
  have g1 := hf3 w2.heap.size 1 (by omega)
  clear hc3 hf3
  simp [go_sem] at c0 c1 c2 c3 g1
  go_wp2_with fail
  refine (J'.out _).mono ?_; rintro r w4 ⟨rfl, b4⟩
  have hB := bthen (bset (bthen (bgrow (bthen b1 b2) _) b3) (by have := b1.size; have := b2.size; simp; omega)) b4
  have hTab4 := Lib.hid (hTab.out.below hB)
  go_wp2_with fail
  refine (V2'.out _ hTab4.out).mono ?_; rintro r w5 ⟨rfl, b5⟩
  go_wp2_with fail
  go_ret
  exact ⟨rfl, bthen hB b5⟩

theorem doubles_any (wd : Int) (key : Nat) (w : World) (hT : Tab w) :
    Calls Tryd.prog 9 #[.int .i64 wd, .int .u64 key] w fun r w' => r = .returned (.bool true) ∧ Below w.heap.size w w' := by
  by_cases h : ∃ n, Fit wd n key
  case neg => exact doubles_no wd key w hT h
  obtain ⟨n, h⟩ := h
  obtain ⟨hn, h1, h2, h3, h4⟩ := h
  have n2 : 2 ≤ n := by omega
  have n64 : n ≤ 64 := by omega
  have h : Fit wd n key := ⟨hn, h1, h2, h3, h4⟩
  obtain ⟨t1, t2, t3, t4⟩ := tail_parts n2 n64 h3 h4
  obtain ⟨m1, m2, m3⟩ := M_odd n key
  obtain ⟨e1, e2, _⟩ := E_bounds n2 n64 h3 h4
  by_cases hx : fExp n key = 3
  · exact doubles_three wd _ _ _ _ key w hT (fun w => Split_yes wd n key w h) (by simp [hx])
  have hx' : ((fExp n key : Int) == 3) = false := by simp; omega
  have hx1 : wrap64 ((fExp n key : Int) + 1) = ((fExp n key + 1 : Nat) : Int) := IntWalk.wrap64_in _ (by omega)
  by_cases hk : ∃ k, 0 < k ∧ k < 2 ^ n ∧ fReg n k = fReg n key ∧ fExp n k = fExp n key + 1 ∧ fFrac n k = fFrac n key ∧ fBits n k = fBits n key
  · obtain ⟨k, k1, k2, k3, k4, k5, k6⟩ := hk
    have hf : Fit wd n k := ⟨hn, h1, h2, k1, k2⟩
    have hW : fW n k = fW n key + 1 * 4611686018427387904 := by
      rw [W_fields n2 n64 k1 k2, W_fields n2 n64 h3 h4, k3, k4, k5, k6]
      omega
    obtain ⟨u1, u2⟩ := M_up hW
    have J := fun w => Join_yes wd n k w hf
    rw [k3, k4, k5, k6] at J
    have V2 := fun w hT => Value_yes wd n k w hT hf
    rw [u1, u2] at V2
    exact doubles_some wd _ _ _ _ _ _ key k _ _ w hT (fun w => Split_yes wd n key w h) (fun w hT => Value_yes wd n key w hT h) J V2 hx' hx1 (IntWalk.wrap64_in _ (by omega)) (by simpa using (W_lt_iff n2 n64 h3 h4 k1 k2).1 (by omega))
  · refine doubles_none wd (fReg n key) (fExp n key) (fExp n key + 1) (fFrac n key) (fBits n key) (fM n key) key (fE n key) w hT (fun w => Split_yes wd n key w h) (fun w hT => Value_yes wd n key w hT h) (fun w => Join_no wd (fReg n key) ((fExp n key + 1 : Nat) : Int) (fBits n key) (fFrac n key) w ?_) hx' hx1 ?_
    · rintro ⟨n', k, ⟨kn, _, _, k1, k2⟩, k3, k4, k5, k6⟩
      obtain rfl : n' = n := by omega
      exact hk ⟨k, k1, k2, k3, Int.ofNat_inj.1 k4, k5, Int.ofNat_inj.1 k6⟩
    · simp
      apply Decidable.byContradiction
      intro hb
      refine hk ?_
      have hl : fLeft n key = fBits n key + 2 := by
        have e : fBits n key = fLeft n key - 2 := rfl
        clear t1 t3 h4
        omega
      have hc := reg_cases n2 n64 h3 h4
      clear t1 h4 m1 m2 m3 e1 e2 hx1 hk
      rcases hc with ⟨a, b, c⟩ | ⟨a, b, c⟩ | ⟨a, b, c⟩
      · exact fields_made (l := fLeft n key) n2 n64 (by omega) hl (by omega) t3 (by omega)
      · exact fields_made (l := fLeft n key) n2 n64 (by omega) hl (by omega) t3 (by omega)
      · have := (all_parts n2 n64).2.1
        rw [← b] at this
        rw [this] at hl
        omega
theorem walk_PositDoubles (a0 : Int) (_ : (Lit.int .i64 a0).wf = true) (a1 : Int) (w1 : (Lit.int .u64 a1).wf = true) (w : World) (hT : Tab w) :
    Calls Tryd.prog 9 #[.int .i64 a0, .int .u64 a1] w fun e w' => e = .returned (.bool true) ∧ Below w.heap.size w w' := by
  obtain ⟨k, rfl, hk⟩ := u64_nat w1
  exact doubles_any a0 k w hT
end Go.Proofs.YtfmecakoccnblaaDoor

/- What posit.value, posit.Value answer. Conditions: as each theorem names them. -/
import Derived.Test.YtfmecakoccnblaaDoorPositCalls
set_option linter.unusedVariables false
namespace Go.Proofs.YtfmecakoccnblaaDoor
open Go.RowKit

theorem ret3 {k1 k2 k3 : IntKind} {a b c a' b' c' : Int} (h1 : a = a') (h2 : b = b') (h3 : c = c') :
    Ending.returned (.tuple #[.int k1 a, .int k2 b, .int k3 c]) = .returned (.tuple #[.int k1 a', .int k2 b', .int k3 c']) := by
  rw [h1, h2, h3]
theorem ret2 {k1 k2 : IntKind} {a b a' b' : Int} (h1 : a = a') (h2 : b = b') :
    Ending.returned (.tuple #[.int k1 a, .int k2 b]) = .returned (.tuple #[.int k1 a', .int k2 b']) := by
  rw [h1, h2]

/-- the table that TrailingZeros64 reads -/
def Tab (w : World) : Prop := ∀ j, j < Lib.deBruijn64tab.length → w.cell? ⟨0, j, none⟩ = some (.int .u8 (Lib.deBruijn64tab.getD j 0))
theorem Tab.drewN {w : World} (h : Tab w) (n : Nat) : Tab (w.drewN n) := h
theorem Tab.pos {w : World} (h : Tab w) : 0 < w.heap.size := by
  have := h 0 (by decide)
  apply Nat.lt_of_not_le
  intro hn
  have e : w.heap = #[] := by
    apply Array.eq_empty_of_size_eq_zero; omega
  simp [World.cell?, e] at this
theorem Tab.below {w w' : World} (h : Tab w) (hb : Below w.heap.size w w') : Tab w' := by
  intro j hj
  rw [hb.cell (p := ⟨0, j, none⟩) h.pos]
  exact h j hj
theorem Tab.alloc {w : World} (h : Tab w) (o : Obj) : Tab (w.alloc o) := h.below ((Below.refl _ _).alloc (Nat.le_refl _) _)

theorem tz_key (x a : Nat) (hx : x < 18446744073709551616) (hx0 : x ≠ 0) (hlow : x &&& (18446744073709551616 - x) = a) :
    IntKind.u64.wrap (bits BinOp.and IntKind.u64 (x : Int) (IntKind.u64.wrap (-(x : Int))) * 285870213051353865) / 288230376151711744 = ((a * 285870213051353865 % 18446744073709551616 / 288230376151711744 : Nat) : Int) := by
  have e1 : IntKind.u64.wrap (-(x : Int)) = ((18446744073709551616 - x : Nat) : Int) := by rw [IntKind.wrap_u64]; omega
  rw [e1, bits_and_u64_nat x _ hx (by omega), hlow, IntKind.wrap_u64]
  omega
set_option maxHeartbeats 1000000 in
theorem tz_core (x k idx : Nat) (w : World) (hx0 : ((x : Int) == 0) = false)
    (key : IntKind.u64.wrap (bits BinOp.and IntKind.u64 (x : Int) (IntKind.u64.wrap (-(x : Int))) * 285870213051353865) / 288230376151711744 = (idx : Int))
    (hi : idx < 64) (hk : k < 64) (hcell : w.cell? ⟨0, idx, none⟩ = some (.int .u8 k)) :
    Calls Tryd.prog 35 #[.int .u64 x] w fun e w' => e = .returned (.int .i64 k) ∧ w = w' := by
  go_enter Tryd.func35, Tryd.ntmps35
  go_wp2_with (simp only [key])
  go_ret
  exact ⟨rfl, rfl⟩
theorem tz_any (x : Nat) (hx : x < 18446744073709551616) (hx0 : x ≠ 0) (w : World) (hT : Tab w) :
    Calls Tryd.prog 35 #[.int .u64 x] w fun e w' => e = .returned (.int .i64 (Lib.ctz 64 x)) ∧ w = w' := by
  obtain ⟨hlow, hk⟩ := Lib.lowest_bit 64 x hx0 hx
  obtain ⟨hi, htab⟩ := Lib.deBruijn64_at _ hk
  have hcell := hT _ hi
  rw [htab] at hcell
  exact tz_core x _ _ w (by simp; omega) (tz_key x _ hx hx0 hlow) hi hk hcell

theorem odd_any (x c : Nat) (e0 : Int) (hx : x < 18446744073709551616) (hx0 : x ≠ 0) (hc : Lib.ctz 64 x = c) (hc1 : c ≤ 64) (b1 : -100000 ≤ e0) (b2 : e0 ≤ 100000) (w : World) (hT : Tab w) :
    Calls Tryd.prog 29 #[.int .u64 x, .int .i64 e0] w fun e w' => e = .returned (.tuple #[.int .u64 ((x / 2 ^ c : Nat) : Int), .int .i64 (e0 + c)]) ∧ w' = w := by
  have T := fun w hT => tz_any x hx hx0 w hT
  rw [hc] at T
  have T' := Lib.hid T
  have hTab := Lib.hid hT
  clear T hT hc
  go_enter Tryd.func29, Tryd.ntmps29
  go_wp2_with fail
  refine (T'.out _ hTab.out).mono ?_; rintro e w' ⟨rfl, rfl⟩
  go_wp2_with fail
  go_ret2
  exact ⟨ret2 (cast_shr _ _) rfl, rfl⟩

/-- the significand of a key -/
def fSig (n key : Nat) : Nat := fFrac n key + 2 ^ fBits n key

theorem value_walk (wd : Int) (key : Nat) (reg : Int) (ex fr bts sg c : Nat) (w : World) (hT : Tab w) (hb : bts ≤ 60) (hreg1 : -100 ≤ reg) (hreg2 : reg ≤ 100) (hex : ex ≤ 3)
    (S : ∀ w, Calls Tryd.prog 23 #[.int .i64 wd, .int .u64 key] w fun e w' => e = .returned (.agg #[.int .i64 reg, .int .i64 ex, .int .u64 fr, .int .i64 bts]) ∧ w.alloc (.cells #[.int .i64 reg, .int .i64 ex, .int .u64 fr, .int .i64 bts] 25) = w')
    (hsg : bits .or .u64 (IntKind.u64.wrap (2 ^ bts)) fr = (sg : Int)) (hs0 : sg ≠ 0) (hs1 : sg < 18446744073709551616) (hc : Lib.ctz 64 sg = c) (hc1 : c ≤ 64) :
    Calls Tryd.prog 26 #[.int .i64 wd, .int .u64 key] w fun e w' => e = .returned (.tuple #[.int .u64 ((sg / 2 ^ c : Nat) : Int), .int .i64 (reg * 4 + ex - bts + c)]) ∧
      ∃ n, w' = ((w.alloc (.cells #[.int .i64 reg, .int .i64 ex, .int .u64 fr, .int .i64 bts] 25)).alloc (.cells #[.int .i64 reg, .int .i64 ex, .int .u64 fr, .int .i64 bts] 25)).drewN n := by
  have S' := Lib.hid S
  have O := Lib.hid (fun w hT => odd_any sg c (reg * 4 + ex - bts) hs1 hs0 hc hc1 (by omega) (by omega) w hT)
  have hTab := Lib.hid hT
  clear S hT hc
  go_enter Tryd.func26, Tryd.ntmps26
  go_wp2_with fail
  refine (S'.out _).mono ?_; rintro e w' ⟨rfl, rfl⟩
  go_wp2_with fail
  go_quiet ((go_at_call 29; exact Calls.quiet_of_same (O.out _ (((hTab.out.alloc _).alloc _).drewN _))))
  go_wp2_with fail
  go_ret2
  exact ⟨rfl, _, rfl⟩
end Go.Proofs.YtfmecakoccnblaaDoor

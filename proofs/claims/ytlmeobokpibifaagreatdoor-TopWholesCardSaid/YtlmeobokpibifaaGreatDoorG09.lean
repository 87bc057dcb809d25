/- package forms walked. Conditions: as each theorem names them. package mini walked; package math-bits' TrailingZeros64. Conditions: as each theorem names them. package value's of, parts, class. Conditions: as each theorem names them. package value's parts, class, fits, Most, the way of the kind Signed. Conditions: as each theorem names them. -/
import Derived.Test.YtlmeobokpibifaaGreatDoorG08
import Derived.Test.YtlmeobokpibifaaGreatDoorG04
import Derived.Lib.TrailingZeros
import Derived.Lib.LaidTab
import Derived.Deep.MidRow
section
set_option linter.unusedSimpArgs false
set_option linter.unusedVariables false
set_option linter.unusedVariables false
namespace Go.Proofs.YtlmeobokpibifaaGreatDoor
open Go.RowKit

/-- a forms.Form; where the table of forms lies, and what it has at a number -/
def fv (k wd mn bs : Int) (tp nf nn : Nat) : Value := .agg #[.int .i64 k, .int .i64 wd, .int .i64 mn, .int .i64 bs, .int .u64 tp, .int .u64 nf, .int .u64 nn]
structure FormAt (w : World) (n : Nat) (k wd mn bs : Int) (tp nf nn : Nat) : Prop where
  lt : 2 < w.heap.size
  c0 : w.cell? { block := 2, off := n * 7 } = some (.int .i64 k)
  c1 : w.cell? { block := 2, off := n * 7 + 1 } = some (.int .i64 wd)
  c2 : w.cell? { block := 2, off := n * 7 + 2 } = some (.int .i64 mn)
  c3 : w.cell? { block := 2, off := n * 7 + 3 } = some (.int .i64 bs)
  c4 : w.cell? { block := 2, off := n * 7 + 4 } = some (.int .u64 tp)
  c5 : w.cell? { block := 2, off := n * 7 + 5 } = some (.int .u64 nf)
  c6 : w.cell? { block := 2, off := n * 7 + 6 } = some (.int .u64 nn)
theorem FormAt.below {w w' : World} {n : Nat} {k wd mn bs : Int} {tp nf nn : Nat} (h : FormAt w n k wd mn bs tp nf nn) (hb : Below w.heap.size w w') : FormAt w' n k wd mn bs tp nf nn := by
  have hl := h.lt
  exact ⟨Nat.lt_of_lt_of_le hl hb.size, (hb.cell hl).trans h.c0, (hb.cell hl).trans h.c1, (hb.cell hl).trans h.c2, (hb.cell hl).trans h.c3, (hb.cell hl).trans h.c4, (hb.cell hl).trans h.c5, (hb.cell hl).trans h.c6⟩

theorem form_of (n : Nat) (k wd mn bs : Int) (tp nf nn : Nat) (w : World) (hn : 1 ≤ n) (hn2 : n < 15) (h : FormAt w n k wd mn bs tp nf nn) :
    Calls Tryz.prog 17 #[.int .i64 n] w fun e w' => e = .returned (.tuple #[fv k wd mn bs tp nf nn, .int .i64 0]) ∧ Below w.heap.size w w' := by
  obtain ⟨hl, c0, c1, c2, c3, c4, c5, c6⟩ := h
  have t1 : decide ((n : Int) < 1) = false := decide_eq_false (by omega)
  have t2 : decide ((15 : Int) ≤ (n : Int)) = false := decide_eq_false (by omega)
  have t3 : decide (n < 1) = false := decide_eq_false (by omega)
  have t4 : decide (15 ≤ n) = false := decide_eq_false (by omega)
  have hi : (n : Int) < 15 := by omega
  have ne : (2 : Nat) ≠ w.heap.size := by omega
  unfold fv
  go_enter Tryz.func17, Tryz.ntmps17
  go_wp2_with fail
  refine bodyPost_ret (v := .tuple #[.agg #[.int .i64 k, .int .i64 wd, .int .i64 mn, .int .i64 bs, .int .u64 tp, .int .u64 nf, .int .u64 nn], .int .i64 0]) (by simp [results, Tryz.results17, go_sem]) rfl ⟨rfl, ?_⟩
  repeat (first | refine Below.setCell ?_ (by simp) _ | refine Below.alloc ?_ (by simp; try omega) _ | refine bdrewN ?_ _)
  exact Below.refl _ _

theorem mask_num {wd : Nat} (hw : wd ≤ 64) : IntKind.u64.wrap (IntKind.u64.wrap ((2 : Int) ^ wd) - 1) = ((2 ^ wd - 1 : Nat) : Int) := by
  rcases Nat.eq_or_lt_of_le hw with rfl | h
  · decide
  · exact wrap_pow_sub h
theorem mask_any (k : Int) (wd : Nat) (mn bs : Int) (tp nf nn ms : Nat) (w : World) (hw : wd ≤ 64) (hm : 2 ^ wd - 1 = ms) :
    Calls Tryz.prog 46 #[fv k wd mn bs tp nf nn] w fun e w' => e = .returned (.int .u64 ms) ∧ Below w.heap.size w w' := by
  have h0 : (0 : Int) ≤ (wd : Int) := Int.natCast_nonneg _
  have hn := mask_num hw
  rw [hm] at hn
  have HA := Lib.hid (bgrow (Below.refl w.heap.size w) (.cells #[.int .i64 k, .int .i64 wd, .int .i64 mn, .int .i64 bs, .int .u64 tp, .int .u64 nf, .int .u64 nn] 56))
  clear hm
  unfold fv
  go_enter Tryz.func46, Tryz.ntmps46
  go_wp2_with fail
  go_ret
  exact ⟨rfl, HA.out⟩
/-- a form's cells -/
abbrev fcells (w : World) (g : Nat) (k wd mn bs : Int) (tp nf nn : Nat) : Prop := w.cell? { block := g, off := 0 } = some (.int .i64 k) ∧ w.cell? { block := g, off := 1 } = some (.int .i64 wd) ∧ w.cell? { block := g, off := 2 } = some (.int .i64 mn) ∧ w.cell? { block := g, off := 3 } = some (.int .i64 bs) ∧ w.cell? { block := g, off := 4 } = some (.int .u64 tp) ∧ w.cell? { block := g, off := 5 } = some (.int .u64 nf) ∧ w.cell? { block := g, off := 6 } = some (.int .u64 nn)
theorem sign_any (k : Int) (wd : Nat) (mn bs : Int) (tp nf nn ms hs sn : Nat) (w : World) (hw : wd ≤ 64) (hm : 2 ^ wd - 1 = ms) (hk : (k == 4) = false) (hh : ms / 2 = hs) (hsn : bits .andNot .u64 (ms : Int) (hs : Int) = (sn : Int)) :
    Calls Tryz.prog 42 #[fv k wd mn bs tp nf nn] w fun e w' => e = .returned (.int .u64 sn) ∧ Below w.heap.size w w' := by
  have M := Lib.hid (fun w' => mask_any k wd mn bs tp nf nn ms w' hw hm)
  have hhi : (ms : Int) / 2 = (hs : Int) := by omega
  have HA := Lib.hid (bgrow (Below.refl w.heap.size w) (.cells #[.int .i64 k, .int .i64 wd, .int .i64 mn, .int .i64 bs, .int .u64 tp, .int .u64 nf, .int .u64 nn] 56))
  have BX : Hid (fcells (w.alloc (.cells #[.int .i64 k, .int .i64 wd, .int .i64 mn, .int .i64 bs, .int .u64 tp, .int .u64 nf, .int .u64 nn] 56)) w.heap.size k wd mn bs tp nf nn) := Lib.hid (by refine ⟨?_, ?_, ?_, ?_, ?_, ?_, ?_⟩ <;> simp [go_sem])
  clear hm hh hw
  unfold fv at *
  go_enter Tryz.func42, Tryz.ntmps42
  go_wp2_with fail
  have HG : Hid (w.heap.size < (w.alloc (.cells #[.int .i64 k, .int .i64 wd, .int .i64 mn, .int .i64 bs, .int .u64 tp, .int .u64 nf, .int .u64 nn] 56)).heap.size) := Lib.hid (by simp)
  generalize (w.alloc (.cells #[.int .i64 k, .int .i64 wd, .int .i64 mn, .int .i64 bs, .int .u64 tp, .int .u64 nf, .int .u64 nn] 56)) = WB at HA BX HG ⊢
  have K1 : Hid (∀ w', Hid (Below WB.heap.size WB w') → Hid (Below WB.heap.size WB w') ∧ fcells w' w.heap.size k wd mn bs tp nf nn) := Lib.hid (fun w' h => by
    obtain ⟨a, b, c, d, e, f, g⟩ := BX.out
    have hg := HG.out
    exact ⟨h, (h.out.cell hg).trans a, (h.out.cell hg).trans b, (h.out.cell hg).trans c, (h.out.cell hg).trans d, (h.out.cell hg).trans e, (h.out.cell hg).trans f, (h.out.cell hg).trans g⟩)
  have KS := Lib.hid (fun w1 w2 (h : Hid (Below WB.heap.size WB w1)) (b : Below w1.heap.size w1 w2) => K1.out w2 (hbthen h b))
  have K0 := Lib.hid (K1.out _ (Lib.hid (bdrewN (Below.refl WB.heap.size WB) 1)))
  unfold fcells at K1 KS K0
  go_region_held3 (fun w' => Hid (Below WB.heap.size WB w') ∧ (w'.cell? { block := w.heap.size, off := 0 } = some (.int .i64 k) ∧ w'.cell? { block := w.heap.size, off := 1 } = some (.int .i64 wd) ∧ w'.cell? { block := w.heap.size, off := 2 } = some (.int .i64 mn) ∧ w'.cell? { block := w.heap.size, off := 3 } = some (.int .i64 bs) ∧ w'.cell? { block := w.heap.size, off := 4 } = some (.int .u64 tp) ∧ w'.cell? { block := w.heap.size, off := 5 } = some (.int .u64 nf) ∧ w'.cell? { block := w.heap.size, off := 6 } = some (.int .u64 nn)))
    (first | assumption | exact K0.out | exact KS.out _ _ (And.left (by assumption)) (by assumption))
    (first | ((go_at_call 46); (with_reducible (refine (M.out _).mono ?_)); (rintro e w7 ⟨rfl, b7⟩)))
  all_goals
    rename_i hS
    have HS := Lib.hid hS.1.out
    clear hS
    go_wp2_with fail
    go_ret
    exact ⟨rfl, bthen HA.out HS.out⟩

theorem fits_yes (n : Nat) (k : Int) (wd : Nat) (mn bs : Int) (tp nf nn ms p : Nat) (w : World) (hn : 1 ≤ n) (hn2 : n < 15) (h : FormAt w n k wd mn bs tp nf nn) (hw : wd ≤ 64) (hm : 2 ^ wd - 1 = ms) (hp : bits .andNot .u64 (p : Int) (ms : Int) = 0) :
    Calls Tryz.prog 22 #[.int .i64 n, .int .u64 p] w fun e w' => e = .returned (.int .i64 0) ∧ Below w.heap.size w w' := by
  have M := Lib.hid (fun w' => mask_any k wd mn bs tp nf nn ms w' hw hm)
  have O := Lib.hid (form_of n k wd mn bs tp nf nn w hn hn2 h)
  clear hm hw h hn hn2
  unfold fv at *
  go_enter Tryz.func22, Tryz.ntmps22
  go_wp2_with fail
  with_reducible (refine O.out.mono ?_)
  rintro e w1 ⟨rfl, b1⟩
  have HB1 := Lib.hid b1
  clear b1
  go_wp2_with fail
  have HB2 := Lib.hid (bgrow HB1.out (.cells #[.int .i64 k, .int .i64 wd, .int .i64 mn, .int .i64 bs, .int .u64 tp, .int .u64 nf, .int .u64 nn] 56))
  with_reducible (refine (M.out _).mono ?_)
  rintro e w2 ⟨rfl, b2⟩
  have HB3 := Lib.hid (bthen HB2.out b2)
  clear b2
  go_wp2_with fail
  go_ret
  exact ⟨rfl, HB3.out⟩
end Go.Proofs.YtlmeobokpibifaaGreatDoor
end

section
set_option linter.unusedSimpArgs false
set_option linter.unusedVariables false
set_option linter.unusedVariables false
namespace Go.Proofs.YtlmeobokpibifaaGreatDoor
open Go.RowKit

theorem mfits_yes (man bias : Int) (w : World) (h1 : 0 ≤ man) (h2 : man ≤ 60) (h3 : -2000 ≤ bias) (h4 : bias ≤ 2000) :
    Calls Tryz.prog 187 #[.int .i64 man, .int .i64 bias] w fun e w' => e = .returned (.bool true) ∧ w = w' := by
  go_enter Tryz.func187, Tryz.ntmps187
  go_wp2
  go_ret
  exact ⟨rfl, rfl⟩

theorem ret3 {k1 k2 k3 : IntKind} {a b c a' b' c' : Int} (h1 : a = a') (h2 : b = b') (h3 : c = c') :
    Ending.returned (.tuple #[.int k1 a, .int k2 b, .int k3 c]) = .returned (.tuple #[.int k1 a', .int k2 b', .int k3 c']) := by
  rw [h1, h2, h3]
theorem ret2 {k1 k2 : IntKind} {a b a' b' : Int} (h1 : a = a') (h2 : b = b') :
    Ending.returned (.tuple #[.int k1 a, .int k2 b]) = .returned (.tuple #[.int k1 a', .int k2 b']) := by
  rw [h1, h2]
theorem ret1 {k1 : IntKind} {a a' : Int} (h1 : a = a') :
    Ending.returned (.int k1 a) = .returned (.int k1 a') := by
  rw [h1]

set_option maxHeartbeats 400000 in
theorem split_yes (man key : Nat) (w : World) (h1 : man ≤ 60) (hk : key < 18446744073709551616) (h2 : key / 2 ^ man ≤ 4095) :
    Calls Tryz.prog 186 #[.int .i64 man, .int .u64 key] w fun e w' => e = .returned (.tuple #[.int .u64 ((key / 2 ^ man : Nat) : Int), .int .u64 ((key % 2 ^ man : Nat) : Int), .int .i64 0]) ∧ ∃ n, w' = w.drewN n := by
  have h3 : (key : Int) / 2 ^ man ≤ 4095 := by rw [cast_shr]; omega
  go_enter Tryz.func186, Tryz.ntmps186
  go_wp2_with (go_at_call 187; refine (mfits_yes _ _ _ (by omega) (by omega) (by omega) (by omega)).mono ?_; rintro e w' ⟨rfl, rfl⟩)
  go_quiet (fail)
  go_wp2
  go_ret3
  exact ⟨ret3 (cast_shr _ _) (u64_mask _ _ hk (by omega)) rfl, _, rfl⟩

/-- the table that TrailingZeros64 reads -/
def Tab (w : World) : Prop := ∀ j, j < Lib.deBruijn64tab.length → w.cell? ⟨12, j, none⟩ = some (.int .u8 (Lib.deBruijn64tab.getD j 0))
theorem Tab.drewN {w : World} (h : Tab w) (n : Nat) : Tab (w.drewN n) := h
theorem tz_key (x a : Nat) (hx : x < 18446744073709551616) (hx0 : x ≠ 0) (hlow : x &&& (18446744073709551616 - x) = a) :
    IntKind.u64.wrap (bits BinOp.and IntKind.u64 (x : Int) (IntKind.u64.wrap (-(x : Int))) * 285870213051353865) / 288230376151711744 = ((a * 285870213051353865 % 18446744073709551616 / 288230376151711744 : Nat) : Int) := by
  have e1 : IntKind.u64.wrap (-(x : Int)) = ((18446744073709551616 - x : Nat) : Int) := by rw [IntKind.wrap_u64]; omega
  rw [e1, bits_and_u64_nat x _ hx (by omega), hlow, IntKind.wrap_u64]
  omega

set_option maxHeartbeats 1000000 in
theorem tz_core (x k idx : Nat) (w : World) (hx0 : ((x : Int) == 0) = false)
    (key : IntKind.u64.wrap (bits BinOp.and IntKind.u64 (x : Int) (IntKind.u64.wrap (-(x : Int))) * 285870213051353865) / 288230376151711744 = (idx : Int))
    (hi : idx < 64) (hk : k < 64) (hcell : w.cell? ⟨12, idx, none⟩ = some (.int .u8 k)) :
    Calls Tryz.prog 146 #[.int .u64 x] w fun e w' => e = .returned (.int .i64 k) ∧ w = w' := by
  go_enter Tryz.func146, Tryz.ntmps146
  go_wp2_with (simp only [key])
  go_ret
  exact ⟨rfl, rfl⟩

theorem tz_any (x : Nat) (hx : x < 18446744073709551616) (hx0 : x ≠ 0) (w : World) (hT : Tab w) :
    Calls Tryz.prog 146 #[.int .u64 x] w fun e w' => e = .returned (.int .i64 (Lib.ctz 64 x)) ∧ w = w' := by
  obtain ⟨hlow, hk⟩ := Lib.lowest_bit 64 x hx0 hx
  obtain ⟨hi, htab⟩ := Lib.deBruijn64_at _ hk
  have hcell := hT _ hi
  rw [htab] at hcell
  exact tz_core x _ _ w (by simp; omega) (tz_key x _ hx hx0 hlow) hi hk hcell

/-- the significand that a field and a mantissa make -/
def sig (man key : Nat) : Nat := if key / 2 ^ man = 0 then key % 2 ^ man else key % 2 ^ man + 2 ^ man

theorem value_zero (man : Nat) (bias : Int) (w : World) (h1 : man ≤ 60) (h3 : -2000 ≤ bias) (h4 : bias ≤ 2000) :
    Calls Tryz.prog 180 #[.int .i64 man, .int .i64 bias, .int .u64 0] w fun e w' => e = .returned (.tuple #[.int .u64 0, .int .i64 0, .int .i64 0]) ∧ ∃ n, w' = w.drewN n := by
  go_enter Tryz.func180, Tryz.ntmps180
  go_wp2_with (first
    | (go_at_call 186; refine (split_yes man 0 _ h1 (by omega) (by simp)).mono ?_; rintro e w' ⟨rfl, n, rfl⟩)
    | (go_at_call 187; refine (mfits_yes _ _ _ (by omega) (by omega) (by omega) (by omega)).mono ?_; rintro e w' ⟨rfl, rfl⟩))
  go_ret3
  exact ⟨rfl, _, rfl⟩

theorem sig_pos (man key : Nat) (h : key ≠ 0) : sig man key ≠ 0 := by
  unfold sig
  have h0 : 0 < 2 ^ man := Nat.two_pow_pos man
  split
  · rename_i h1
    have := Nat.div_add_mod key (2 ^ man)
    rw [h1] at this
    omega
  · omega
theorem sig_lt (man key : Nat) : sig man key < 2 ^ (man + 1) := by
  unfold sig
  have h0 : 0 < 2 ^ man := Nat.two_pow_pos man
  have := Nat.mod_lt key h0
  rw [Nat.pow_succ]
  split <;> omega

theorem value_low (man key : Nat) (bias : Int) (w : World) (hT : Tab w) (h1 : man ≤ 60) (hk : key < 18446744073709551616) (h0 : ((key : Int) == 0) = false) (h2 : key / 2 ^ man = 0) (h3 : -2000 ≤ bias) (h4 : bias ≤ 2000)
    (m c : Nat) (hm : key % 2 ^ man = m) (hc : Lib.ctz 64 m = c) (hm0 : m ≠ 0) (hm1 : m < 18446744073709551616) (hc1 : c < 64) :
    Calls Tryz.prog 180 #[.int .i64 man, .int .i64 bias, .int .u64 key] w fun e w' => e = .returned (.tuple #[.int .u64 ((m / 2 ^ c : Nat) : Int), .int .i64 (1 - bias - man + c), .int .i64 0]) ∧ ∃ n, w' = w.drewN n := by
  have S := fun w => split_yes man key w h1 hk (by omega)
  rw [hm, h2] at S
  have hS := Lib.hid S
  have T := fun w hT => tz_any m hm1 hm0 w hT
  rw [hc] at T
  have hT' := Lib.hid T
  have hTab := Lib.hid hT
  clear S T hm hc hT h2
  go_enter Tryz.func180, Tryz.ntmps180
  go_wp2_with (first
    | (go_at_call 186; refine (hS.out _).mono ?_; rintro e w' ⟨rfl, n, rfl⟩)
    | (go_at_call 187; refine (mfits_yes _ _ _ (by omega) (by omega) (by omega) (by omega)).mono ?_; rintro e w' ⟨rfl, rfl⟩)
    | (go_at_call 146; refine (hT'.out _ (hTab.out.drewN _)).mono ?_; rintro e w' ⟨rfl, rfl⟩))
  go_ret3
  exact ⟨ret3 (cast_shr _ _) (by omega) rfl, _, rfl⟩

theorem value_high (man key : Nat) (bias : Int) (w : World) (hT : Tab w) (h1 : man ≤ 60) (hk : key < 18446744073709551616) (h0 : ((key : Int) == 0) = false) (f : Nat) (hf : key / 2 ^ man = f) (hf1 : 1 ≤ f) (hf2 : f ≤ 4095) (h3 : -2000 ≤ bias) (h4 : bias ≤ 2000)
    (m c : Nat) (hm : key % 2 ^ man + 2 ^ man = m) (hc : Lib.ctz 64 m = c) (hm0 : m ≠ 0) (hm1 : m < 18446744073709551616) (hc1 : c < 64) :
    Calls Tryz.prog 180 #[.int .i64 man, .int .i64 bias, .int .u64 key] w fun e w' => e = .returned (.tuple #[.int .u64 ((m / 2 ^ c : Nat) : Int), .int .i64 (f - bias - man + c), .int .i64 0]) ∧ ∃ n, w' = w.drewN n := by
  have S := fun w => split_yes man key w h1 hk (by omega)
  have hor := u64_or_pow (key % 2 ^ man) man (Nat.mod_lt _ (Nat.two_pow_pos man)) (by omega)
  rw [hm] at hor
  rw [hf] at S
  generalize key % 2 ^ man = a at *
  have hS := Lib.hid S
  have T := fun w hT => tz_any m hm1 hm0 w hT
  rw [hc] at T
  have hT' := Lib.hid T
  have hTab := Lib.hid hT
  clear S T hm hc hT hf
  go_enter Tryz.func180, Tryz.ntmps180
  go_wp2_with (first
    | (go_at_call 186; refine (hS.out _).mono ?_; rintro e w' ⟨rfl, n, rfl⟩)
    | (go_at_call 187; refine (mfits_yes _ _ _ (by omega) (by omega) (by omega) (by omega)).mono ?_; rintro e w' ⟨rfl, rfl⟩)
    | (go_at_call 146; refine (hT'.out _ (hTab.out.drewN _)).mono ?_; rintro e w' ⟨rfl, rfl⟩))
  go_ret3
  exact ⟨ret3 (cast_shr _ _) (by omega) rfl, _, rfl⟩

/-- Value, of what fits -/
theorem value_yes (man key : Nat) (bias : Int) (w : World) (hT : Tab w) (h1 : man ≤ 60) (hk : key < 18446744073709551616) (h0 : key ≠ 0) (h2 : key / 2 ^ man ≤ 4095) (h3 : -2000 ≤ bias) (h4 : bias ≤ 2000)
    (c : Nat) (hc : Lib.ctz 64 (sig man key) = c) :
    Calls Tryz.prog 180 #[.int .i64 man, .int .i64 bias, .int .u64 key] w fun e w' => e = .returned (.tuple #[.int .u64 ((sig man key / 2 ^ c : Nat) : Int), .int .i64 (((max (key / 2 ^ man) 1 : Nat) : Int) - bias - man + c), .int .i64 0]) ∧ ∃ n, w' = w.drewN n := by
  have hp := sig_pos man key h0
  have hl := sig_lt man key
  have h64 : 2 ^ (man + 1) ≤ 2 ^ 64 := Nat.pow_le_pow_right (by decide) (by omega)
  have hc1 : c < 64 := by obtain ⟨k, m, _, hk, h, _⟩ := odd_parts _ hp (by omega); omega
  by_cases hf : key / 2 ^ man = 0
  · have e : sig man key = key % 2 ^ man := by simp [sig, hf]
    rw [e] at hc hp hl ⊢
    rw [hf]
    exact value_low man key bias w hT h1 hk (by simpa using h0) hf h3 h4 _ c rfl hc hp (by omega) hc1
  · have e : sig man key = key % 2 ^ man + 2 ^ man := by simp [sig, hf]
    rw [e] at hc hp hl ⊢
    rw [show max (key / 2 ^ man) 1 = key / 2 ^ man from Nat.max_eq_left (Nat.one_le_iff_ne_zero.2 hf)]
    exact value_high man key bias w hT h1 hk (by simpa using h0) _ rfl (Nat.one_le_iff_ne_zero.2 hf) h2 h3 h4 _ c rfl hc hp (by omega) hc1

theorem Tab.below {w w' : World} (h : Tab w) (hl : 12 < w.heap.size) (hb : Below w.heap.size w w') : Tab w' := fun j hj => (hb.cell (p := ⟨12, j, none⟩) hl).trans (h j hj)
theorem sig_sg (man key : Nat) : sig man key = sg man key := by
  unfold sig sg
  by_cases h : key / 2 ^ man = 0
  · rw [if_pos h, if_pos h]
    have := Nat.div_add_mod key (2 ^ man)
    rw [h, Nat.mul_zero, Nat.zero_add] at this
    exact this
  · rw [if_neg h, if_neg h, Nat.add_comm]
/-- the boundary behind a magnitude: a bit more, that is 1 -/
theorem half_sig (man key : Nat) : sig (man + 1) (2 * key + 1) = 2 * sg man key + 1 ∧ (2 * key + 1) / 2 ^ (man + 1) = key / 2 ^ man := by
  have e1 : (2 * key + 1) / 2 ^ (man + 1) = key / 2 ^ man := by
    rw [Nat.pow_succ', ← Nat.div_div_eq_div_mul]; congr 1; omega
  have e2 : (2 * key + 1) % 2 ^ (man + 1) = 2 * (key % 2 ^ man) + 1 := by
    have a := Nat.div_add_mod (2 * key + 1) (2 ^ (man + 1))
    have b := Nat.div_add_mod key (2 ^ man)
    rw [e1] at a
    rw [Nat.pow_succ'] at a ⊢
    rw [Nat.mul_assoc] at a
    omega
  refine ⟨?_, e1⟩
  unfold sig sg
  rw [e1, e2]
  by_cases h : key / 2 ^ man = 0
  · rw [if_pos h, if_pos h]
    have := Nat.div_add_mod key (2 ^ man)
    rw [h, Nat.mul_zero, Nat.zero_add] at this
    rw [this]
  · rw [if_neg h, if_neg h, Nat.pow_succ']; omega
theorem value_half (man key : Nat) (bias : Int) (w : World) (hT : Tab w) (h1 : man ≤ 59) (hk : 2 * key + 1 < 18446744073709551616) (h2 : key / 2 ^ man ≤ 4095) (h3 : -2000 ≤ bias) (h4 : bias ≤ 2000) :
    Calls Tryz.prog 180 #[.int .i64 ((man + 1 : Nat) : Int), .int .i64 bias, .int .u64 ((2 * key + 1 : Nat) : Int)] w fun e w' => e = .returned (.tuple #[.int .u64 ((2 * sg man key + 1 : Nat) : Int), .int .i64 ((ex1 man key : Int) - bias - man), .int .i64 0]) ∧ Below w.heap.size w w' := by
  obtain ⟨e1, e2⟩ := half_sig man key
  have hl := sig_lt (man + 1) (2 * key + 1)
  have h64 : 2 ^ (man + 1 + 1) ≤ 2 ^ 61 := Nat.pow_le_pow_right (by decide) (by omega)
  have hc : Lib.ctz 64 (sig (man + 1) (2 * key + 1)) = 0 := by
    apply ctz_odd
    · rw [e1]; omega
    · omega
  refine (value_yes (man + 1) (2 * key + 1) bias w hT (by omega) hk (by omega) (by rw [e2]; exact h2) h3 h4 0 hc).mono ?_
  rintro e w' ⟨rfl, n, rfl⟩
  refine ⟨?_, bdrewN (Below.refl _ _) n⟩
  rw [e1, e2, Nat.pow_zero, Nat.div_one]
  refine ret3 rfl ?_ rfl
  unfold ex1
  have : 1 ≤ max (key / 2 ^ man) 1 := Nat.le_max_right _ _
  omega
end Go.Proofs.YtlmeobokpibifaaGreatDoor
end

section
set_option linter.unusedSimpArgs false
set_option linter.unusedVariables false
set_option linter.unusedVariables false
namespace Go.Proofs.YtlmeobokpibifaaGreatDoor
open Go.RowKit

/-- where the table of the ways of all kinds lies, and what it has at a kind -/
def NumAt (w : World) (m : Nat) (k : Int) (f : Nat) : Prop := 3 < w.heap.size ∧ m < w.heap.size ∧ w.cell? { block := 3, off := 0 } = some (.map (some m)) ∧ ∀ w', w'.heap[m]? = w.heap[m]? → (Instr.lookup 110 (.map (some m)) (.int .i64 k) false).run Tryz.prog w' = .ok (.func (.func f) #[] #[]) w'
theorem NumAt.below {w w' : World} {m f : Nat} {k : Int} (h : NumAt w m k f) (hb : Below w.heap.size w w') : NumAt w' m k f := by
  obtain ⟨a, b, c, d⟩ := h
  exact ⟨Nat.lt_of_lt_of_le a hb.size, Nat.lt_of_lt_of_le b hb.size, (hb.cell a).trans c, fun w2 e => d w2 (e.trans (hb.block m b))⟩
/-- a value.shape -/
def shv (k wd mn bs : Int) (tp nf nn f : Nat) : Value := .agg #[.int .i64 k, .int .i64 wd, .int .i64 mn, .int .i64 bs, .int .u64 tp, .int .u64 nf, .int .u64 nn, .func (.func f) #[] #[]]

theorem blk_lt {w : World} {g : Nat} {o : Obj} (h : w.heap[g]? = some o) : g < w.heap.size := by
  rcases Nat.lt_or_ge g w.heap.size with h1 | h1
  · exact h1
  · rw [Array.getElem?_eq_none h1] at h; cases h
theorem eight_cells {w : World} {g : Nat} {a b c d e f h i : Value} {t : TypeId} (hb : w.heap[g]? = some (.cells #[a, b, c, d, e, f, h, i] t (0, 0))) :
    w.cell? { block := g, off := 0 } = some a ∧ w.cell? { block := g, off := 1 } = some b ∧ w.cell? { block := g, off := 2 } = some c ∧ w.cell? { block := g, off := 3 } = some d ∧ w.cell? { block := g, off := 4 } = some e ∧ w.cell? { block := g, off := 5 } = some f ∧ w.cell? { block := g, off := 6 } = some h ∧ w.cell? { block := g, off := 7 } = some i := by
  refine ⟨?_, ?_, ?_, ?_, ?_, ?_, ?_, ?_⟩ <;> simp [World.cell?, hb]
theorem eight_free {w : World} {g : Nat} {a b c d e f h i : Value} {t : TypeId} (hb : w.heap[g]? = some (.cells #[a, b, c, d, e, f, h, i] t (0, 0))) :
    w.frozen? { block := g, off := 0 } = false ∧ w.frozen? { block := g, off := 1 } = false ∧ w.frozen? { block := g, off := 2 } = false ∧ w.frozen? { block := g, off := 3 } = false ∧ w.frozen? { block := g, off := 4 } = false ∧ w.frozen? { block := g, off := 5 } = false ∧ w.frozen? { block := g, off := 6 } = false ∧ w.frozen? { block := g, off := 7 } = false := by
  refine ⟨?_, ?_, ?_, ?_, ?_, ?_, ?_, ?_⟩ <;> simp [World.frozen?, hb]
theorem there_of {w : World} {g : Nat} {cs : Array Value} {t : TypeId} (h : w.heap[g]? = some (.cells cs t (0, 0))) : w.there g 0 cs.size := fun j hj => by
  constructor
  · simp [World.cell?, h, hj]
  · simp [World.frozen?, h]
theorem put8 {w : World} {g : Nat} {a b c d e f h i a' b' c' d' e' f' h' i' : Value} {t : TypeId} (hb : w.heap[g]? = some (.cells #[a, b, c, d, e, f, h, i] t (0, 0))) :
    (w.setCells g 0 [a', b', c', d', e', f', h', i']).heap[g]? = some (.cells #[a', b', c', d', e', f', h', i'] t (0, 0)) := by
  simp [World.setCells, World.setCell, Array.getElem?_modify, hb]
theorem below_setCells {B : Nat} {a : World} {g : Nat} (hg : B ≤ g) : ∀ (vs : List Value) (o : Nat) (w : World), Below B a w → Below B a (w.setCells g o vs)
  | [], _, _, h => h
  | v :: r, o, w, h => below_setCells hg r (o + 1) _ (h.setCell (p := { block := g, off := o }) hg v)
theorem info_shape : (Tryz.prog.info? 70).map (·.size) = some 8 := by kernel_rfl
theorem store8 {ops : Array Oper} {rest : List Oper} {op : Oper} {a : Act} {w : World} {Q : Exit → Act → World → Prop} (g : Nat) (x y : Operand) (k wd mn bs : Int) (tp nf nn f : Nat) (hgd : op.guard = none) (ho : op.op = .store 70 x y) (hx : a.eval x = .pointer (some ⟨g, 0, none⟩)) (hy : a.eval y = .agg #[.int .i64 k, .int .i64 wd, .int .i64 mn, .int .i64 bs, .int .u64 tp, .int .u64 nf, .int .u64 nn, .func (.func f) #[] #[]])
    (ht : w.there g 0 8) (h : wpList Tryz.prog ops Q rest (a.put op.dst undef) (w.setCells g 0 [.int .i64 k, .int .i64 wd, .int .i64 mn, .int .i64 bs, .int .u64 tp, .int .u64 nf, .int .u64 nn, .func (.func f) #[] #[]])) : wpList Tryz.prog ops Q (op :: rest) a w :=
  wpList_store_mid hgd 70 x y ho g 0 #[.int .i64 k, .int .i64 wd, .int .i64 mn, .int .i64 bs, .int .u64 tp, .int .u64 nf, .int .u64 nn, .func (.func f) #[] #[]] hx hy ht info_shape (by simp [Value.oneCell']) h
set_option maxHeartbeats 400000 in
theorem shape_of (n : Nat) (k wd mn bs : Int) (tp nf nn m f : Nat) (w : World) (hn : 1 ≤ n) (hn2 : n < 15) (h : FormAt w n k wd mn bs tp nf nn) (hm : NumAt w m k f) :
    Calls Tryz.prog 23 #[.int .i64 n] w fun e w' => e = .returned (.tuple #[shv k wd mn bs tp nf nn f, .int .i64 0]) ∧ Below w.heap.size w w' := by
  have HA := Lib.hid (bgrow (Below.refl w.heap.size w) (.cells #[.int .i64 0, .int .i64 0, .int .i64 0, .int .i64 0, .int .u64 0, .int .u64 0, .int .u64 0, .nilFunc] 70))
  have O := Lib.hid (fun w' h => form_of n k wd mn bs tp nf nn w' hn hn2 h)
  have HF := Lib.hid h
  have HM := Lib.hid hm
  clear h hm hn hn2
  unfold fv shv at *
  go_enter Tryz.func23, Tryz.ntmps23
  go_wp2_with fail
  have BX : Hid ((w.alloc (.cells #[.int .i64 0, .int .i64 0, .int .i64 0, .int .i64 0, .int .u64 0, .int .u64 0, .int .u64 0, .nilFunc] 70)).heap[w.heap.size]? = some (.cells #[.int .i64 0, .int .i64 0, .int .i64 0, .int .i64 0, .int .u64 0, .int .u64 0, .int .u64 0, .nilFunc] 70 (0, 0))) := Lib.hid (Deep.blk_alloc_new _ _)
  generalize (w.alloc (.cells #[.int .i64 0, .int .i64 0, .int .i64 0, .int .i64 0, .int .u64 0, .int .u64 0, .int .u64 0, .nilFunc] 70)) = WB at HA BX ⊢
  with_reducible (refine (O.out _ (HF.out.below HA.out)).mono ?_)
  rintro e w1 ⟨rfl, b1⟩
  have HB1 := Lib.hid (bthen HA.out b1)
  have BX1 := Lib.hid ((b1.block _ (blk_lt BX.out)).trans BX.out)
  clear BX
  have hM1 := HM.out.below (bgrow HB1.out (.cells #[.int .i64 k, .int .i64 wd, .int .i64 mn, .int .i64 bs, .int .u64 tp, .int .u64 nf, .int .u64 nn] 56))
  obtain ⟨l3, lm, c3, lk⟩ := hM1
  have LK := lk _ rfl
  have hlt := blk_lt BX1.out
  have hne : w.heap.size ≠ w1.heap.size := Nat.ne_of_lt hlt
  have hsz := HB1.out.size
  have BX2 := (Deep.blk_alloc_lt w1 (.cells #[.int .i64 k, .int .i64 wd, .int .i64 mn, .int .i64 bs, .int .u64 tp, .int .u64 nf, .int .u64 nn] 56) _ hlt).trans BX1.out
  have HT : Hid ((w1.alloc (.cells #[.int .i64 k, .int .i64 wd, .int .i64 mn, .int .i64 bs, .int .u64 tp, .int .u64 nf, .int .u64 nn] 56)).there w.heap.size 0 8) := Lib.hid (there_of BX2)
  have HP := Lib.hid (put8 (a' := .int .i64 k) (b' := .int .i64 wd) (c' := .int .i64 mn) (d' := .int .i64 bs) (e' := .int .u64 tp) (f' := .int .u64 nf) (h' := .int .u64 nn) (i' := .func (.func f) #[] #[]) BX2)
  have HB2 := Lib.hid (below_setCells (g := w.heap.size) (Nat.le_refl _) [.int .i64 k, .int .i64 wd, .int .i64 mn, .int .i64 bs, .int .u64 tp, .int .u64 nf, .int .u64 nn, .func (.func f) #[] #[]] 0 _ (bgrow HB1.out (.cells #[.int .i64 k, .int .i64 wd, .int .i64 mn, .int .i64 bs, .int .u64 tp, .int .u64 nf, .int .u64 nn] 56)))
  clear lk l3 lm b1 BX2 hlt hne hsz
  go_wp2_with (with_reducible show wpList _ _ _ ({ dst := none, op := Op.store 70 (Operand.tmp 2) (Operand.tmp 16), type := _, pos := _, after := _, guard := none } :: _) _ _; refine store8 w.heap.size (.tmp 2) (.tmp 16) k wd mn bs tp nf nn f rfl rfl (by simp [Act.eval]) (by simp [Act.eval]) HT.out ?_; generalize ((w1.alloc (.cells #[.int .i64 k, .int .i64 wd, .int .i64 mn, .int .i64 bs, .int .u64 tp, .int .u64 nf, .int .u64 nn] 56)).setCells w.heap.size 0 [.int .i64 k, .int .i64 wd, .int .i64 mn, .int .i64 bs, .int .u64 tp, .int .u64 nf, .int .u64 nn, .func (.func f) #[] #[]]) = W2 at HP HB2 ⊢; obtain ⟨d0, d1, d2, d3, d4, d5, d6, d7⟩ := eight_cells HP.out)
  refine bodyPost_ret (v := .tuple #[.agg #[.int .i64 k, .int .i64 wd, .int .i64 mn, .int .i64 bs, .int .u64 tp, .int .u64 nf, .int .u64 nn, .func (.func f) #[] #[]], .int .i64 0]) (by simp [results, Tryz.results23, go_sem, d0, d1, d2, d3, d4, d5, d6, d7]) rfl ⟨rfl, HB2.out⟩
end Go.Proofs.YtlmeobokpibifaaGreatDoor
end

section
set_option linter.unusedSimpArgs false
set_option linter.unusedVariables false
set_option linter.unusedVariables false
namespace Go.Proofs.YtlmeobokpibifaaGreatDoor
open Go.RowKit

abbrev shbox (k wd mn bs : Int) (tp nf nn f : Nat) : Obj := .cells #[.int .i64 k, .int .i64 wd, .int .i64 mn, .int .i64 bs, .int .u64 tp, .int .u64 nf, .int .u64 nn, .func (.func f) #[] #[]] 70

/-- the sign and the magnitude of a pattern whose sign bit is 0 -/
theorem parts_pos (k : Int) (wd : Nat) (mn bs : Int) (tp nf nn f ms hs sn p : Nat) (w : World) (hw : wd ≤ 64) (hm : 2 ^ wd - 1 = ms) (hk : (k == 4) = false) (hh : ms / 2 = hs) (hsn : bits .andNot .u64 (ms : Int) (hs : Int) = (sn : Int)) (hp : bits .and .u64 (p : Int) (sn : Int) = 0) :
    Calls Tryz.prog 24 #[shv k wd mn bs tp nf nn f, .int .u64 p] w fun e w' => e = .returned (.tuple #[.bool false, .int .u64 p]) ∧ Below w.heap.size w w' := by
  have SG := Lib.hid (fun w' => sign_any k wd mn bs tp nf nn ms hs sn w' hw hm hk hh hsn)
  have HA := Lib.hid (bgrow (Below.refl w.heap.size w) (shbox k wd mn bs tp nf nn f))
  clear hw hm hk hh hsn
  unfold shv shbox fv at *
  go_enter Tryz.func24, Tryz.ntmps24
  go_wp2_with fail
  with_reducible (refine (SG.out _).mono ?_)
  rintro e w1 ⟨rfl, b1⟩
  have HB := Lib.hid (bthen HA.out b1)
  clear b1
  go_wp2_with fail
  go_ret2
  exact ⟨rfl, HB.out⟩
/-- .. of a form of the kind Signed, whose sign bit is 1 -/
theorem parts_neg (wd : Nat) (mn bs : Int) (tp nf nn f ms hs sn p x q : Nat) (w : World) (hw : wd ≤ 64) (hm : 2 ^ wd - 1 = ms) (hh : ms / 2 = hs) (hsn : bits .andNot .u64 (ms : Int) (hs : Int) = (sn : Int)) (hp : bits .and .u64 (p : Int) (sn : Int) = (x : Int)) (hx : x ≠ 0) (hq : bits .andNot .u64 (p : Int) (sn : Int) = (q : Int)) :
    Calls Tryz.prog 24 #[shv 2 wd mn bs tp nf nn f, .int .u64 p] w fun e w' => e = .returned (.tuple #[.bool true, .int .u64 q]) ∧ Below w.heap.size w w' := by
  have SG := Lib.hid (fun w' => sign_any 2 wd mn bs tp nf nn ms hs sn w' hw hm rfl hh hsn)
  have HA := Lib.hid (bgrow (Below.refl w.heap.size w) (shbox 2 wd mn bs tp nf nn f))
  have BX : Hid ((w.alloc (shbox 2 wd mn bs tp nf nn f)).heap[w.heap.size]? = some (.cells #[.int .i64 2, .int .i64 wd, .int .i64 mn, .int .i64 bs, .int .u64 tp, .int .u64 nf, .int .u64 nn, .func (.func f) #[] #[]] 70 (0, 0))) := Lib.hid (Deep.blk_alloc_new _ _)
  have hx2 : ((x : Int) == 0) = false := by simp; omega
  clear hw hm hh hsn hx
  unfold shv shbox fv at *
  go_enter Tryz.func24, Tryz.ntmps24
  go_wp2_with fail
  generalize (w.alloc (.cells #[.int .i64 2, .int .i64 wd, .int .i64 mn, .int .i64 bs, .int .u64 tp, .int .u64 nf, .int .u64 nn, .func (.func f) #[] #[]] 70)) = WB at HA BX ⊢
  with_reducible (refine (SG.out _).mono ?_)
  rintro e w1 ⟨rfl, b1⟩
  have HB := Lib.hid (bthen HA.out b1)
  have BX1 := Lib.hid ((b1.block _ (blk_lt BX.out)).trans BX.out)
  obtain ⟨d0, d1, d2, d3, d4, d5, d6, d7⟩ := eight_cells BX1.out
  clear b1 BX HA
  go_wp2_with fail
  with_reducible (refine (SG.out _).mono ?_)
  rintro e w2 ⟨rfl, b2⟩
  have HB2 := Lib.hid (bthen HB.out b2)
  clear b2
  go_wp2_with fail
  go_ret2
  exact ⟨rfl, HB2.out⟩
/-- what a pattern of the kind Signed is, that is a number -/
theorem class_num (wd mn bs : Int) (tp nf nn f p key : Nat) (c : Int) (w : World) (h1 : nf ≠ 0 → key ≠ nf) (h2 : key ≤ tp) (hc : c = if key = 0 then 1 else 2) :
    Calls Tryz.prog 25 #[shv 2 wd mn bs tp nf nn f, .int .u64 p, .int .u64 key] w fun e w' => e = .returned (.int .i64 c) ∧ Below w.heap.size w w' := by
  have HA := Lib.hid (bgrow (Below.refl w.heap.size w) (shbox 2 wd mn bs tp nf nn f))
  have u2 : decide (tp < key) = false := decide_eq_false (by omega)
  unfold shv shbox at *
  by_cases hk : key = 0
  · subst hk
    rw [if_pos rfl] at hc
    subst hc
    by_cases hn : nf = 0
    · subst hn
      clear h1 h2
      go_enter Tryz.func25, Tryz.ntmps25
      go_wp2_with fail
      go_ret
      exact ⟨rfl, HA.out⟩
    · have u1 : ((0 : Int) == (nf : Int)) = false := by simp; omega
      clear h1 h2 hn
      go_enter Tryz.func25, Tryz.ntmps25
      go_wp2_with fail
      go_ret
      exact ⟨rfl, HA.out⟩
  · rw [if_neg hk] at hc
    subst hc
    have u1 : ((key : Int) == (nf : Int)) = false := by
      have : key ≠ nf := by
        by_cases hn : nf = 0
        · omega
        · exact h1 hn
      simp; omega
    have u3 : ((key : Int) == 0) = false := by simp; omega
    clear h1 h2 hk
    go_enter Tryz.func25, Tryz.ntmps25
    go_wp2_with fail
    go_ret
    exact ⟨rfl, HA.out⟩
end Go.Proofs.YtlmeobokpibifaaGreatDoor
end

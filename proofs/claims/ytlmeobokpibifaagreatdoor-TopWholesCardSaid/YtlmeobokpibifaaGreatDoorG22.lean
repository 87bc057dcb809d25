/- package calipertop's works; TopNames. Conditions: as each theorem names them. Round of a whole number, for the binary forms of 64 and 32 bits: what the model's conversion of a whole number to a float has for its bits. Conditions: as each theorem names them. calipertop's TopWholes. Conditions: as each theorem names them. All that the three laws read, as the row's condition gives it. Conditions: as each theorem names them. The form of the kind Scale: Decode. Conditions: as each theorem names them. calipertop's TopSmall, walked. Conditions: as each theorem names them. -/
import Derived.Test.YtlmeobokpibifaaGreatDoorG20
import Derived.OpenShut
import Derived.Test.YtlmeobokpibifaaGreatDoorG13
import Derived.Test.YtlmeobokpibifaaGreatDoorG04
import Derived.Laws.Cover2
import Derived.Test.YtlmeobokpibifaaGreatDoorG16
import Derived.Test.YtlmeobokpibifaaGreatDoorG21
import Derived.Test.YtlmeobokpibifaaGreatDoorG10
import Derived.Test.YtlmeobokpibifaaGreatDoorG11
section
set_option linter.unusedSimpArgs false
set_option linter.unusedVariables false
set_option linter.unusedVariables false
namespace Go.Proofs.YtlmeobokpibifaaGreatDoor
open Go.RowKit

structure TW (w : World) (m : Nat) : Prop where
  dw : DW w m
  pw : PW w m
theorem TW.below {w w' : World} {m : Nat} (h : TW w m) (hb : Below w.heap.size w w') : TW w' m := ⟨h.dw.below hb, h.pw.below hb⟩
theorem works_true (m : Nat) (w : World) (h : TW w m) :
    Calls Tryz.prog 6 #[] w fun en w' => en = .returned (.bool true) ∧ Below w.heap.size w w' := by
  have P1 : Hid (∀ w', DW w' m → Calls Tryz.prog 8 #[.int .i64 14, .int .i64 2, .string ⟨#[48, 46, 49]⟩] w' fun en w'' => en = .returned (.tuple #[.int .u64 4591870180066957722, .int .i64 0, .int .i64 0]) ∧ Below w'.heap.size w' w'') := Lib.hid (fun w' h => tenth_parse m w' h)
  have P2 : Hid (∀ w', DW w' m → Calls Tryz.prog 7 #[.int .i64 14, .int .u64 4591870180066957722] w' fun en w'' => en = .returned (.tuple #[.string ⟨#[48, 46, 49]⟩, .int .i64 0]) ∧ Below w'.heap.size w' w'') := Lib.hid (fun w' h => tenth_print m w' h)
  have P3 : Hid (∀ w', PW w' m → Calls Tryz.prog 8 #[.int .i64 1, .int .i64 1, .string ⟨#[45, 49, 101, 57, 57]⟩] w' fun en w'' => en = .returned (.tuple #[.int .u64 129, .int .i64 0, .int .i64 0]) ∧ Below w'.heap.size w' w'') := Lib.hid (fun w' h => posparse m w' h)
  have H := Lib.hid h
  clear h
  go_enter Tryz.func6, Tryz.ntmps6
  go_wp2_with fail
  with_reducible (refine (P1.out _ H.out.dw).mono ?_)
  rintro e w1 ⟨rfl, b1⟩
  have HB1 := Lib.hid b1
  clear b1
  go_wp2_with fail
  with_reducible (refine (P2.out _ (H.out.below HB1.out).dw).mono ?_)
  rintro e w2 ⟨rfl, b2⟩
  have HB2 := Lib.hid (bthen HB1.out b2)
  clear b2
  go_wp2_with fail
  with_reducible (refine (P3.out _ (H.out.below HB2.out).pw).mono ?_)
  rintro e w3 ⟨rfl, b3⟩
  have HB3 := Lib.hid (bthen HB2.out b3)
  clear b3
  go_wp2_with fail
  go_ret
  exact ⟨rfl, HB3.out⟩
theorem errno_eight (w : World) :
    Calls Tryz.prog 10 #[.int .i64 8] w fun en w' => en = .returned (.string ⟨#[101, 114, 114, 111, 114, 32, 56]⟩) ∧ Below w.heap.size w w' := by
  have hc : (⟨#[101, 114, 114, 111, 114, 32]⟩ : ByteArray) ++ ⟨#[56]⟩ = ⟨#[101, 114, 114, 111, 114, 32, 56]⟩ := rfl
  have I : Hid (∀ w', Calls Tryz.prog 26 #[.int .i64 8] w' fun en w'' => en = .returned (.string ⟨#[56]⟩) ∧ w' = w'') := Lib.hid (fun w' => (Tryz.strconv_Itoa_small 8 (by decide) w').mono fun e w'' ⟨he, hw⟩ => ⟨by rw [he, show Lib.decDigits 8 = [56] by kernel_rfl], hw.symm⟩)
  go_enter Tryz.func10, Tryz.ntmps10
  go_wp2_with fail
  refine (I.out _).mono ?_
  rintro e w1 ⟨rfl, rfl⟩
  go_wp2_with fail
  go_ret
  exact ⟨rfl, Below.refl _ _⟩
theorem and_byte : ∀ n, n < 256 → bits .and .u8 ((n : Nat) : Int) 255 = ((n : Nat) : Int) := by decide +kernel
theorem names_true (x : Int) (wx : (Lit.int .u8 x).wf = true) (m : Nat) (w : World) (h : TW w m) :
    Calls Tryz.prog 4 #[.int .u8 x] w fun en w' => en = .returned (.bool true) ∧ Below w.heap.size w w' := by
  have WK := Lib.hid (works_true m w h)
  have ER := Lib.hid (fun w' => errno_eight w')
  have hx : bits .and .u8 x 255 = x := by
    obtain ⟨n, rfl⟩ : ∃ n : Nat, x = (n : Int) := ⟨x.toNat, by have := bounds_u8 wx; omega⟩
    exact and_byte n (by have := bounds_u8 wx; omega)
  clear h
  go_enter Tryz.func4, Tryz.ntmps4
  go_wp2_with fail
  with_reducible (refine WK.out.mono ?_)
  rintro e w1 ⟨rfl, b1⟩
  have HB1 := Lib.hid b1
  clear b1
  go_wp2_with fail
  with_reducible (refine (ER.out _).mono ?_)
  rintro e w2 ⟨rfl, b2⟩
  have HB2 := Lib.hid (bthen HB1.out b2)
  clear b2
  go_wp2_with fail
  go_ret
  exact ⟨rfl, HB2.out⟩
end Go.Proofs.YtlmeobokpibifaaGreatDoor
end

section
set_option linter.unusedSimpArgs false
set_option linter.unusedVariables false
set_option linter.unusedVariables false
namespace Go.Proofs.YtlmeobokpibifaaGreatDoor
open Go.RowKit

theorem wi_whole (man b n key : Nat) (hm : man ≤ 60) (hb : b ≤ 2000) : wi man (vx n 0 0) (unit man (b : Int)) key = wi man (n * 2 ^ (b + man)) 1 key := by
  rw [wi_cut man key n (b : Int) 0 0 (b + man) hm (by omega) (by omega) (by omega) (by omega) (by omega)]
  have e1 : ((0 : Int) + ((b + man : Nat) : Int)).toNat = b + man := by omega
  have e2 : (-(b : Int) - (man : Int) + ((b + man : Nat) : Int)).toNat = 0 := by omega
  rw [e1, e2, Nat.pow_zero]
  have e3 : n * 5 ^ (b + man) * 2 ^ (b + man) = n * 2 ^ (b + man) * 5 ^ (b + man) := by
    rw [Nat.mul_assoc, Nat.mul_assoc, Nat.mul_comm (5 ^ (b + man))]
  rw [e3, Nat.mul_comm (5 ^ (b + man)) 1]
  exact wi_mul (Nat.pow_pos (by decide))
/-- a form of the kind Signed that is one of the model's formats -/
structure BF (f : Ieee.Format) (wd man b tp : Nat) : Prop where
  sf : SF wd man (b : Int) tp
  bin : Bin f man (b + man)
  top : (53 + (b + man) + 2) * 2 ^ man ≤ tp
  inf : tp < f.infRung
theorem log_le {n : Nat} (h : n < 2 ^ 54) (h0 : 0 < n) : Nat.log2 n ≤ 53 := by
  have h1 := (Nat.log2_lt (by omega : n ≠ 0) (k := 54)).2 h
  omega
section
variable {f : Ieee.Format} {n wd man b tp nf nn m : Nat}
theorem nearest_lt (B : BF f wd man b tp) (neg : Bool) (N : Nat) (hN : N < 2 ^ 54) : f.nearest neg N 0 ≤ f.signWeight + tp := by
  obtain ⟨K, hK, h1, h2, h3, h4⟩ := nearest_key B.bin neg N
  have hKt : K ≤ tp := by
    rcases Nat.eq_zero_or_pos N with h0 | h0
    · rw [h3 h0]; omega
    · exact Nat.le_trans (h4 h0) (Nat.le_trans (Nat.mul_le_mul_right _ (by have := log_le hN h0; omega)) B.top)
  rw [hK, Nat.min_eq_left (Nat.le_of_lt (Nat.lt_of_le_of_lt hKt B.inf))]
  unfold Ieee.Format.word
  split <;> omega
theorem round_whole_pos (B : BF f wd man b tp) (v : Value) (N : Nat) (hN : N < 2 ^ 54) (hn : 1 ≤ n) (hn2 : n < 15) (w : World) (h : SW w n wd man (b : Int) tp nf nn m) (hx : IsN w v N) :
    Calls Tryz.prog 11 #[.int .i64 n, .int .i64 2, xv false v 0 0] w fun en w' => en = .returned (.tuple #[.int .u64 ((f.nearest false N 0 : Nat) : Int), .int .i64 0]) ∧ Below w.heap.size w w' := by
  obtain ⟨K, hK, h1, h2, h3, h4⟩ := nearest_key B.bin false N
  have hb2 := B.sf.b2
  have hm2 := B.sf.m2
  have hKt : K ≤ tp := by
    rcases Nat.eq_zero_or_pos N with h0 | h0
    · rw [h3 h0]; omega
    · exact Nat.le_trans (h4 h0) (Nat.le_trans (Nat.mul_le_mul_right _ (by have := log_le hN h0; omega)) B.top)
  have e : f.nearest false N 0 = K := by
    rw [hK, Nat.min_eq_left (Nat.le_of_lt (Nat.lt_of_le_of_lt hKt B.inf))]
    simp [Ieee.Format.word]
  rw [e]
  refine round_pos B.sf 2 v 0 0 N K hn hn2 (Or.inr rfl) ?_ ?_ hKt (by decide) (by decide) ?_ w h ⟨hx, Nat.le_trans (bitsN_le' hN) (by decide), by decide, by decide, by decide, by decide⟩
  · rw [wi_whole man b N K (by omega) (by omega)]; exact h1
  · rcases h2 with h2 | h2
    · exact Or.inl h2
    · right; rw [wi_whole man b N (K - 1) (by omega) (by omega)]; exact h2
  · exact decide_eq_true (Nat.lt_of_lt_of_le hN (Nat.pow_le_pow_right (by decide) (by decide)))
theorem round_whole_neg (B : BF f wd man b tp) (v : Value) (N sn : Nat) (ms hs : Nat) (hms : 2 ^ wd - 1 = ms) (hh : ms / 2 = hs) (hsn : bits .andNot .u64 (ms : Int) (hs : Int) = (sn : Int)) (hsg : sn = f.signWeight) (hor : ∀ K : Nat, K ≤ tp → bits .or .u64 (K : Int) (sn : Int) = ((sn + K : Nat) : Int)) (hN : N < 2 ^ 54) (hn : 1 ≤ n) (hn2 : n < 15) (w : World) (h : SW w n wd man (b : Int) tp nf nn m) (hx : IsN w v N) :
    Calls Tryz.prog 11 #[.int .i64 n, .int .i64 2, xv true v 0 0] w fun en w' => en = .returned (.tuple #[.int .u64 ((f.nearest true N 0 : Nat) : Int), .int .i64 0]) ∧ Below w.heap.size w w' := by
  obtain ⟨K, hK, h1, h2, h3, h4⟩ := nearest_key B.bin true N
  have hb2 := B.sf.b2
  have hm2 := B.sf.m2
  have hKt : K ≤ tp := by
    rcases Nat.eq_zero_or_pos N with h0 | h0
    · rw [h3 h0]; omega
    · exact Nat.le_trans (h4 h0) (Nat.le_trans (Nat.mul_le_mul_right _ (by have := log_le hN h0; omega)) B.top)
  have e : f.nearest true N 0 = sn + K := by
    rw [hK, Nat.min_eq_left (Nat.le_of_lt (Nat.lt_of_le_of_lt hKt B.inf))]
    simp [Ieee.Format.word, hsg]
  rw [e]
  refine round_neg B.sf 2 v 0 0 N K ms hs sn (sn + K) hn hn2 (Or.inr rfl) ?_ ?_ hKt (by decide) (by decide) ?_ hms hh hsn (hor K hKt) w h ⟨hx, Nat.le_trans (bitsN_le' hN) (by decide), by decide, by decide, by decide, by decide⟩
  · rw [wi_whole man b N K (by omega) (by omega)]; exact h1
  · rcases h2 with h2 | h2
    · exact Or.inl h2
    · right; rw [wi_whole man b N (K - 1) (by omega) (by omega)]; exact h2
  · exact decide_eq_true (Nat.lt_of_lt_of_le hN (Nat.pow_le_pow_right (by decide) (by decide)))
end
theorem or_sign {k tp sn : Nat} (hs : sn = 2 ^ k) (hk : k < 64) (ht : tp < 2 ^ k) (K : Nat) (hK : K ≤ tp) : bits .or .u64 (K : Int) (sn : Int) = ((sn + K : Nat) : Int) := by
  have hp := pow_lt64 hk
  rw [hs, bits_or_u64_nat _ _ (by omega) hp, or_pow K k (by omega), Nat.add_comm]
theorem bf_double : BF Ieee.double 64 52 1023 9218868437227405311 := ⟨⟨by decide, by decide, by decide, by decide, by decide, by decide, by decide, by decide, by decide⟩, bin_double, by decide, by decide⟩
theorem bf_single : BF Ieee.single 32 23 127 2139095039 := ⟨⟨by decide, by decide, by decide, by decide, by decide, by decide, by decide, by decide, by decide⟩, bin_single, by decide, by decide⟩
end Go.Proofs.YtlmeobokpibifaaGreatDoor
end

section
set_option linter.unusedSimpArgs false
set_option linter.unusedVariables false
set_option linter.unusedVariables false
namespace Go.Proofs.YtlmeobokpibifaaGreatDoor
open Go.RowKit

abbrev FW (w : World) (m : Nat) : Prop := SW w 13 32 23 127 2139095039 2139095040 2143289344 m
structure WW (w : World) (m : Nat) : Prop where
  tw : TW w m
  fw : FW w m
theorem WW.below {w w' : World} {m : Nat} (h : WW w m) (hb : Below w.heap.size w w') : WW w' m := ⟨h.tw.below hb, h.fw.below hb⟩
theorem isn_word {w : World} {g N : Nat} {t : TypeId} (h : w.heap[g]? = some (.cells #[.int .u64 (N : Int)] t (0, 0))) (h0 : 0 < N) (hN : N < 18446744073709551616) : IsN w (.slice (some ⟨g, 0, none⟩) 1 1) N := by
  refine ⟨some ⟨g, 0, none⟩, 1, 1, fun _ => N, rfl, ⟨Nat.le_refl _, by decide, fun h => (nomatch h), fun _ _ => hN, fun _ => ⟨_, rfl, blk_lt h, fun i hi => ?_⟩⟩, Or.inr (by simp; omega), by simp [S]⟩
  obtain rfl : i = 0 := by omega
  simp [World.cell?, h, Addr.add]
/-- what the conversions have for their bits -/
theorem bits_of (k : FloatKind) (z : Int) : floatOfInt k z = k.format.nearest (decide (z < 0)) z.natAbs 0 := rfl

/-- Round of a whole number, in both forms -/
theorem round_d (z : Int) (hz : -9007199254740992 ≤ z ∧ z ≤ 9007199254740992) (v : Value) (m : Nat) (w : World) (h : DW w m) (hx : IsN w v z.natAbs) :
    Calls Tryz.prog 11 #[.int .i64 14, .int .i64 2, xv (decide (z < 0)) v 0 0] w fun en w' => en = .returned (.tuple #[.int .u64 ((floatOfInt .f64 z : Nat) : Int), .int .i64 0]) ∧ Below w.heap.size w w' := by
  have hN : z.natAbs < 2 ^ 54 := by have : (2 : Nat) ^ 54 = 18014398509481984 := by decide
                                    omega
  rw [bits_of]
  cases hs : decide (z < 0) with
  | false => exact round_whole_pos bf_double v _ hN (by decide) (by decide) w h hx
  | true => exact round_whole_neg bf_double v _ 9223372036854775808 18446744073709551615 9223372036854775807 (by decide) (by decide) (by decide) (by decide) (or_sign (k := 63) (by decide) (by decide) (by decide)) hN (by decide) (by decide) w h hx
theorem round_f (z : Int) (hz : -9007199254740992 ≤ z ∧ z ≤ 9007199254740992) (v : Value) (m : Nat) (w : World) (h : FW w m) (hx : IsN w v z.natAbs) :
    Calls Tryz.prog 11 #[.int .i64 13, .int .i64 2, xv (decide (z < 0)) v 0 0] w fun en w' => en = .returned (.tuple #[.int .u64 ((floatOfInt .f32 z : Nat) : Int), .int .i64 0]) ∧ Below w.heap.size w w' := by
  have hN : z.natAbs < 2 ^ 54 := by have : (2 : Nat) ^ 54 = 18014398509481984 := by decide
                                    omega
  rw [bits_of]
  cases hs : decide (z < 0) with
  | false => exact round_whole_pos bf_single v _ hN (by decide) (by decide) w h hx
  | true => exact round_whole_neg bf_single v _ 2147483648 4294967295 2147483647 (by decide) (by decide) (by decide) (by decide) (or_sign (k := 31) (by decide) (by decide) (by decide)) hN (by decide) (by decide) w h hx
end Go.Proofs.YtlmeobokpibifaaGreatDoor
end

section
set_option linter.unusedSimpArgs false
set_option linter.unusedVariables false
set_option linter.unusedVariables false
namespace Go.Proofs.YtlmeobokpibifaaGreatDoor
open Go.RowKit

structure AW (w : World) (m mw : Nat) : Prop where
  ww : WW w m
  qw : QW w m
  e8 : FormAt w 11 4 8 0 127 254 0 255
  n4 : NumAt w m 4 183
  wd : WordAt w mw
theorem AW.below {w w' : World} {m mw : Nat} (h : AW w m mw) (hb : Below w.heap.size w w') : AW w' m mw := ⟨h.ww.below hb, h.qw.below hb, h.e8.below hb, h.n4.below hb, h.wd.below hb⟩
theorem aw_at {W : World} (h : Cond W) : ∃ m mw, AW W m mw := by
  obtain ⟨m, hm⟩ := num_at h
  obtain ⟨mw, hw⟩ := word_at h
  have T := tab_at h
  have hl : 12 < W.heap.size := cell_lt (T 0 (by decide))
  have n1 := hm 1 177 99 [97, 108, 105, 112, 101, 114, 47, 118, 97, 108, 117, 101, 46, 110, 117, 109, 98, 101, 114, 115, 36, 49] (by decide) (by kernel_rfl) (by kernel_rfl)
  have n2 := hm 2 179 99 [97, 108, 105, 112, 101, 114, 47, 118, 97, 108, 117, 101, 46, 110, 117, 109, 98, 101, 114, 115, 36, 50] (by decide) (by kernel_rfl) (by kernel_rfl)
  have n4 := hm 4 183 99 [97, 108, 105, 112, 101, 114, 47, 118, 97, 108, 117, 101, 46, 110, 117, 109, 98, 101, 114, 115, 36, 52] (by decide) (by kernel_rfl) (by kernel_rfl)
  exact ⟨m, mw, ⟨⟨⟨form_at h 14 (by decide) 2 64 52 1023 9218868437227405311 9218868437227405312 9221120237041090560 (by kernel_rfl), n2, T, hl⟩, ⟨form_at h 1 (by decide) 1 8 0 0 127 0 128 (by kernel_rfl), n1, T, hl⟩⟩,
    ⟨form_at h 13 (by decide) 2 32 23 127 2139095039 2139095040 2143289344 (by kernel_rfl), n2, T, hl⟩⟩,
    ⟨form_at h 9 (by decide) 2 4 1 1 7 0 0 (by kernel_rfl), n2, T, hl⟩, form_at h 11 (by decide) 4 8 0 127 254 0 255 (by kernel_rfl), n4, hw⟩
theorem walk_TopNames (x : Int) (wx : (Lit.int .u8 x).wf = true) (m mw : Nat) (w : World) (h : AW w m mw) :
    Calls Tryz.prog 4 #[.int .u8 x] w fun en w' => en = .returned (.bool true) ∧ Below w.heap.size w w' := names_true x wx m w h.ww.tw
end Go.Proofs.YtlmeobokpibifaaGreatDoor
end

section
set_option linter.unusedSimpArgs false
set_option linter.unusedVariables false
set_option linter.unusedVariables false
namespace Go.Proofs.YtlmeobokpibifaaGreatDoor
open Go.RowKit

theorem sign_scale (wd mn bs : Int) (tp nf nn : Nat) (w : World) :
    Calls Tryz.prog 42 #[fv 4 wd mn bs tp nf nn] w fun e w' => e = .returned (.int .u64 0) ∧ Below w.heap.size w w' := by
  have HA := Lib.hid (bgrow (Below.refl w.heap.size w) (fbox 4 wd mn bs tp nf nn))
  unfold fv fbox at *
  go_enter Tryz.func42, Tryz.ntmps42
  go_wp2_with fail
  go_ret
  exact ⟨rfl, HA.out⟩
theorem parts_scale (wd mn bs : Int) (tp nf nn f p : Nat) (w : World) :
    Calls Tryz.prog 24 #[shv 4 wd mn bs tp nf nn f, .int .u64 p] w fun e w' => e = .returned (.tuple #[.bool false, .int .u64 p]) ∧ Below w.heap.size w w' := by
  have SG := Lib.hid (fun w' => sign_scale wd mn bs tp nf nn w')
  have HA := Lib.hid (bgrow (Below.refl w.heap.size w) (shbox 4 wd mn bs tp nf nn f))
  have hp : bits .and .u64 (p : Int) 0 = 0 := by simp [bits, IntKind.wrap, IntKind.signed]
  unfold shv shbox fv at *
  go_enter Tryz.func24, Tryz.ntmps24
  go_wp2_with fail
  with_reducible (refine (SG.out _).mono ?_)
  rintro e w1 ⟨rfl, b1⟩
  have HB := Lib.hid (bthen HA.out b1)
  clear b1
  go_wp2_with fail
  go_ret2
  exact ⟨rfl, HB.out⟩
theorem class_scale (wd mn bs : Int) (tp nf nn f p key : Nat) (w : World) (h0 : nn ≠ 0) (h1 : p ≠ nn) :
    Calls Tryz.prog 25 #[shv 4 wd mn bs tp nf nn f, .int .u64 p, .int .u64 key] w fun e w' => e = .returned (.int .i64 2) ∧ Below w.heap.size w w' := by
  have HA := Lib.hid (bgrow (Below.refl w.heap.size w) (shbox 4 wd mn bs tp nf nn f))
  have u0 : ((nn : Int) == 0) = false := by simp; omega
  have u1 : ((nn : Int) != 0) = true := by simp; omega
  have u2 : ((p : Int) == (nn : Int)) = false := by simp; omega
  have u3 : (p == nn) = false := by simp; omega
  have u4 : (nn == 0) = false := by simp; omega
  unfold shv shbox at *
  by_cases hk : key = 0
  · subst hk
    clear h0 h1
    go_enter Tryz.func25, Tryz.ntmps25
    go_wp2_with fail
    go_ret
    exact ⟨rfl, HA.out⟩
  · have u5 : ((key : Int) == 0) = false := by simp; omega
    have u6 : (key == 0) = false := by simp; omega
    clear h0 h1
    go_enter Tryz.func25, Tryz.ntmps25
    go_wp2_with fail
    go_ret
    exact ⟨rfl, HA.out⟩
theorem scale_num (k wd mn bs : Int) (tp nf nn key : Nat) (ee : Int) (w : World) (hk : key < 9223372036854775808) (he : IntKind.i64.wrap ((key : Int) - bs) = ee) (he2 : IntKind.i64.wrap ee = ee) :
    Calls Tryz.prog 183 #[fv k wd mn bs tp nf nn, .int .i64 0, .int .u64 key] w fun e w' => e = .returned (.tuple #[.int .u64 ((1 : Nat) : Int), .int .i64 ee]) ∧ Below w.heap.size w w' := by
  have HA := Lib.hid (bgrow (Below.refl w.heap.size w) (fbox k wd mn bs tp nf nn))
  have w1 : IntKind.i64.wrap (key : Int) = (key : Int) := IntWalk.i64_in _ (by omega)
  clear hk
  unfold fv fbox at *
  go_enter Tryz.func183, Tryz.ntmps183
  go_wp2_with fail
  go_quiet (fail)
  go_wp2_with fail
  go_ret2
  exact ⟨rfl, bdrewN HA.out _⟩
set_option maxHeartbeats 1000000 in
theorem decode_scale (n : Nat) (wd : Nat) (man : Int) (bs : Int) (tp nf nn m p key mm : Nat) (neg : Bool) (ee : Int) (w : World) (hm : NumAt w m 4 183) (h : FormAt w n 4 wd man bs tp nf nn)
    (FT : Hid (∀ w', FormAt w' n 4 wd man bs tp nf nn → Calls Tryz.prog 22 #[.int .i64 n, .int .u64 p] w' fun e w'' => e = .returned (.int .i64 0) ∧ Below w'.heap.size w' w''))
    (SH : Hid (∀ w', FormAt w' n 4 wd man bs tp nf nn → NumAt w' m 4 183 → Calls Tryz.prog 23 #[.int .i64 n] w' fun e w'' => e = .returned (.tuple #[shv 4 wd man bs tp nf nn 183, .int .i64 0]) ∧ Below w'.heap.size w' w''))
    (PA : Hid (∀ w', Calls Tryz.prog 24 #[shv 4 wd man bs tp nf nn 183, .int .u64 p] w' fun e w'' => e = .returned (.tuple #[.bool neg, .int .u64 key]) ∧ Below w'.heap.size w' w''))
    (CL : Hid (∀ w', Calls Tryz.prog 25 #[shv 4 wd man bs tp nf nn 183, .int .u64 p, .int .u64 key] w' fun e w'' => e = .returned (.int .i64 2) ∧ Below w'.heap.size w' w''))
    (NU : Hid (∀ w', Tab w' → 12 < w'.heap.size → Calls Tryz.prog 183 #[fv 4 wd man bs tp nf nn, .int .i64 0, .int .u64 key] w' fun e w'' => e = .returned (.tuple #[.int .u64 mm, .int .i64 ee]) ∧ Below w'.heap.size w' w''))
    (hT : Tab w) (hl : 12 < w.heap.size) :
    Calls Tryz.prog 9 #[.int .i64 n, .int .u64 p] w fun e w' => e = .returned (.tuple #[.agg #[.int .i64 2, .bool neg, .int .u64 mm, .int .i64 ee], .int .i64 0]) ∧ Below w.heap.size w w' := by
  have HA := Lib.hid (bgrow (Below.refl w.heap.size w) (.cells #[.int .i64 0, .bool false, .int .u64 0, .int .i64 0] 31))
  have BX : Hid (VB (w.alloc (.cells #[.int .i64 0, .bool false, .int .u64 0, .int .i64 0] 31)) w.heap.size 0 false 0 0) := Lib.hid (Deep.blk_alloc_new _ _)
  have HF := Lib.hid h
  have HM := Lib.hid hm
  have HT := Lib.hid (And.intro hT hl)
  clear h hm hT hl
  unfold shv fv at *
  go_enter Tryz.func9, Tryz.ntmps9
  go_wp2_with fail
  generalize (w.alloc (.cells #[.int .i64 0, .bool false, .int .u64 0, .int .i64 0] 31)) = WB at HA BX ⊢
  with_reducible (refine (FT.out _ (HF.out.below HA.out)).mono ?_)
  rintro e w1 ⟨rfl, b1⟩
  have HB1 := Lib.hid (bthen HA.out b1)
  have BX1 := Lib.hid (BX.out.below b1)
  clear b1 BX HA
  go_wp2_with fail
  with_reducible (refine (SH.out _ (HF.out.below HB1.out) (HM.out.below HB1.out)).mono ?_)
  rintro e w2 ⟨rfl, b2⟩
  have HB2 := Lib.hid (bgrow (bthen HB1.out b2) (shbox 4 wd man bs tp nf nn 183))
  have BX2 := Lib.hid ((BX1.out.below b2).below (bgrow (Below.refl _ _) (shbox 4 wd man bs tp nf nn 183)))
  have hb12 := b2.size
  have SX : Hid ((w2.alloc (shbox 4 wd man bs tp nf nn 183)).heap[w2.heap.size]? = some (.cells #[.int .i64 4, .int .i64 wd, .int .i64 man, .int .i64 bs, .int .u64 tp, .int .u64 nf, .int .u64 nn, .func (.func 183) #[] #[]] 70 (0, 0))) := Lib.hid (Deep.blk_alloc_new _ _)
  have HNE := Lib.hid (show w.heap.size < w2.heap.size from by have := blk_lt BX1.out; omega)
  clear b2 BX1 HB1 hb12
  unfold shbox at HB2 BX2 SX
  go_wp2_with (with_reducible show wpList _ _ _ ({ dst := none, op := Op.store 70 (Operand.tmp 7) (Operand.tmp 21), type := _, pos := _, after := _, guard := none } :: _) _ _; refine store8_new (.tmp 7) (.tmp 21) 4 wd man bs tp nf nn 183 rfl rfl (by simp [Act.eval]) (by simp [Act.eval]) ?_)
  generalize (w2.alloc (.cells #[.int .i64 4, .int .i64 wd, .int .i64 man, .int .i64 bs, .int .u64 tp, .int .u64 nf, .int .u64 nn, .func (.func 183) #[] #[]] 70)) = WC at HB2 BX2 SX ⊢
  with_reducible (refine (PA.out _).mono ?_)
  rintro e w3 ⟨rfl, b3⟩
  have HB3 := Lib.hid (bthen HB2.out b3)
  have BX3 := Lib.hid (BX2.out.below b3)
  have SX3 := Lib.hid ((b3.block _ (blk_lt SX.out)).trans SX.out)
  obtain ⟨d0, d1, d2, d3, d4, d5, d6, d7⟩ := eight_cells SX3.out
  clear b3 BX2 HB2 SX
  go_wp2_with fail
  with_reducible (refine (CL.out _).mono ?_)
  rintro e w4 ⟨rfl, b4⟩
  have HB4 := Lib.hid (bthen HB3.out b4)
  have BX4 := Lib.hid (BX3.out.below b4)
  have SX4 := Lib.hid ((b4.block _ (blk_lt SX3.out)).trans SX3.out)
  clear b4 BX3 HB3 SX3 d0 d1 d2 d3 d4 d5 d6 d7
  obtain ⟨d0, d1, d2, d3, d4, d5, d6, d7⟩ := eight_cells SX4.out
  obtain ⟨v0, v1, v2, v3, f0, f1, f2, f3⟩ := BX4.out.cells
  have hne := Nat.ne_of_gt HNE.out
  have hne' := Nat.ne_of_lt HNE.out
  go_wp2_with fail
  have HB5 := Lib.hid ((HB4.out.setCell (p := { block := w.heap.size, off := 0 }) (Nat.le_refl _) (.int .i64 2)).setCell (p := { block := w.heap.size, off := 1 }) (Nat.le_refl _) (.bool neg))
  have BX5 := Lib.hid ((BX4.out.put0 2).put1 neg)
  clear d0 d1 d2 d3 d4 d5 d6 d7 v0 v1 v2 v3 f0 f1 f2 f3 hne hne' BX4 HB4 SX4 HNE
  generalize (w4.setCell { block := w.heap.size, off := 0 } (.int .i64 2)).setCell { block := w.heap.size, off := 1 } (.bool neg) = W5 at HB5 BX5 ⊢
  with_reducible (refine (NU.out _ (HT.out.1.below HT.out.2 HB5.out) (Nat.lt_of_lt_of_le HT.out.2 HB5.out.size)).mono ?_)
  rintro e w6 ⟨rfl, b6⟩
  have HB6 := Lib.hid (bthen HB5.out b6)
  have BX6 := Lib.hid (BX5.out.below b6)
  clear b6 BX5 HB5
  obtain ⟨v0, v1, v2, v3, f0, f1, f2, f3⟩ := BX6.out.cells
  go_wp2_with fail
  have BX7 := (((((BX6.out.put2 mm).put3 ee).put0 2).put1 neg).put2 mm).put3 ee
  have HB7 := Lib.hid ((((((HB6.out.setCell (p := { block := w.heap.size, off := 2 }) (Nat.le_refl _) (.int .u64 mm)).setCell (p := { block := w.heap.size, off := 3 }) (Nat.le_refl _) (.int .i64 ee)).setCell (p := { block := w.heap.size, off := 0 }) (Nat.le_refl _) (.int .i64 2)).setCell (p := { block := w.heap.size, off := 1 }) (Nat.le_refl _) (.bool neg)).setCell (p := { block := w.heap.size, off := 2 }) (Nat.le_refl _) (.int .u64 mm)).setCell (p := { block := w.heap.size, off := 3 }) (Nat.le_refl _) (.int .i64 ee))
  clear v0 v1 v2 v3 f0 f1 f2 f3 BX6 HB6
  obtain ⟨v0, v1, v2, v3, -⟩ := BX7.cells
  refine bodyPost_ret (v := .tuple #[.agg #[.int .i64 2, .bool neg, .int .u64 mm, .int .i64 ee], .int .i64 0]) (by simp [results, Tryz.results9, go_sem, v0, v1, v2, v3]) rfl ⟨rfl, HB7.out⟩
theorem fits_scale : ∀ q, q < 255 → bits .andNot .u64 ((q : Nat) : Int) ((255 : Nat) : Int) = 0 := by decide +kernel
theorem decode_e8 (q m : Nat) (ee : Int) (hq : q < 255) (he : (q : Int) - 127 = ee) (w : World) (h : FormAt w 11 4 8 0 127 254 0 255) (hm : NumAt w m 4 183) (hT : Tab w) (hl : 12 < w.heap.size) :
    Calls Tryz.prog 9 #[.int .i64 ((11 : Nat) : Int), .int .u64 q] w fun e w' => e = .returned (.tuple #[.agg #[.int .i64 2, .bool false, .int .u64 ((1 : Nat) : Int), .int .i64 ee], .int .i64 0]) ∧ Below w.heap.size w w' :=
  decode_scale 11 8 0 127 254 0 255 m q q 1 false ee w hm h
    (Lib.hid (fun w' hF => fits_yes 11 4 8 0 127 254 0 255 255 q w' (by decide) (by decide) hF (by decide) (by decide) (fits_scale q hq)))
    (Lib.hid (fun w' hF hN => shape_of 11 4 8 0 127 254 0 255 m 183 w' (by decide) (by decide) hF hN))
    (Lib.hid (fun w' => parts_scale 8 0 127 254 0 255 183 q w'))
    (Lib.hid (fun w' => class_scale 8 0 127 254 0 255 183 q q w' (by decide) (by omega)))
    (Lib.hid (fun w' hT' hl' => scale_num 4 8 0 127 254 0 255 q ee w' (by omega) (by rw [IntWalk.i64_in _ (by omega)]; exact he) (IntWalk.i64_in _ (by omega))))
    hT hl
end Go.Proofs.YtlmeobokpibifaaGreatDoor
end

section
set_option linter.unusedSimpArgs false
set_option linter.unusedVariables false
set_option linter.unusedVariables false
set_option linter.unusedSimpArgs false
namespace Go.Proofs.YtlmeobokpibifaaGreatDoor
open Go.RowKit

theorem and_low (x k M : Nat) (hx : x < 18446744073709551616) (hk : k < 64) (hM : 2 ^ k - 1 = M) : bits .and .u64 (x : Int) (M : Int) = ((x % 2 ^ k : Nat) : Int) := by
  have hp := pow_lt64 hk
  rw [bits_and_u64_nat _ _ hx (by omega), ← hM, Nat.and_two_pow_sub_one_eq_mod]
/-- the texts of the magnitudes -/
def t8 (i : Nat) : List UInt8 := match i with | 0 => [48] | 1 => [48, 46, 53] | 2 => [49] | 3 => [49, 46, 53] | 4 => [50] | 5 => [51] | 6 => [52] | _ => [54]
theorem t8_low {p : Nat} (h : p < 8) : t8 (p % 8) = txt p := by
  have hc : p = 0 ∨ p = 1 ∨ p = 2 ∨ p = 3 ∨ p = 4 ∨ p = 5 ∨ p = 6 ∨ p = 7 := by omega
  rcases hc with rfl | rfl | rfl | rfl | rfl | rfl | rfl | rfl <;> rfl
theorem t8_high {p : Nat} (h : p < 16) (h7 : 7 < p) : (⟨#[45]⟩ : ByteArray) ++ ⟨(t8 (p % 8)).toArray⟩ = ⟨(txt p).toArray⟩ := by
  have hc : p = 8 ∨ p = 9 ∨ p = 10 ∨ p = 11 ∨ p = 12 ∨ p = 13 ∨ p = 14 ∨ p = 15 := by omega
  rcases hc with rfl | rfl | rfl | rfl | rfl | rfl | rfl | rfl <;> rfl
abbrev tbox : Obj := .cells #[.string ⟨#[48]⟩, .string ⟨#[48, 46, 53]⟩, .string ⟨#[49]⟩, .string ⟨#[49, 46, 53]⟩, .string ⟨#[50]⟩, .string ⟨#[51]⟩, .string ⟨#[52]⟩, .string ⟨#[54]⟩] 9
theorem tbox_at (w : World) (i : Nat) (h : i < 8) : (w.alloc tbox).cell? ⟨w.heap.size, i, none⟩ = some (tv (t8 i)) := by
  have hb := Deep.blk_alloc_new w tbox
  have hc : i = 0 ∨ i = 1 ∨ i = 2 ∨ i = 3 ∨ i = 4 ∨ i = 5 ∨ i = 6 ∨ i = 7 := by omega
  rcases hc with rfl | rfl | rfl | rfl | rfl | rfl | rfl | rfl <;> (simp only [World.cell?, hb]; rfl)

theorem list_at (i : Nat) (h : i < ([Value.string { data := #[48] }, Value.string { data := #[48, 46, 53] }, Value.string { data := #[49] }, Value.string { data := #[49, 46, 53] }, Value.string { data := #[50] }, Value.string { data := #[51] }, Value.string { data := #[52] }, Value.string { data := #[54] }] : List Value).length) : ([Value.string { data := #[48] }, Value.string { data := #[48, 46, 53] }, Value.string { data := #[49] }, Value.string { data := #[49, 46, 53] }, Value.string { data := #[50] }, Value.string { data := #[51] }, Value.string { data := #[52] }, Value.string { data := #[54] }] : List Value)[i]'h = tv (t8 i) := by
  have h8 : i < 8 := h
  have hc : i = 0 ∨ i = 1 ∨ i = 2 ∨ i = 3 ∨ i = 4 ∨ i = 5 ∨ i = 6 ∨ i = 7 := by omega
  rcases hc with rfl | rfl | rfl | rfl | rfl | rfl | rfl | rfl <;> rfl
theorem cast_and (a : Int) (wa : (Lit.int .u64 a).wf = true) : ∃ P : Nat, P < 16 ∧ bits .and .u64 a 15 = (P : Int) := by
  have ba := bounds_u64 wa
  obtain ⟨n, rfl⟩ : ∃ n : Nat, a = (n : Int) := ⟨a.toNat, by omega⟩
  exact ⟨n % 2 ^ 4, Nat.mod_lt _ (by decide), and_low n 4 15 (by omega) (by decide) (by decide)⟩
theorem cast_rem (b : Int) (wb : (Lit.int .u64 b).wf = true) : ∃ Q : Nat, Q < 254 ∧ b.tmod 254 = (Q : Int) := by
  have bb := bounds_u64 wb
  obtain ⟨n, rfl⟩ : ∃ n : Nat, b = (n : Int) := ⟨b.toNat, by omega⟩
  exact ⟨n % 254, Nat.mod_lt _ (by decide), rfl⟩
theorem t8_size (i : Nat) (y : ByteArray) (h : (⟨(t8 i).toArray⟩ : ByteArray) = y) : ¬ 9223372036854775807 < 1 + y.size := by
  subst h
  unfold t8
  split <;> decide
theorem le7 {P : Nat} (h : P < 8) : ¬ 7 < (P : Int) := by omega
theorem gt7 {P : Nat} (h : 7 < P) : 7 < (P : Int) := by omega
theorem sc1 (Q Q1 : Nat) (hQ : Q < 254) (h : Q + 1 = Q1) : IntKind.u64.wrap ((Q : Int) + 1) = (Q1 : Int) := by rw [IntWalk.u64_in _ (by omega)]; omega
theorem sc2 (Q Q1 : Nat) (e1 e2 : Int) (hQ : Q < 254) (h : Q + 1 = Q1) (h1 : (Q : Int) - 127 = e1) (h2 : (Q1 : Int) - 127 = e2) : wrap64 (e1 + 1) = e2 := by rw [IntWalk.wrap64_in _ ⟨by omega, by omega⟩]; omega
theorem sc3 (Q : Nat) (hQ : Q < 254) : IntKind.i64.wrap (Q : Int) = (Q : Int) := IntWalk.i64_in _ (by omega)
theorem sc4 (Q : Nat) (hQ : Q < 254) : wrap64 (Q : Int) = (Q : Int) := IntWalk.wrap64_in _ ⟨by omega, by omega⟩
theorem sc5 (Q : Nat) (e1 : Int) (hQ : Q < 254) (h1 : (Q : Int) - 127 = e1) : wrap64 ((Q : Int) - 127) = e1 := by rw [IntWalk.wrap64_in _ ⟨by omega, by omega⟩]; exact h1
set_option maxRecDepth 20000 in
set_option maxHeartbeats 2000000 in
theorem walk_TopSmall (a : Int) (wa : (Lit.int .u64 a).wf = true) (b : Int) (wb : (Lit.int .u64 b).wf = true) (m mw : Nat) (w : World) (h : AW w m mw) :
    Calls Tryz.prog 3 #[.int .u64 a, .int .u64 b] w fun en w' => en = .returned (.bool true) ∧ Below w.heap.size w w' := by
  have WK := Lib.hid (works_true m w h.ww.tw)
  have H := Lib.hid h
  obtain ⟨P, hP, ha⟩ := cast_and a wa
  obtain ⟨Q, hQ, hb⟩ := cast_rem b wb
  obtain ⟨i, hi⟩ : ∃ i, P % 8 = i := ⟨_, rfl⟩
  have hi8 : i < 8 := by omega
  have hpi : bits .and .u64 (P : Int) 7 = (i : Int) := by rw [← hi]; exact and_low P 3 7 (by omega) (by decide) (by decide)
  obtain ⟨z, hz⟩ : ∃ z : ByteArray, ⟨(txt P).toArray⟩ = z := ⟨_, rfl⟩
  obtain ⟨y, hy⟩ : ∃ y : ByteArray, ⟨(t8 i).toArray⟩ = y := ⟨_, rfl⟩
  have hL : ∀ hh, ([Value.string { data := #[48] }, Value.string { data := #[48, 46, 53] }, Value.string { data := #[49] }, Value.string { data := #[49, 46, 53] }, Value.string { data := #[50] }, Value.string { data := #[51] }, Value.string { data := #[52] }, Value.string { data := #[54] }] : List Value)[i]'hh = .string y := fun hh => by rw [← hy]; exact list_at i hh
  obtain ⟨Q1, hQ1⟩ : ∃ n, Q + 1 = n := ⟨_, rfl⟩
  obtain ⟨e1, he1⟩ : ∃ e : Int, (Q : Int) - 127 = e := ⟨_, rfl⟩
  obtain ⟨e2, he2⟩ : ∃ e : Int, (Q1 : Int) - 127 = e := ⟨_, rfl⟩
  have hQa : Q < 255 := by omega
  have hQb : Q1 < 255 := by omega
  have f1 := sc1 Q Q1 hQ hQ1
  have f2 := sc2 Q Q1 e1 e2 hQ hQ1 he1 he2
  have f3 := sc3 Q hQ
  have f4 := sc4 Q hQ
  have f5 := sc5 Q e1 hQ he1
  have PRT : Hid (∀ w', AW w' m mw → Calls Tryz.prog 7 #[.int .i64 9, .int .u64 P] w' fun e w'' => e = .returned (.tuple #[.string z, .int .i64 0]) ∧ Below w'.heap.size w' w'') := Lib.hid (fun w' h => by rw [← hz]; exact four_print P m mw hP w' h.qw h.wd)
  have PAR : Hid (∀ w', AW w' m mw → Calls Tryz.prog 8 #[.int .i64 9, .int .i64 2, .string z] w' fun e w'' => e = .returned (.tuple #[.int .u64 P, .int .i64 0, .int .i64 0]) ∧ Below w'.heap.size w' w'') := Lib.hid (fun w' h => by rw [← hz]; exact four_parse P m hP w' h.qw)
  have D1 : Hid (∀ w', AW w' m mw → Calls Tryz.prog 9 #[.int .i64 11, .int .u64 Q] w' fun e w'' => e = .returned (.tuple #[.agg #[.int .i64 2, .bool false, .int .u64 1, .int .i64 e1], .int .i64 0]) ∧ Below w'.heap.size w' w'') := Lib.hid (fun w' h => decode_e8 Q m e1 hQa he1 w' h.e8 h.n4 h.qw.tab h.qw.lt)
  have D2 : Hid (∀ w', AW w' m mw → Calls Tryz.prog 9 #[.int .i64 11, .int .u64 Q1] w' fun e w'' => e = .returned (.tuple #[.agg #[.int .i64 2, .bool false, .int .u64 1, .int .i64 e2], .int .i64 0]) ∧ Below w'.heap.size w' w'') := Lib.hid (fun w' h => decode_e8 Q1 m e2 hQb he2 w' h.e8 h.n4 h.qw.tab h.qw.lt)
  rcases (show (P < 8 ∧ y = z) ∨ (7 < P ∧ (⟨#[45]⟩ : ByteArray) ++ y = z) from by
    rcases Nat.lt_or_ge P 8 with h | h
    · left; exact ⟨h, by rw [← hy, ← hz, ← hi, t8_low h]⟩
    · right; exact ⟨h, by rw [← hy, ← hz, ← hi]; exact t8_high hP h⟩) with ⟨h7, rfl⟩ | ⟨h7, hcat⟩
  · have d7 : decide (7 < (P : Int)) = false := decide_eq_false (le7 h7)
    have d7n : decide (7 < P) = false := decide_eq_false (Nat.not_lt.2 (Nat.le_of_lt_succ h7))
    clear h he1 he2 hQ1 hi hz hy hP hQ h7 wa wb hQa hQb
    go_enter Tryz.func3, Tryz.ntmps3
    go_wp2_with fail
    with_reducible (refine WK.out.mono ?_)
    rintro e w1 ⟨rfl, b1⟩
    have HB1 := Lib.hid b1
    have H1 := Lib.hid (H.out.below b1)
    clear b1
    go_wp2_with fail
    have HA := Lib.hid (bgrow HB1.out tbox)
    have H2 := Lib.hid (H1.out.below (bgrow (Below.refl w1.heap.size w1) tbox))
    unfold tbox at *
    generalize (w1.alloc (.cells #[.string ⟨#[48]⟩, .string ⟨#[48, 46, 53]⟩, .string ⟨#[49]⟩, .string ⟨#[49, 46, 53]⟩, .string ⟨#[50]⟩, .string ⟨#[51]⟩, .string ⟨#[52]⟩, .string ⟨#[54]⟩] 9)) = WB at HA H2 ⊢
    with_reducible (refine (PRT.out _ H2.out).mono ?_)
    rintro e w2 ⟨rfl, b2⟩
    have HB2 := Lib.hid (bthen HA.out b2)
    have H3 := Lib.hid (H2.out.below b2)
    clear b2
    go_wp2_with fail
    with_reducible (refine (PAR.out _ H3.out).mono ?_)
    rintro e w3 ⟨rfl, b3⟩
    have HB3 := Lib.hid (bthen HB2.out b3)
    have H4 := Lib.hid (H3.out.below b3)
    clear b3
    go_wp2_with fail
    with_reducible (refine (D1.out _ H4.out).mono ?_)
    rintro e w4 ⟨rfl, b4⟩
    have HB4 := Lib.hid (bgrow (bthen HB3.out b4) (.cells #[.int .i64 2, .bool false, .int .u64 1, .int .i64 e1] 31))
    have H5 := Lib.hid ((H4.out.below b4).below (bgrow (Below.refl w4.heap.size w4) (.cells #[.int .i64 2, .bool false, .int .u64 1, .int .i64 e1] 31)))
    have BX : Hid ((w4.alloc (.cells #[.int .i64 2, .bool false, .int .u64 1, .int .i64 e1] 31)).heap[w4.heap.size]? = some (.cells #[.int .i64 2, .bool false, .int .u64 1, .int .i64 e1] 31 (0, 0))) := Lib.hid (Deep.blk_alloc_new _ _)
    clear b4
    go_wp2_with fail
    generalize (w4.alloc (.cells #[.int .i64 2, .bool false, .int .u64 1, .int .i64 e1] 31)) = W5 at HB4 H5 BX ⊢
    with_reducible (refine (D2.out _ H5.out).mono ?_)
    rintro e w5 ⟨rfl, b5⟩
    have HB5 := Lib.hid (bgrow (bthen HB4.out b5) (.cells #[.int .i64 2, .bool false, .int .u64 1, .int .i64 e2] 31))
    have BX5 := (b5.block _ (blk_lt BX.out)).trans BX.out
    have BX6 := (Deep.blk_alloc_lt w5 (.cells #[.int .i64 2, .bool false, .int .u64 1, .int .i64 e2] 31) _ (blk_lt BX5)).trans BX5
    have hne := blk_lt BX5
    have hne1 : ¬ w4.heap.size = w5.heap.size := Nat.ne_of_lt hne
    have hne2 : ¬ w5.heap.size = w4.heap.size := Nat.ne_of_gt hne
    obtain ⟨c0, c1, c2, c3, -⟩ := four_free BX5
    obtain ⟨g0, g1, g2, g3, -⟩ := four_free BX6
    clear b5 hne BX5 BX6 BX
    go_wp2_with fail
    go_ret
    exact ⟨rfl, HB5.out⟩
  · have d7 : decide (7 < (P : Int)) = true := decide_eq_true (gt7 h7)
    have d7n : decide (7 < P) = true := decide_eq_true h7
    have hys := t8_size i y hy
    clear h he1 he2 hQ1 hi hz hy hP hQ h7 wa wb hQa hQb
    go_enter Tryz.func3, Tryz.ntmps3
    go_wp2_with fail
    with_reducible (refine WK.out.mono ?_)
    rintro e w1 ⟨rfl, b1⟩
    have HB1 := Lib.hid b1
    have H1 := Lib.hid (H.out.below b1)
    clear b1
    go_wp2_with fail
    have HA := Lib.hid (bgrow HB1.out tbox)
    have H2 := Lib.hid (H1.out.below (bgrow (Below.refl w1.heap.size w1) tbox))
    unfold tbox at *
    generalize (w1.alloc (.cells #[.string ⟨#[48]⟩, .string ⟨#[48, 46, 53]⟩, .string ⟨#[49]⟩, .string ⟨#[49, 46, 53]⟩, .string ⟨#[50]⟩, .string ⟨#[51]⟩, .string ⟨#[52]⟩, .string ⟨#[54]⟩] 9)) = WB at HA H2 ⊢
    with_reducible (refine (PRT.out _ H2.out).mono ?_)
    rintro e w2 ⟨rfl, b2⟩
    have HB2 := Lib.hid (bthen HA.out b2)
    have H3 := Lib.hid (H2.out.below b2)
    clear b2
    go_wp2_with fail
    with_reducible (refine (PAR.out _ H3.out).mono ?_)
    rintro e w3 ⟨rfl, b3⟩
    have HB3 := Lib.hid (bthen HB2.out b3)
    have H4 := Lib.hid (H3.out.below b3)
    clear b3
    go_wp2_with fail
    with_reducible (refine (D1.out _ H4.out).mono ?_)
    rintro e w4 ⟨rfl, b4⟩
    have HB4 := Lib.hid (bgrow (bthen HB3.out b4) (.cells #[.int .i64 2, .bool false, .int .u64 1, .int .i64 e1] 31))
    have H5 := Lib.hid ((H4.out.below b4).below (bgrow (Below.refl w4.heap.size w4) (.cells #[.int .i64 2, .bool false, .int .u64 1, .int .i64 e1] 31)))
    have BX : Hid ((w4.alloc (.cells #[.int .i64 2, .bool false, .int .u64 1, .int .i64 e1] 31)).heap[w4.heap.size]? = some (.cells #[.int .i64 2, .bool false, .int .u64 1, .int .i64 e1] 31 (0, 0))) := Lib.hid (Deep.blk_alloc_new _ _)
    clear b4
    go_wp2_with fail
    generalize (w4.alloc (.cells #[.int .i64 2, .bool false, .int .u64 1, .int .i64 e1] 31)) = W5 at HB4 H5 BX ⊢
    with_reducible (refine (D2.out _ H5.out).mono ?_)
    rintro e w5 ⟨rfl, b5⟩
    have HB5 := Lib.hid (bgrow (bthen HB4.out b5) (.cells #[.int .i64 2, .bool false, .int .u64 1, .int .i64 e2] 31))
    have BX5 := (b5.block _ (blk_lt BX.out)).trans BX.out
    have BX6 := (Deep.blk_alloc_lt w5 (.cells #[.int .i64 2, .bool false, .int .u64 1, .int .i64 e2] 31) _ (blk_lt BX5)).trans BX5
    have hne := blk_lt BX5
    have hne1 : ¬ w4.heap.size = w5.heap.size := Nat.ne_of_lt hne
    have hne2 : ¬ w5.heap.size = w4.heap.size := Nat.ne_of_gt hne
    obtain ⟨c0, c1, c2, c3, -⟩ := four_free BX5
    obtain ⟨g0, g1, g2, g3, -⟩ := four_free BX6
    clear b5 hne BX5 BX6 BX
    go_wp2_with fail
    go_ret
    exact ⟨rfl, HB5.out⟩
end Go.Proofs.YtlmeobokpibifaaGreatDoor
end

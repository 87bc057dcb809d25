/- package posit walked for the greatest magnitude with one bit more: Value; package value's Between of it. Conditions: as each theorem names them. package round's Nearest, large and Round of a number that is too large. Conditions: as each theorem names them. package scan's Scan of a slice that holds the bytes of a text. Conditions: as each theorem names them. The posits of 8 bits: what is too large is the greatest one; Parse of the text -1e99. Conditions: as each theorem names them. The form of 64 bits: Parse and Print of the text 0.1. Conditions: as each theorem names them. -/
import Derived.Test.YtlmeobokpibifaaGreatDoorG19
import Derived.Test.YtlmeobokpibifaaGreatDoorG09
import Derived.Test.YtlmeobokpibifaaGreatDoorG10
import Derived.Test.YtlmeobokpibifaaGreatDoorG11
import Derived.Test.YtlmeobokpibifaaGreatDoorG18
import Derived.Test.YtlmeobokpibifaaGreatDoorG17
section
set_option linter.unusedSimpArgs false
set_option linter.unusedVariables false
set_option linter.unusedVariables false
namespace Go.Proofs.YtlmeobokpibifaaGreatDoor
open Go.RowKit

theorem posmust_ok (err : Int) (w : World) :
    Calls Tryz.prog 191 #[.bool true, .int .i64 err] w fun e w' => e = .returned (.tuple #[]) ∧ w = w' := by
  go_enter Tryz.func191, Tryz.ntmps191
  go_wp2
  go_end0
  exact ⟨rfl, rfl⟩
theorem poswide_ok (w : World) :
    Calls Tryz.prog 190 #[.int .i64 9] w fun e w' => e = .returned (.tuple #[]) ∧ w = w' := by
  go_enter Tryz.func190, Tryz.ntmps190
  go_wp2_with (go_at_call 191; refine (posmust_ok _ _).mono ?_; rintro e w' ⟨rfl, rfl⟩)
  go_end0
  exact ⟨rfl, rfl⟩
theorem lz_at (x r : Nat) (h : x < 18446744073709551616) (hr : r + Lib.bitLen x = 64) (w : World) :
    Calls Tryz.prog 91 #[.int .u64 x] w fun e w' => e = .returned (.int .i64 r) ∧ w = w' :=
  (Tryz.bits_LeadingZeros64 x w (by omega) (by omega)).mono fun e w' ⟨he, hw⟩ => ⟨by rw [he, Int.toNat_natCast]; congr 2; omega, hw.symm⟩
theorem lz_high (w : World) : Calls Tryz.prog 91 #[.int .u64 18374686479671623680] w fun e w' => e = .returned (.int .i64 0) ∧ w = w' := lz_at 18374686479671623680 0 (by decide) (by decide) w
theorem lz_low (w : World) : Calls Tryz.prog 91 #[.int .u64 72057594037927935] w fun e w' => e = .returned (.int .i64 8) ∧ w = w' := lz_at 72057594037927935 8 (by decide) (by decide) w

set_option maxHeartbeats 1000000 in
theorem possplit_top (w : World) :
    Calls Tryz.prog 188 #[.int .i64 9, .int .u64 255] w fun e w' => e = .returned (.agg #[.int .i64 7, .int .i64 0, .int .u64 0, .int .i64 0]) ∧ Below w.heap.size w w' := by
  have h1 : IntKind.u64.wrap 18374686479671623680 = 18374686479671623680 := by decide
  have h2 : bits .xor .u64 IntKind.u64.max 18374686479671623680 = 72057594037927935 := by decide
  have h3 : bits .and .u64 255 0 = 0 := by decide
  have h4 : bits .and .u64 0 0 = 0 := by decide
  go_enter Tryz.func188, Tryz.ntmps188
  go_wp2_with fail
  refine (poswide_ok _).mono ?_; rintro e w' ⟨rfl, rfl⟩
  go_wp2_with fail
  refine (posmust_ok _ _).mono ?_; rintro e w' ⟨rfl, rfl⟩
  go_wp2_with fail
  refine (lz_high _).mono ?_; rintro e w' ⟨rfl, rfl⟩
  go_wp2_with fail
  refine (lz_low _).mono ?_; rintro e w' ⟨rfl, rfl⟩
  go_wp2_with fail
  refine bodyPost_ret (v := .agg #[.int .i64 7, .int .i64 0, .int .u64 0, .int .i64 0]) (by simp [results, Tryz.results188, go_sem]; exact ⟨by kernel_rfl, by kernel_rfl, by kernel_rfl⟩) rfl ⟨rfl, bgrow (Below.refl _ _) _⟩
theorem posodd_one (w : World) (hT : Tab w) :
    Calls Tryz.prog 189 #[.int .u64 1, .int .i64 28] w fun e w' => e = .returned (.tuple #[.int .u64 1, .int .i64 28]) ∧ w' = w := by
  have T := Lib.hid (fun w' hT => tz_any 1 (by decide) (by decide) w' hT)
  rw [show Lib.ctz 64 1 = 0 from by decide] at T
  have hTab := Lib.hid hT
  clear hT
  go_enter Tryz.func189, Tryz.ntmps189
  go_wp2_with fail
  refine (T.out _ hTab.out).mono ?_; rintro e w' ⟨rfl, rfl⟩
  go_wp2_with fail
  go_ret2
  exact ⟨rfl, rfl⟩
set_option maxHeartbeats 1000000 in
theorem posvalue_top (w : World) (hT : Tab w) (hl : 12 < w.heap.size) :
    Calls Tryz.prog 185 #[.int .i64 9, .int .u64 255] w fun e w' => e = .returned (.tuple #[.int .u64 1, .int .i64 28]) ∧ Below w.heap.size w w' := by
  have S := Lib.hid (fun w' => possplit_top w')
  have O := Lib.hid (fun w' hT => posodd_one w' hT)
  have hTab := Lib.hid hT
  have h5 : bits .or .u64 1 0 = 1 := by decide
  clear hT
  go_enter Tryz.func185, Tryz.ntmps185
  go_wp2_with fail
  refine (S.out _).mono ?_; rintro e w1 ⟨rfl, b1⟩
  have HB1 := Lib.hid (bgrow b1 (.cells #[.int .i64 7, .int .i64 0, .int .u64 0, .int .i64 0] 244))
  have HT1 := Lib.hid (hTab.out.below hl HB1.out)
  clear b1
  go_wp2_with fail
  go_quiet ((go_at_call 189; exact Calls.quiet_of_same (O.out _ HT1.out)))
  go_wp2_with fail
  go_ret2
  exact ⟨rfl, bdrewN HB1.out _⟩
theorem poscaught_idle (p : Addr) (w : World) :
    CallsD Tryz.prog 184 #[.pointer (some p)] .returning w fun e u' w' => e = .returned (.tuple #[]) ∧ u' = .returning ∧ w = w' := by
  refine callsD_of_wpS Tryz.func184 rfl fun c₀ cs hu => ?_
  apply wpS_seq
  apply wpS_region
  simp [wpOpsS, go_sem, recoverD, hu, Tryz.ntmps184, Exit.thenS]
  simp only [Array.replicate_succ, Array.replicate_zero, List.push_toArray, List.append_toArray, List.nil_append, List.cons_append, List.setIfInBounds_toArray, List.set]
  apply wpS_of_wp
  go_wp2
  cases c₀
  simp_all [bodyPostS, results, Tryz.results184]
set_option maxHeartbeats 1000000 in
theorem posValue_top (w : World) (hT : Tab w) (hl : 12 < w.heap.size) :
    Calls Tryz.prog 178 #[.int .i64 9, .int .u64 255] w fun e w' => e = .returned (.tuple #[.int .u64 1, .int .i64 28, .int .i64 0]) ∧ Below w.heap.size w w' := by
  have V := Lib.hid (fun w' hT hl => posvalue_top w' hT hl)
  have HA := Lib.hid (bgrow (Below.refl w.heap.size w) (.cells #[.int .i64 0] 25))
  have P0 : Hid ((w.alloc (.cells #[.int .i64 0] 25)).heap[w.heap.size]? = some (.cells #[.int .i64 0] 25 (0, 0))) := Lib.hid (Deep.blk_alloc_new _ _)
  have hTab := Lib.hid (hT.below hl HA.out)
  have hL := Lib.hid (Nat.lt_of_lt_of_le hl HA.out.size)
  clear hT hl
  go_enter_defers Tryz.func178, Tryz.ntmps178
  go_wp2_with fail
  generalize (w.alloc (.cells #[.int .i64 0] 25)) = WB at HA P0 hTab hL ⊢
  with_reducible (refine (V.out _ hTab.out hL.out).mono ?_)
  rintro e w1 ⟨rfl, b1⟩
  have HB1 := Lib.hid (bthen HA.out b1)
  have P1 := Lib.hid ((b1.block _ (blk_lt P0.out)).trans P0.out)
  clear b1 P0 HA
  obtain ⟨c0, f0⟩ := one_free P1.out
  go_wp2_with fail
  have P2 := Lib.hid (one_put (b := .int .i64 0) P1.out)
  have HB2 := Lib.hid (HB1.out.setCell (p := { block := w.heap.size, off := 0 }) (Nat.le_refl _) (.int .i64 0))
  clear c0 f0
  generalize w1.setCell { block := w.heap.size, off := 0 } (.int .i64 0) = W2 at P2 HB2 ⊢
  refine leaves_cons (f := 184) (args := #[.pointer (some ⟨w.heap.size, 0, none⟩)]) (by simp) (by simp [go_sem]) ?_
  refine (poscaught_idle _ _).mono ?_
  rintro e u' w'' ⟨rfl, rfl, rfl⟩
  obtain ⟨c0, -⟩ := one_free P2.out
  refine pleaves_ret (v := .tuple #[.int .u64 1, .int .i64 28, .int .i64 0]) ?_ ⟨rfl, HB2.out⟩
  simp only [results, Tryz.results178]
  simp [go_sem, c0]
end Go.Proofs.YtlmeobokpibifaaGreatDoor
end

section
set_option linter.unusedSimpArgs false
set_option linter.unusedVariables false
set_option linter.unusedVariables false
namespace Go.Proofs.YtlmeobokpibifaaGreatDoor
open Go.RowKit

set_option maxHeartbeats 1000000 in
theorem near_over (n : Nat) (k wd mn bs : Int) (tp nf nn m f : Nat) (neg : Bool) (v : Value) (s ff : Int) (N : Nat) (w : World) (hn : 1 ≤ n) (hn2 : n < 15) (h : FormAt w n k wd mn bs tp nf nn) (hm : NumAt w m k f) (k4 : (k == 4) = false) (k3 : (k == 3) = false) (hx : XOk w v N s ff) (hs5 : -5000 ≤ s ∧ s ≤ 5000) (hf5 : -5000 ≤ ff ∧ ff ≤ 5000) (hfit : fitB N = true)
    (WI : Hid (∀ w', Below w.heap.size w w' → Calls Tryz.prog 50 #[.int .i64 n, xv neg v s ff, .int .u64 tp] w' fun en w'' => en = .returned (.bool false) ∧ Below w'.heap.size w' w'')) :
    Calls Tryz.prog 29 #[.int .i64 n, .bool neg, xv neg v s ff] w fun en w' => en = .returned (.tuple #[.int .u64 tp, .bool true, .int .i64 0]) ∧ Below w.heap.size w w' := by
  obtain ⟨Av, nv, cv, rfl, -⟩ := nlen hx.isn
  have HX := Lib.hid hx
  have HA := Lib.hid (bgrow (Below.refl w.heap.size w) (xbox neg (.slice Av nv cv) s ff))
  have BX : Hid ((w.alloc (xbox neg (.slice Av nv cv) s ff)).heap[w.heap.size]? = some (.cells #[.bool neg, .slice Av nv cv, .int .i64 s, .int .i64 ff] 41 (0, 0))) := Lib.hid (Deep.blk_alloc_new _ _)
  have MO := Lib.hid (fun w' h1 h2 => most_any n k wd mn bs tp nf nn m f neg w' hn hn2 h1 h2 k4 k3)
  have HF := Lib.hid h
  have HM := Lib.hid hm
  have hin : (fitB N && (inB s && inB ff)) = true := by
    rw [hfit]
    unfold inB
    simp; omega
  have RI := Lib.hid (fun w' h => right_N neg (.slice Av nv cv) N s ff true w' h hin)
  clear h hm hn hn2 hx hin hfit hs5 hf5 k4 k3
  unfold xv xbox at *
  go_enter Tryz.func29, Tryz.ntmps29
  go_wp2_with fail
  have HX0 := Lib.hid (HX.out.below HA.out)
  have HAA : Hid (Below w.heap.size w (w.alloc (.cells #[.bool neg, .slice Av nv cv, .int .i64 s, .int .i64 ff] 41))) := HA
  generalize (w.alloc (.cells #[.bool neg, .slice Av nv cv, .int .i64 s, .int .i64 ff] 41)) = WB at HAA BX HX0 ⊢
  clear HA
  with_reducible (refine (MO.out _ (HF.out.below HAA.out) (HM.out.below HAA.out)).mono ?_)
  rintro en w1 ⟨rfl, b1⟩
  have HB1 := Lib.hid (bthen HAA.out b1)
  have BX1 := Lib.hid ((b1.block _ (blk_lt BX.out)).trans BX.out)
  have HX1 := Lib.hid (HX0.out.below b1)
  obtain ⟨d0, d1, d2, d3, -⟩ := four_free BX1.out
  clear b1 BX HX0 HAA
  go_wp2_with fail
  with_reducible (refine (RI.out _ HX1.out.isn).mono ?_)
  rintro en w2 ⟨rfl, b2⟩
  have HB2 := Lib.hid (bthen HB1.out b2)
  have BX2 := Lib.hid ((b2.block _ (blk_lt BX1.out)).trans BX1.out)
  clear b2 BX1 HX1 HB1 d0 d1 d2 d3
  obtain ⟨d0, d1, d2, d3, -⟩ := four_free BX2.out
  go_wp2_with fail
  with_reducible (refine (WI.out _ HB2.out).mono ?_)
  rintro en w3 ⟨rfl, b3⟩
  have HB3 := Lib.hid (bthen HB2.out b3)
  clear b3 BX2 HB2 d0 d1 d2 d3
  go_wp2_with fail
  go_ret3
  exact ⟨rfl, HB3.out⟩

/-- large, in the mode Saturate -/
theorem large_sat (n : Nat) (k wd mn bs : Int) (tp nf nn p : Nat) (neg : Bool) (w : World)
    (MO : Hid (∀ w', Below w.heap.size w w' → Calls Tryz.prog 49 #[.int .i64 n, .bool neg] w' fun e w'' => e = .returned (.tuple #[.int .u64 tp, .int .i64 0]) ∧ Below w'.heap.size w' w''))
    (PT : Hid (∀ w', Below w.heap.size w w' → Calls Tryz.prog 31 #[.int .i64 n, .bool neg, .int .u64 tp] w' fun en w'' => en = .returned (.tuple #[.int .u64 p, .int .i64 0]) ∧ Below w'.heap.size w' w'')) :
    Calls Tryz.prog 30 #[fv k wd mn bs tp nf nn, .int .i64 n, .int .i64 1, .bool neg] w fun en w' => en = .returned (.int .u64 p) ∧ Below w.heap.size w w' := by
  have HA := Lib.hid (bgrow (Below.refl w.heap.size w) (fbox k wd mn bs tp nf nn))
  unfold fv fbox at *
  go_enter Tryz.func30, Tryz.ntmps30
  go_wp2_with fail
  with_reducible (refine (MO.out _ HA.out).mono ?_)
  rintro e w1 ⟨rfl, b1⟩
  have HB1 := Lib.hid (bthen HA.out b1)
  clear b1
  go_wp2_with fail
  with_reducible (refine (PT.out _ HB1.out).mono ?_)
  rintro e w2 ⟨rfl, b2⟩
  have HB2 := Lib.hid (bthen HB1.out b2)
  clear b2
  go_wp2_with fail
  go_ret
  exact ⟨rfl, HB2.out⟩

/-- Round of a number that is too large, in the mode Saturate -/
theorem round_over (n : Nat) (k wd mn bs : Int) (tp nf nn p : Nat) (neg : Bool) (v : Value) (s ff : Int) (N : Nat) (w : World) (hn : 1 ≤ n) (hn2 : n < 15) (h : FormAt w n k wd mn bs tp nf nn) (k4 : (k == 4) = false) (hx : XOk w v N s ff) (hs5 : -5000 ≤ s ∧ s ≤ 5000) (hf5 : -5000 ≤ ff ∧ ff ≤ 5000) (hfit : fitB N = true)
    (NE : Hid (∀ w', Below w.heap.size w w' → Calls Tryz.prog 29 #[.int .i64 n, .bool neg, xv neg v s ff] w' fun en w'' => en = .returned (.tuple #[.int .u64 tp, .bool true, .int .i64 0]) ∧ Below w'.heap.size w' w''))
    (LA : Hid (∀ w', Below w.heap.size w w' → Calls Tryz.prog 30 #[fv k wd mn bs tp nf nn, .int .i64 n, .int .i64 1, .bool neg] w' fun en w'' => en = .returned (.int .u64 p) ∧ Below w'.heap.size w' w'')) :
    Calls Tryz.prog 11 #[.int .i64 n, .int .i64 1, xv neg v s ff] w fun en w' => en = .returned (.tuple #[.int .u64 p, .int .i64 0]) ∧ Below w.heap.size w w' := by
  obtain ⟨Av, nv, cv, rfl, -⟩ := nlen hx.isn
  have HX := Lib.hid hx
  have HA := Lib.hid (bgrow (Below.refl w.heap.size w) (xbox neg (.slice Av nv cv) s ff))
  have BX : Hid ((w.alloc (xbox neg (.slice Av nv cv) s ff)).heap[w.heap.size]? = some (.cells #[.bool neg, .slice Av nv cv, .int .i64 s, .int .i64 ff] 41 (0, 0))) := Lib.hid (Deep.blk_alloc_new _ _)
  have FO := Lib.hid (fun w' h1 => form_of n k wd mn bs tp nf nn w' hn hn2 h1)
  have HF := Lib.hid h
  have hin : (fitB N && (inB s && inB ff)) = true := by
    rw [hfit]
    unfold inB
    simp; omega
  have RI := Lib.hid (fun w' h => right_N neg (.slice Av nv cv) N s ff true w' h hin)
  clear h hn hn2 hx hin hfit hs5 hf5
  unfold xv xbox fv at *
  go_enter Tryz.func11, Tryz.ntmps11
  go_wp2_with fail
  have HX0 := Lib.hid (HX.out.below HA.out)
  have HAA : Hid (Below w.heap.size w (w.alloc (.cells #[.bool neg, .slice Av nv cv, .int .i64 s, .int .i64 ff] 41))) := HA
  generalize (w.alloc (.cells #[.bool neg, .slice Av nv cv, .int .i64 s, .int .i64 ff] 41)) = WB at HAA BX HX0 ⊢
  clear HA
  with_reducible (refine (FO.out _ (HF.out.below HAA.out)).mono ?_)
  rintro en w1 ⟨rfl, b1⟩
  have HB1 := Lib.hid (bgrow (bthen HAA.out b1) (fbox k wd mn bs tp nf nn))
  have BX1 := Lib.hid ((Deep.blk_alloc_lt w1 (fbox k wd mn bs tp nf nn) _ (blk_lt ((b1.block _ (blk_lt BX.out)).trans BX.out))).trans ((b1.block _ (blk_lt BX.out)).trans BX.out))
  have HX1 := Lib.hid ((HX0.out.below b1).below (bgrow (Below.refl _ _) (fbox k wd mn bs tp nf nn)))
  have FX1 : Hid ((w1.alloc (fbox k wd mn bs tp nf nn)).heap[w1.heap.size]? = some (.cells #[.int .i64 k, .int .i64 wd, .int .i64 mn, .int .i64 bs, .int .u64 tp, .int .u64 nf, .int .u64 nn] 56 (0, 0))) := Lib.hid (Deep.blk_alloc_new _ _)
  clear b1 BX HX0 HAA
  unfold fbox at HB1 BX1 HX1 FX1
  obtain ⟨d0, d1, d2, d3, -⟩ := four_free BX1.out
  go_wp2_with fail
  generalize (w1.alloc (.cells #[.int .i64 k, .int .i64 wd, .int .i64 mn, .int .i64 bs, .int .u64 tp, .int .u64 nf, .int .u64 nn] 56)) = WF at HB1 BX1 HX1 FX1 d0 d1 d2 d3 ⊢
  with_reducible (refine (RI.out _ HX1.out.isn).mono ?_)
  rintro en w2 ⟨rfl, b2⟩
  have HB2 := Lib.hid (bthen HB1.out b2)
  have BX2 := Lib.hid ((b2.block _ (blk_lt BX1.out)).trans BX1.out)
  have FX2 := Lib.hid ((b2.block _ (blk_lt FX1.out)).trans FX1.out)
  clear b2 BX1 HX1 HB1 d0 d1 d2 d3 FX1
  obtain ⟨d0, d1, d2, d3, -⟩ := four_free BX2.out
  obtain ⟨g0, g1, g2, g3, g4, g5, g6⟩ := seven_cells FX2.out
  go_wp2_with fail
  with_reducible (refine (NE.out _ HB2.out).mono ?_)
  rintro en w3 ⟨rfl, b3⟩
  have HB3 := Lib.hid (bthen HB2.out b3)
  have BX3 := Lib.hid ((b3.block _ (blk_lt BX2.out)).trans BX2.out)
  have FX3 := Lib.hid ((b3.block _ (blk_lt FX2.out)).trans FX2.out)
  clear b3 BX2 HB2 d0 d1 d2 d3 g0 g1 g2 g3 g4 g5 g6 FX2
  obtain ⟨d0, d1, d2, d3, -⟩ := four_free BX3.out
  obtain ⟨g0, g1, g2, g3, g4, g5, g6⟩ := seven_cells FX3.out
  go_wp2_with fail
  with_reducible (refine (LA.out _ HB3.out).mono ?_)
  rintro en w4 ⟨rfl, b4⟩
  have HB4 := Lib.hid (bthen HB3.out b4)
  clear b4
  go_wp2_with fail
  go_ret2
  exact ⟨rfl, HB4.out⟩
end Go.Proofs.YtlmeobokpibifaaGreatDoor
end

section
set_option linter.unusedSimpArgs false
set_option linter.unusedVariables false
set_option linter.unusedVariables false
namespace Go.Proofs.YtlmeobokpibifaaGreatDoor
open Go.RowKit

theorem bytes_below {w w' : World} {bk : Nat} {s : ByteArray} (h : Lib.Bytes w bk 0 s) (hb : Below w.heap.size w w') (hbk : bk < w.heap.size) : Lib.Bytes w' bk 0 s := fun i hi => (hb.cell (p := ⟨bk, 0 + i, none⟩) hbk).trans (h i hi)
theorem conv_back (l : List UInt8) (bk c : Nat) (w : World) (h : Lib.Bytes w bk 0 ⟨l.toArray⟩) : (convert 64 9 (.slice (some ⟨bk, 0, none⟩) l.length c)).run Tryz.prog w = .ok (.string ⟨l.toArray⟩) w := by
  have h1 := Lib.run_convert_whole (P := Tryz.prog) w 64 5 9 (by kernel_rfl) (by kernel_rfl) (by kernel_rfl) bk 0 ⟨l.toArray⟩ h c
  have e : (⟨l.toArray⟩ : ByteArray).size = l.length := by show l.toArray.size = _; simp
  rw [e] at h1
  exact h1
/-- Scan of a text that number reads -/
theorem scan_bytes (l ds : List UInt8) (neg : Bool) (p : Nat) (d : UInt8) (beh ex en df k : Int) (N bk c : Nat) (w : World) (hbk : bk < w.heap.size) (hB : Lib.Bytes w bk 0 ⟨l.toArray⟩)
    (hp : Lib.hasPrefix l [45] = neg) (hpp : p = if neg then 1 else 0) (hd : l[p]? = some d) (h1 : 48 ≤ d.toNat) (h2 : d.toNat ≤ 57) (hl : l.length ≤ 1000) (hdf : IntKind.i64.wrap (ex - beh) = df)
    (NU : Hid (∀ w', Calls Tryz.prog 40 #[tv l, .int .i64 p] w' fun e w'' => e = .returned (.tuple #[tv ds, .int .i64 beh, .int .i64 ex, .int .i64 en, .bool true]) ∧ Below w'.heap.size w' w''))
    (IT : Hid (∀ w', Calls Tryz.prog 41 #[tv ds, .int .i64 df] w' fun en w'' => (∃ A n c, en = .returned (itv 1 false (.slice A n c) k 0 false) ∧ IsN w'' (.slice A n c) N) ∧ Below w'.heap.size w' w'')) :
    Calls Tryz.prog 19 #[.slice (some ⟨bk, 0, none⟩) l.length c] w fun en w' => (∃ A n c, en = .returned (.tuple #[itv 1 neg (.slice A n c) k 0 false, .int .i64 0, .int .i64 0]) ∧ IsN w' (.slice A n c) N) ∧ Below w.heap.size w w' :=
  scan_of l ds neg p d beh ex en df k N bk c l.length w rfl hbk (fun w' hb => conv_back l bk c w' (bytes_below hB hb hbk)) hp hpp hd h1 h2 hl hdf NU IT
end Go.Proofs.YtlmeobokpibifaaGreatDoor
end

section
set_option linter.unusedSimpArgs false
set_option linter.unusedVariables false
set_option linter.unusedVariables false
namespace Go.Proofs.YtlmeobokpibifaaGreatDoor
open Go.RowKit

set_option maxHeartbeats 400000 in
theorem tapered_half (k wd ws mn bs : Int) (tp nf nn kk : Nat) (mm ee : Int) (w : World) (hw : IntKind.i64.wrap (wd + 1) = ws)
    (V : Hid (∀ w', Below w.heap.size w w' → Calls Tryz.prog 178 #[.int .i64 ws, .int .u64 kk] w' fun e w'' => e = .returned (.tuple #[.int .u64 mm, .int .i64 ee, .int .i64 0]) ∧ Below w'.heap.size w' w'')) :
    Calls Tryz.prog 177 #[fv k wd mn bs tp nf nn, .int .i64 1, .int .u64 kk] w fun e w' => e = .returned (.tuple #[.int .u64 mm, .int .i64 ee]) ∧ Below w.heap.size w w' := by
  have HA := Lib.hid (bgrow (Below.refl w.heap.size w) (.cells #[.int .i64 k, .int .i64 wd, .int .i64 mn, .int .i64 bs, .int .u64 tp, .int .u64 nf, .int .u64 nn] 56))
  unfold fv
  go_enter Tryz.func177, Tryz.ntmps177
  go_wp2_with fail
  with_reducible (refine (V.out _ HA.out).mono ?_)
  rintro e w1 ⟨rfl, b1⟩
  have HB := Lib.hid (bthen HA.out b1)
  clear b1
  go_wp2_with fail
  go_ret2
  exact ⟨rfl, HB.out⟩

theorem between_tapered (n : Nat) (wd ws mn bs : Int) (tp nf nn m key kk : Nat) (mm ee : Int) (w : World) (hn : 1 ≤ n) (hn2 : n < 15) (h : FormAt w n 1 wd mn bs tp nf nn) (hm : NumAt w m 1 177) (hk : key ≤ tp) (hkk : 2 * key + 1 = kk) (h5 : kk < 9223372036854775808) (hw : IntKind.i64.wrap (wd + 1) = ws)
    (V : Hid (∀ w', Below w.heap.size w w' → Calls Tryz.prog 178 #[.int .i64 ws, .int .u64 kk] w' fun e w'' => e = .returned (.tuple #[.int .u64 mm, .int .i64 ee, .int .i64 0]) ∧ Below w'.heap.size w' w'')) :
    Calls Tryz.prog 82 #[.int .i64 n, .int .u64 key] w fun e w' => e = .returned (.tuple #[.int .u64 mm, .int .i64 ee, .int .i64 0]) ∧ Below w.heap.size w w' := by
  have FT := Lib.hid (vfits_yes n 1 wd mn bs tp nf nn m 177 key w hn hn2 h hm rfl hk)
  have N := Lib.hid (fun w' hb => tapered_half 1 wd ws mn bs tp nf nn kk mm ee w' hw (Lib.hid (fun w'' hb' => V.out w'' (bthen hb hb'))))
  have w1 : IntKind.u64.wrap (2 * (key : Int)) = 2 * (key : Int) := IntWalk.u64_in _ (by omega)
  have hki : 2 * (key : Int) + 1 = (kk : Int) := by omega
  have hkb : kk < 18446744073709551616 := by omega
  clear h hm hn hn2 hkk V
  unfold shv fv at *
  go_enter Tryz.func82, Tryz.ntmps82
  go_wp2_with fail
  with_reducible (refine FT.out.mono ?_)
  rintro e w1 ⟨rfl, b1⟩
  have HB := Lib.hid (bgrow b1 (shbox 1 wd mn bs tp nf nn 177))
  clear b1
  unfold shbox at *
  go_wp2_with (with_reducible show wpList _ _ _ ({ dst := none, op := Op.store 70 (Operand.tmp 7) (Operand.tmp 12), type := _, pos := _, after := _, guard := none } :: _) _ _; refine store8_new (.tmp 7) (.tmp 12) 1 wd mn bs tp nf nn 177 rfl rfl (by simp [Act.eval]) (by simp [Act.eval]) ?_)
  with_reducible (refine (N.out _ HB.out).mono ?_)
  rintro e w2 ⟨rfl, b2⟩
  have HB2 := Lib.hid (bthen HB.out b2)
  clear b2
  go_wp2_with fail
  go_ret3
  exact ⟨rfl, HB2.out⟩

theorem fit_small {N : Nat} (h : N < 2 ^ 200) : fitB N = true := decide_eq_true (Nat.lt_of_lt_of_le h (Nat.pow_le_pow_right (by decide) (by decide)))
/-- where all lies that posits of 8 bits are reckoned by -/
structure PW (w : World) (m : Nat) : Prop where
  form : FormAt w 1 1 8 0 0 127 0 128
  num : NumAt w m 1 177
  tab : Tab w
  lt : 12 < w.heap.size
theorem PW.below {w w' : World} {m : Nat} (h : PW w m) (hb : Below w.heap.size w w') : PW w' m :=
  ⟨h.form.below hb, h.num.below hb, h.tab.below h.lt hb, Nat.lt_of_lt_of_le h.lt hb.size⟩
theorem posbetween (m : Nat) (w : World) (h : PW w m) :
    Calls Tryz.prog 82 #[.int .i64 ((1 : Nat) : Int), .int .u64 ((127 : Nat) : Int)] w fun e w' => e = .returned (.tuple #[.int .u64 ((1 : Nat) : Int), .int .i64 28, .int .i64 0]) ∧ Below w.heap.size w w' :=
  between_tapered 1 8 9 0 0 127 0 128 m 127 255 ((1 : Nat) : Int) 28 w (by decide) (by decide) h.form h.num (by decide) (by decide) (by decide) (by decide)
    (Lib.hid (fun w' hb => posValue_top w' (h.tab.below h.lt hb) (Nat.lt_of_lt_of_le h.lt hb.size)))
theorem posbehind (m : Nat) (w : World) (h : PW w m) :
    Calls Tryz.prog 57 #[.int .i64 ((1 : Nat) : Int), .int .u64 ((127 : Nat) : Int)] w fun en w' => (∃ A n c, en = .returned (xv false (.slice A n c) 28 0) ∧ IsN w' (.slice A n c) 1) ∧ Below w.heap.size w w' :=
  behind_by 1 127 1 28 w (Lib.hid (fun w' hb => posbetween m w' (h.below hb))) (by decide) (by decide) (by decide)
theorem poscmp : xcmp 1 99 99 1 28 0 = 1 := xcmp_of (by decide) (by decide) (by decide) (by decide) (by decide)
theorem poswithin (m : Nat) (neg : Bool) (v : Value) (w : World) (h : PW w m) (hx : XOk w v 1 99 99) :
    Calls Tryz.prog 50 #[.int .i64 ((1 : Nat) : Int), xv neg v 99 99, .int .u64 ((127 : Nat) : Int)] w fun en w' => en = .returned (.bool false) ∧ Below w.heap.size w w' :=
  within_by 1 neg v 99 99 1 127 1 28 1 w hx (by decide) (Lib.hid (fun w' hb => posbehind m w' (h.below hb))) (by decide) (by decide) poscmp
theorem posround (m : Nat) (v : Value) (w : World) (h : PW w m) (hx : XOk w v 1 99 99) :
    Calls Tryz.prog 11 #[.int .i64 ((1 : Nat) : Int), .int .i64 1, xv true v 99 99] w fun en w' => en = .returned (.tuple #[.int .u64 ((129 : Nat) : Int), .int .i64 0]) ∧ Below w.heap.size w w' :=
  round_over 1 1 8 0 0 127 0 128 129 true v 99 99 1 w (by decide) (by decide) h.form (by decide) hx (by decide) (by decide) (fit_small (by decide))
    (Lib.hid (fun w' hb => near_over 1 1 8 0 0 127 0 128 m 177 true v 99 99 1 w' (by decide) (by decide) (h.below hb).form (h.below hb).num (by decide) (by decide) (hx.below hb) (by decide) (by decide) (fit_small (by decide))
      (Lib.hid (fun w'' hb' => poswithin m true v w'' ((h.below hb).below hb') ((hx.below hb).below hb')))))
    (Lib.hid (fun w' hb => large_sat 1 1 8 0 0 127 0 128 129 true w'
      (Lib.hid (fun w'' hb' => most_any 1 1 8 0 0 127 0 128 m 177 true w'' (by decide) (by decide) ((h.below hb).below hb').form ((h.below hb).below hb').num (by decide) (by decide)))
      (Lib.hid (fun w'' hb' => pattern_tap 1 8 0 0 127 0 128 m 177 127 255 129 w'' (by decide) (by decide) ((h.below hb).below hb').form ((h.below hb).below hb').num (by decide) (by decide) (by decide) (by decide)))))
theorem xok_of {w : World} {v : Value} {N : Nat} {s f : Int} (h : IsN w v N) (hb : bitsN N ≤ 100000) (h1 : -10000 ≤ s ∧ s ≤ 10000) (h2 : -10000 ≤ f ∧ f ≤ 10000) : XOk w v N s f := ⟨h, hb, h1.1, h1.2, h2.1, h2.2⟩
theorem posparse (m : Nat) (w : World) (h : PW w m) :
    Calls Tryz.prog 8 #[.int .i64 ((1 : Nat) : Int), .int .i64 1, tv [45, 49, 101, 57, 57]] w fun en w' => en = .returned (.tuple #[.int .u64 ((129 : Nat) : Int), .int .i64 0, .int .i64 0]) ∧ Below w.heap.size w w' :=
  parse_of 1 1 1 8 0 0 127 0 128 1 129 true 99 [45, 49, 101, 57, 57] w (by decide) (by decide) h.form (Or.inl rfl) (fit_small (by decide)) (by decide)
    (Lib.hid (fun bk c w' hb hbk hB => scan_bytes [45, 49, 101, 57, 57] [49] true 1 49 0 99 5 99 99 1 bk c w' hbk hB (by decide) (by decide) (by decide) (by decide) (by decide) (by decide) (by decide)
      (Lib.hid (fun w'' => num_exp w''))
      (Lib.hid (fun w'' => item_num [49] [49] 99 1 w'' (by decide) (by decide) (by decide) (by decide) (by decide) (Lib.hid (fun w3 => np_1 49 1 w3 (by decide) (by decide) (by decide) (by decide)))))))
    (Lib.hid (fun A mm c w' hb hi => posround m _ w' (h.below hb) (xok_of hi (by decide) (by decide) (by decide))))
end Go.Proofs.YtlmeobokpibifaaGreatDoor
end

section
set_option linter.unusedSimpArgs false
set_option linter.unusedVariables false
set_option linter.unusedVariables false
namespace Go.Proofs.YtlmeobokpibifaaGreatDoor
open Go.RowKit

theorem sf_double : SF 64 52 1023 9218868437227405311 := ⟨by decide, by decide, by decide, by decide, by decide, by decide, by decide, by decide, by decide⟩
/-- the boundaries of a rounding, by small powers -/
theorem wi_at {man key N : Nat} {bs s f : Int} (d : Nat) {r : Bool} (hm : man ≤ 60) (h1 : -2000 ≤ bs) (h2 : bs ≤ 2000) (hs : -5000 ≤ s) (hf : -5000 ≤ f ∧ f ≤ 0) (hd : -(d : Int) ≤ s ∧ -(d : Int) ≤ -bs - man ∧ -(d : Int) ≤ f ∧ d ≤ 5000)
    (h : wi man (N * 5 ^ (f + d).toNat * 2 ^ (s + d).toNat) (5 ^ d * 2 ^ (-bs - man + d).toNat) key = r) : wi man (vx N s f) (unit man bs) key = r :=
  (wi_cut man key N bs s f d hm h1 h2 hs hf hd).trans h
theorem tenth_in : wi 52 (vx 1 (-1) (-1)) (unit 52 1023) 4591870180066957722 = true := wi_at 1075 (by decide) (by decide) (by decide) (by decide) (by decide) (by decide) (by kernel_rfl)
theorem tenth_out : wi 52 (vx 1 (-1) (-1)) (unit 52 1023) 4591870180066957721 = false := wi_at 1075 (by decide) (by decide) (by decide) (by decide) (by decide) (by decide) (by kernel_rfl)
abbrev DW (w : World) (m : Nat) : Prop := SW w 14 64 52 1023 9218868437227405311 9218868437227405312 9221120237041090560 m
theorem tenth_round (m : Nat) (v : Value) (w : World) (h : DW w m) (hx : XOk w v 1 (-1) (-1)) :
    Calls Tryz.prog 11 #[.int .i64 ((14 : Nat) : Int), .int .i64 2, xv false v (-1) (-1)] w fun en w' => en = .returned (.tuple #[.int .u64 ((4591870180066957722 : Nat) : Int), .int .i64 0]) ∧ Below w.heap.size w w' :=
  round_pos sf_double 2 v (-1) (-1) 1 4591870180066957722 (by decide) (by decide) (Or.inr rfl) tenth_in (Or.inr tenth_out) (by decide) (by decide) (by decide) (fit_small (by decide)) w h hx
theorem tenth_parse (m : Nat) (w : World) (h : DW w m) :
    Calls Tryz.prog 8 #[.int .i64 ((14 : Nat) : Int), .int .i64 2, tv [48, 46, 49]] w fun en w' => en = .returned (.tuple #[.int .u64 ((4591870180066957722 : Nat) : Int), .int .i64 0, .int .i64 0]) ∧ Below w.heap.size w w' :=
  parse_of 14 2 2 64 52 1023 9218868437227405311 9218868437227405312 9221120237041090560 1 4591870180066957722 false (-1) [48, 46, 49] w (by decide) (by decide) h.form (Or.inr rfl) (fit_small (by decide)) (by decide)
    (Lib.hid (fun bk c w' hb hbk hB => scan_bytes [48, 46, 49] [48, 49] false 0 48 1 0 3 (-1) (-1) 1 bk c w' hbk hB (by decide) (by decide) (by decide) (by decide) (by decide) (by decide) (by decide)
      (Lib.hid (fun w'' => num_de 48 49 w'' (by decide) (by decide) (by decide) (by decide)))
      (Lib.hid (fun w'' => item_num [48, 49] [49] (-1) 1 w'' (by decide) (by decide) (by decide) (by decide) (by decide) (Lib.hid (fun w3 => np_1 49 1 w3 (by decide) (by decide) (by decide) (by decide)))))))
    (Lib.hid (fun A mm c w' hb hi => tenth_round m _ w' (h.below hb) (xok_of hi (by decide) (by decide) (by decide))))

theorem tenth_pattern : PT 64 4591870180066957722 4591870180066957722 18446744073709551615 9223372036854775807 9223372036854775808 false :=
  ⟨by decide, by decide, by decide, by decide, fun _ => ⟨by decide, rfl⟩, fun h => nomatch h⟩
theorem tenth_log : Lg 3602879701896397 (-55) 0 (-1) :=
  lg_of (by decide) (by decide) (by rw [xcmp_of (c := 1) (by decide) (by decide) (by decide) (by decide) (by kernel_rfl)]; decide) (xcmp_of (by decide) (by decide) (by decide) (by decide) (by kernel_rfl))
theorem tenth_near (j : Int) (h1 : -1 ≤ j) (h2 : j ≤ -1) : ∃ D', NRok 3602879701896397 (-55) j 14411518807585587 (-57) 14411518807585589 (-57) true D' (decide (j = -1)) ∧ (j = -1 → D' = 1) := by
  obtain rfl : j = -1 := by omega
  have F := flo_of (M := 3602879701896397) (s := -55) (f := 0) (k := -1) (D := 1) (R := 1) (by decide) (by decide) (by decide) (by kernel_rfl) (by kernel_rfl)
  have x1 : xcmp 1 (-1) (-1) 14411518807585587 (-57) 0 = 1 := xcmp_of (by decide) (by decide) (by decide) (by decide) (by kernel_rfl)
  have x2 : xcmp 1 (-1) (-1) 14411518807585589 (-57) 0 = -1 := xcmp_of (by decide) (by decide) (by decide) (by decide) (by kernel_rfl)
  have x3 : xcmp 2 (-1) (-1) 14411518807585587 (-57) 0 = 1 := xcmp_of (by decide) (by decide) (by decide) (by decide) (by kernel_rfl)
  have x4 : xcmp 2 (-1) (-1) 14411518807585589 (-57) 0 = 1 := xcmp_of (by decide) (by decide) (by decide) (by decide) (by kernel_rfl)
  refine ⟨1, ⟨F.1, ?_, Or.inr ⟨?_, ?_⟩, by decide⟩, fun _ => rfl⟩
  · unfold hasU
    rw [if_neg (by decide), x1, x2]
    decide
  · rw [F.2]; decide
  · unfold hasU
    rw [if_neg (by decide), x3, x4]
    decide
theorem tenth_print (m : Nat) (w : World) (h : DW w m) :
    Calls Tryz.prog 7 #[.int .i64 ((14 : Nat) : Int), .int .u64 ((4591870180066957722 : Nat) : Int)] w fun e w' => e = .returned (.tuple #[tv [48, 46, 49], .int .i64 0]) ∧ Below w.heap.size w w' :=
  print_signed sf_double tenth_pattern 1 3602879701896397 14411518807585587 14411518807585589 1 (-55) (-57) (-57) (-1) (-1) true [48, 46, 49] (by decide) (by decide) (by decide) (by decide) (by decide) (by kernel_rfl) (by decide) (by decide) (by kernel_rfl) (by decide) (Or.inl ⟨by decide, by kernel_rfl, by decide⟩) (by decide) tenth_log (by decide) (by decide) (by decide) (by decide) (by decide) tenth_near
    (Lib.hid (fun v w' hi => layout_tenth false v 1 49 w' hi (by decide) (by decide) (by decide) (by kernel_rfl))) w h
end Go.Proofs.YtlmeobokpibifaaGreatDoor
end

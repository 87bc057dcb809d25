/- package value's Most, fits, Between; the way of the kind Signed. Conditions: as each theorem names them. package value's Pattern, Decode, Key. Conditions: as each theorem names them. package value's Decode, Key, of the kind Signed. Conditions: as each theorem names them. -/
import Derived.Test.YtlmeobokpibifaaGreatDoorG09
section
set_option linter.unusedSimpArgs false
set_option linter.unusedVariables false
set_option linter.unusedVariables false
namespace Go.Proofs.YtlmeobokpibifaaGreatDoor
open Go.RowKit

abbrev shnil : Obj := .cells #[.int .i64 0, .int .i64 0, .int .i64 0, .int .i64 0, .int .u64 0, .int .u64 0, .int .u64 0, .nilFunc] 70
theorem new8 (w : World) (k wd mn bs : Int) (tp nf nn f : Nat) : (w.alloc shnil).setCells w.heap.size 0 [.int .i64 k, .int .i64 wd, .int .i64 mn, .int .i64 bs, .int .u64 tp, .int .u64 nf, .int .u64 nn, .func (.func f) #[] #[]] = w.alloc (shbox k wd mn bs tp nf nn f) := by
  simp [World.setCells, go_sem]
theorem store8_new {ops : Array Oper} {rest : List Oper} {op : Oper} {a : Act} {w : World} {Q : Exit → Act → World → Prop} (x y : Operand) (k wd mn bs : Int) (tp nf nn f : Nat) (hgd : op.guard = none) (ho : op.op = .store 70 x y) (hx : a.eval x = .pointer (some ⟨w.heap.size, 0, none⟩)) (hy : a.eval y = .agg #[.int .i64 k, .int .i64 wd, .int .i64 mn, .int .i64 bs, .int .u64 tp, .int .u64 nf, .int .u64 nn, .func (.func f) #[] #[]])
    (h : wpList Tryz.prog ops Q rest (a.put op.dst undef) (w.alloc (.cells #[.int .i64 k, .int .i64 wd, .int .i64 mn, .int .i64 bs, .int .u64 tp, .int .u64 nf, .int .u64 nn, .func (.func f) #[] #[]] 70))) : wpList Tryz.prog ops Q (op :: rest) a (w.alloc (.cells #[.int .i64 0, .int .i64 0, .int .i64 0, .int .i64 0, .int .u64 0, .int .u64 0, .int .u64 0, .nilFunc] 70)) := by
  refine store8 w.heap.size x y k wd mn bs tp nf nn f hgd ho hx hy (there_of (Deep.blk_alloc_new _ _)) ?_
  rw [new8]
  exact h
theorem most_any (n : Nat) (k wd mn bs : Int) (tp nf nn m f : Nat) (neg : Bool) (w : World) (hn : 1 ≤ n) (hn2 : n < 15) (h : FormAt w n k wd mn bs tp nf nn) (hm : NumAt w m k f) (k4 : (k == 4) = false) (k3 : (k == 3) = false) :
    Calls Tryz.prog 49 #[.int .i64 n, .bool neg] w fun e w' => e = .returned (.tuple #[.int .u64 tp, .int .i64 0]) ∧ Below w.heap.size w w' := by
  have SH := Lib.hid (shape_of n k wd mn bs tp nf nn m f w hn hn2 h hm)
  clear h hm hn hn2
  unfold shv at *
  cases neg with
  | false =>
    go_enter Tryz.func49, Tryz.ntmps49
    go_wp2_with fail
    with_reducible (refine SH.out.mono ?_)
    rintro e w1 ⟨rfl, b1⟩
    have HB := Lib.hid (bgrow b1 (shbox k wd mn bs tp nf nn f))
    clear b1
    go_wp2_with (with_reducible show wpList _ _ _ ({ dst := none, op := Op.store 70 (Operand.tmp 6) (Operand.tmp 11), type := _, pos := _, after := _, guard := none } :: _) _ _; refine store8_new (.tmp 6) (.tmp 11) k wd mn bs tp nf nn f rfl rfl (by simp [Act.eval]) (by simp [Act.eval]) ?_)
    go_ret2
    exact ⟨rfl, HB.out⟩
  | true =>
    go_enter Tryz.func49, Tryz.ntmps49
    go_wp2_with fail
    with_reducible (refine SH.out.mono ?_)
    rintro e w1 ⟨rfl, b1⟩
    have HB := Lib.hid (bgrow b1 (shbox k wd mn bs tp nf nn f))
    clear b1
    go_wp2_with (with_reducible show wpList _ _ _ ({ dst := none, op := Op.store 70 (Operand.tmp 6) (Operand.tmp 11), type := _, pos := _, after := _, guard := none } :: _) _ _; refine store8_new (.tmp 6) (.tmp 11) k wd mn bs tp nf nn f rfl rfl (by simp [Act.eval]) (by simp [Act.eval]) ?_)
    go_ret2
    exact ⟨rfl, HB.out⟩

set_option maxHeartbeats 400000 in
theorem vfits_yes (n : Nat) (k wd mn bs : Int) (tp nf nn m f key : Nat) (w : World) (hn : 1 ≤ n) (hn2 : n < 15) (h : FormAt w n k wd mn bs tp nf nn) (hm : NumAt w m k f) (k3 : (k == 3) = false) (hk : key ≤ tp) :
    Calls Tryz.prog 115 #[.int .i64 n, .int .u64 key] w fun e w' => e = .returned (.tuple #[shv k wd mn bs tp nf nn f, .int .i64 0]) ∧ Below w.heap.size w w' := by
  have HA := Lib.hid (bgrow (Below.refl w.heap.size w) shnil)
  have BX : Hid ((w.alloc shnil).heap[w.heap.size]? = some (.cells #[.int .i64 0, .int .i64 0, .int .i64 0, .int .i64 0, .int .u64 0, .int .u64 0, .int .u64 0, .nilFunc] 70 (0, 0))) := Lib.hid (Deep.blk_alloc_new _ _)
  have SH := Lib.hid (fun w' h1 h2 => shape_of n k wd mn bs tp nf nn m f w' hn hn2 h1 h2)
  have HF := Lib.hid h
  have HM := Lib.hid hm
  have u1 : decide (tp < key) = false := decide_eq_false (by omega)
  clear h hm hn hn2 hk
  unfold shv shnil at *
  go_enter Tryz.func115, Tryz.ntmps115
  go_wp2_with fail
  generalize (w.alloc (.cells #[.int .i64 0, .int .i64 0, .int .i64 0, .int .i64 0, .int .u64 0, .int .u64 0, .int .u64 0, .nilFunc] 70)) = WB at HA BX ⊢
  with_reducible (refine (SH.out _ (HF.out.below HA.out) (HM.out.below HA.out)).mono ?_)
  rintro e w1 ⟨rfl, b1⟩
  have HB1 := Lib.hid (bthen HA.out b1)
  have BX1 := Lib.hid ((b1.block _ (blk_lt BX.out)).trans BX.out)
  have hlt := blk_lt BX1.out
  have BX2 := (Deep.blk_alloc_lt w1 (shbox k wd mn bs tp nf nn f) _ hlt).trans BX1.out
  have HT : Hid ((w1.alloc (shbox k wd mn bs tp nf nn f)).there w.heap.size 0 8) := Lib.hid (there_of BX2)
  have HP := Lib.hid (put8 (a' := .int .i64 k) (b' := .int .i64 wd) (c' := .int .i64 mn) (d' := .int .i64 bs) (e' := .int .u64 tp) (f' := .int .u64 nf) (h' := .int .u64 nn) (i' := .func (.func f) #[] #[]) BX2)
  have HB2 := Lib.hid (below_setCells (g := w.heap.size) (Nat.le_refl _) [.int .i64 k, .int .i64 wd, .int .i64 mn, .int .i64 bs, .int .u64 tp, .int .u64 nf, .int .u64 nn, .func (.func f) #[] #[]] 0 _ (bgrow HB1.out (shbox k wd mn bs tp nf nn f)))
  unfold shbox at *
  clear b1 BX2 hlt BX
  go_wp2_with (first | (with_reducible show wpList _ _ _ ({ dst := none, op := Op.store 70 (Operand.tmp 6) (Operand.tmp 12), type := _, pos := _, after := _, guard := none } :: _) _ _; refine store8_new (.tmp 6) (.tmp 12) k wd mn bs tp nf nn f rfl rfl (by simp [Act.eval]) (by simp [Act.eval]) ?_) | (with_reducible show wpList _ _ _ ({ dst := none, op := Op.store 70 (Operand.tmp 4) (Operand.tmp 31), type := _, pos := _, after := _, guard := none } :: _) _ _; refine store8 w.heap.size (.tmp 4) (.tmp 31) k wd mn bs tp nf nn f rfl rfl (by simp [Act.eval]) (by simp [Act.eval]) HT.out ?_; generalize ((w1.alloc (.cells #[.int .i64 k, .int .i64 wd, .int .i64 mn, .int .i64 bs, .int .u64 tp, .int .u64 nf, .int .u64 nn, .func (.func f) #[] #[]] 70)).setCells w.heap.size 0 [.int .i64 k, .int .i64 wd, .int .i64 mn, .int .i64 bs, .int .u64 tp, .int .u64 nf, .int .u64 nn, .func (.func f) #[] #[]]) = W2 at HP HB2 ⊢; obtain ⟨d0, d1, d2, d3, d4, d5, d6, d7⟩ := eight_cells HP.out))
  refine bodyPost_ret (v := .tuple #[.agg #[.int .i64 k, .int .i64 wd, .int .i64 mn, .int .i64 bs, .int .u64 tp, .int .u64 nf, .int .u64 nn, .func (.func f) #[] #[]], .int .i64 0]) (by simp [results, Tryz.results115, go_sem, d0, d1, d2, d3, d4, d5, d6, d7]) rfl ⟨rfl, HB2.out⟩

/-- the boundary behind a magnitude of the kind Signed, by the form's own way -/
theorem signed_half (wd : Int) (man : Nat) (bs : Int) (tp nf nn key kk : Nat) (w : World) (hT : Tab w) (hl : 12 < w.heap.size) (h1 : man ≤ 59) (hkk : 2 * key + 1 = kk) (hk : kk < 18446744073709551616) (h2 : key / 2 ^ man ≤ 4095) (h3 : -2000 ≤ bs) (h4 : bs ≤ 2000) :
    Calls Tryz.prog 179 #[fv 2 wd man bs tp nf nn, .int .i64 1, .int .u64 kk] w fun e w' => e = .returned (.tuple #[.int .u64 ((2 * sg man key + 1 : Nat) : Int), .int .i64 ((ex1 man key : Int) - bs - man)]) ∧ Below w.heap.size w w' := by
  subst hkk
  have V := Lib.hid (fun w' hT => value_half man key bs w' hT h1 hk h2 h3 h4)
  have HA := Lib.hid (bgrow (Below.refl w.heap.size w) (.cells #[.int .i64 2, .int .i64 wd, .int .i64 man, .int .i64 bs, .int .u64 tp, .int .u64 nf, .int .u64 nn] 56))
  have HT := Lib.hid (hT.below hl HA.out)
  obtain ⟨kk, hkk⟩ : ∃ kk, 2 * key + 1 = kk := ⟨_, rfl⟩
  obtain ⟨m1, hm1⟩ : ∃ m1, man + 1 = m1 := ⟨_, rfl⟩
  have hmi : (man : Int) + 1 = (m1 : Int) := by omega
  obtain ⟨ee, hee⟩ : ∃ ee : Int, (ex1 man key : Int) - bs - man = ee := ⟨_, rfl⟩
  obtain ⟨mm, hmm⟩ : ∃ mm, 2 * sg man key + 1 = mm := ⟨_, rfl⟩
  rw [hkk, hm1, hee, hmm] at V
  rw [hkk, hee, hmm]
  clear hT hk h2 hkk hm1 hee hmm
  unfold fv
  go_enter Tryz.func179, Tryz.ntmps179
  go_wp2_with fail
  with_reducible (refine (V.out _ HT.out).mono ?_)
  rintro e w1 ⟨rfl, b1⟩
  have HB := Lib.hid (bthen HA.out b1)
  clear b1
  go_wp2_with fail
  go_ret2
  exact ⟨rfl, HB.out⟩

theorem between_signed (n : Nat) (wd : Int) (man : Nat) (bs : Int) (tp nf nn m key : Nat) (w : World) (hn : 1 ≤ n) (hn2 : n < 15) (h : FormAt w n 2 wd man bs tp nf nn) (hm : NumAt w m 2 179) (hT : Tab w) (hl : 12 < w.heap.size) (hk : key ≤ tp) (h1 : man ≤ 59) (h5 : tp < 9223372036854775808) (h2 : key / 2 ^ man ≤ 4095) (h3 : -2000 ≤ bs) (h4 : bs ≤ 2000) :
    Calls Tryz.prog 82 #[.int .i64 n, .int .u64 key] w fun e w' => e = .returned (.tuple #[.int .u64 ((2 * sg man key + 1 : Nat) : Int), .int .i64 ((ex1 man key : Int) - bs - man), .int .i64 0]) ∧ Below w.heap.size w w' := by
  obtain ⟨kk, hkk⟩ : ∃ kk, 2 * key + 1 = kk := ⟨_, rfl⟩
  have FT := Lib.hid (vfits_yes n 2 wd man bs tp nf nn m 179 key w hn hn2 h hm rfl hk)
  have N := Lib.hid (fun w' hT hl => signed_half wd man bs tp nf nn key kk w' hT hl h1 hkk (by omega) h2 h3 h4)
  have HT := Lib.hid (And.intro hT hl)
  have w1 : IntKind.u64.wrap (2 * (key : Int)) = 2 * (key : Int) := IntWalk.u64_in _ (by omega)
  have hki : 2 * (key : Int) + 1 = (kk : Int) := by omega
  have hkb : kk < 18446744073709551616 := by omega
  obtain ⟨ee, hee⟩ : ∃ ee : Int, (ex1 man key : Int) - bs - man = ee := ⟨_, rfl⟩
  obtain ⟨mm, hmm⟩ : ∃ mm, 2 * sg man key + 1 = mm := ⟨_, rfl⟩
  rw [hee, hmm] at N
  rw [hee, hmm]
  clear h hm hT hl hn hn2 h2 hkk hee hmm
  unfold shv fv at *
  go_enter Tryz.func82, Tryz.ntmps82
  go_wp2_with fail
  with_reducible (refine FT.out.mono ?_)
  rintro e w1 ⟨rfl, b1⟩
  have HB := Lib.hid (bgrow b1 (shbox 2 wd man bs tp nf nn 179))
  have HT1 := Lib.hid (HT.out.1.below HT.out.2 HB.out)
  have HL1 := Lib.hid (Nat.lt_of_lt_of_le HT.out.2 HB.out.size)
  clear b1 HT
  unfold shbox at *
  go_wp2_with (with_reducible show wpList _ _ _ ({ dst := none, op := Op.store 70 (Operand.tmp 7) (Operand.tmp 12), type := _, pos := _, after := _, guard := none } :: _) _ _; refine store8_new (.tmp 7) (.tmp 12) 2 wd man bs tp nf nn 179 rfl rfl (by simp [Act.eval]) (by simp [Act.eval]) ?_)
  with_reducible (refine (N.out _ HT1.out HL1.out).mono ?_)
  rintro e w2 ⟨rfl, b2⟩
  have HB2 := Lib.hid (bthen HB.out b2)
  clear b2
  go_wp2_with fail
  go_ret3
  exact ⟨rfl, HB2.out⟩
end Go.Proofs.YtlmeobokpibifaaGreatDoor
end

section
set_option linter.unusedSimpArgs false
set_option linter.unusedVariables false
set_option linter.unusedVariables false
namespace Go.Proofs.YtlmeobokpibifaaGreatDoor
open Go.RowKit

theorem pattern_pos (n : Nat) (k wd mn bs : Int) (tp nf nn m f key : Nat) (w : World) (hn : 1 ≤ n) (hn2 : n < 15) (h : FormAt w n k wd mn bs tp nf nn) (hm : NumAt w m k f) (k4 : (k == 4) = false) (k3 : (k == 3) = false) (hk : key ≤ tp) :
    Calls Tryz.prog 31 #[.int .i64 n, .bool false, .int .u64 key] w fun e w' => e = .returned (.tuple #[.int .u64 key, .int .i64 0]) ∧ Below w.heap.size w w' := by
  have MO := Lib.hid (most_any n k wd mn bs tp nf nn m f false w hn hn2 h hm k4 k3)
  have SH := Lib.hid (fun w' h1 h2 => shape_of n k wd mn bs tp nf nn m f w' hn hn2 h1 h2)
  have HF := Lib.hid h
  have HM := Lib.hid hm
  have u1 : decide (tp < key) = false := decide_eq_false (by omega)
  clear h hm hn hn2 hk
  unfold shv at *
  go_enter Tryz.func31, Tryz.ntmps31
  go_wp2_with fail
  with_reducible (refine MO.out.mono ?_)
  rintro e w1 ⟨rfl, b1⟩
  have HB1 := Lib.hid b1
  clear b1
  go_wp2_with fail
  with_reducible (refine (SH.out _ (HF.out.below HB1.out) (HM.out.below HB1.out)).mono ?_)
  rintro e w2 ⟨rfl, b2⟩
  have HB2 := Lib.hid (bgrow (bthen HB1.out b2) (shbox k wd mn bs tp nf nn f))
  clear b2
  go_wp2_with (with_reducible show wpList _ _ _ ({ dst := none, op := Op.store 70 (Operand.tmp 10) (Operand.tmp 27), type := _, pos := _, after := _, guard := none } :: _) _ _; refine store8_new (.tmp 10) (.tmp 27) k wd mn bs tp nf nn f rfl rfl (by simp [Act.eval]) (by simp [Act.eval]) ?_)
  go_ret2
  exact ⟨rfl, HB2.out⟩
theorem pattern_neg (n : Nat) (wd : Nat) (mn bs : Int) (tp nf nn m f key ms hs sn r : Nat) (w : World) (hn : 1 ≤ n) (hn2 : n < 15) (h : FormAt w n 2 wd mn bs tp nf nn) (hm : NumAt w m 2 f) (hk : key ≤ tp) (hw : wd ≤ 64) (hms : 2 ^ wd - 1 = ms) (hh : ms / 2 = hs) (hsn : bits .andNot .u64 (ms : Int) (hs : Int) = (sn : Int)) (hr : bits .or .u64 (key : Int) (sn : Int) = (r : Int)) :
    Calls Tryz.prog 31 #[.int .i64 n, .bool true, .int .u64 key] w fun e w' => e = .returned (.tuple #[.int .u64 r, .int .i64 0]) ∧ Below w.heap.size w w' := by
  have MO := Lib.hid (most_any n 2 wd mn bs tp nf nn m f true w hn hn2 h hm rfl rfl)
  have SH := Lib.hid (fun w' h1 h2 => shape_of n 2 wd mn bs tp nf nn m f w' hn hn2 h1 h2)
  have SG := Lib.hid (fun w' => sign_any 2 wd mn bs tp nf nn ms hs sn w' hw hms rfl hh hsn)
  have HF := Lib.hid h
  have HM := Lib.hid hm
  have u1 : decide (tp < key) = false := decide_eq_false (by omega)
  clear h hm hn hn2 hk hw hms hh hsn
  unfold shv fv at *
  go_enter Tryz.func31, Tryz.ntmps31
  go_wp2_with fail
  with_reducible (refine MO.out.mono ?_)
  rintro e w1 ⟨rfl, b1⟩
  have HB1 := Lib.hid b1
  clear b1
  go_wp2_with fail
  with_reducible (refine (SH.out _ (HF.out.below HB1.out) (HM.out.below HB1.out)).mono ?_)
  rintro e w2 ⟨rfl, b2⟩
  have HB2 := Lib.hid (bgrow (bthen HB1.out b2) (shbox 2 wd mn bs tp nf nn f))
  unfold shbox at HB2
  clear b2
  go_wp2_with (with_reducible show wpList _ _ _ ({ dst := none, op := Op.store 70 (Operand.tmp 10) (Operand.tmp 27), type := _, pos := _, after := _, guard := none } :: _) _ _; refine store8_new (.tmp 10) (.tmp 27) 2 wd mn bs tp nf nn f rfl rfl (by simp [Act.eval]) (by simp [Act.eval]) ?_)
  with_reducible (refine (SG.out _).mono ?_)
  rintro e w3 ⟨rfl, b3⟩
  have HB3 := Lib.hid (bthen HB2.out b3)
  clear b3
  go_wp2_with fail
  go_ret2
  exact ⟨rfl, HB3.out⟩
theorem pattern_tap (n : Nat) (wd : Nat) (mn bs : Int) (tp nf nn m f key ms r : Nat) (w : World) (hn : 1 ≤ n) (hn2 : n < 15) (h : FormAt w n 1 wd mn bs tp nf nn) (hm : NumAt w m 1 f) (hk : key ≤ tp) (hw : wd ≤ 64) (hms : 2 ^ wd - 1 = ms) (hr : bits .and .u64 (IntKind.u64.wrap (-(key : Int))) (ms : Int) = (r : Int)) :
    Calls Tryz.prog 31 #[.int .i64 n, .bool true, .int .u64 key] w fun e w' => e = .returned (.tuple #[.int .u64 r, .int .i64 0]) ∧ Below w.heap.size w w' := by
  have MO := Lib.hid (most_any n 1 wd mn bs tp nf nn m f true w hn hn2 h hm rfl rfl)
  have SH := Lib.hid (fun w' h1 h2 => shape_of n 1 wd mn bs tp nf nn m f w' hn hn2 h1 h2)
  have SG := Lib.hid (fun w' => mask_any 1 wd mn bs tp nf nn ms w' hw hms)
  have HF := Lib.hid h
  have HM := Lib.hid hm
  have u1 : decide (tp < key) = false := decide_eq_false (by omega)
  clear h hm hn hn2 hk hw hms
  unfold shv fv at *
  go_enter Tryz.func31, Tryz.ntmps31
  go_wp2_with fail
  with_reducible (refine MO.out.mono ?_)
  rintro e w1 ⟨rfl, b1⟩
  have HB1 := Lib.hid b1
  clear b1
  go_wp2_with fail
  with_reducible (refine (SH.out _ (HF.out.below HB1.out) (HM.out.below HB1.out)).mono ?_)
  rintro e w2 ⟨rfl, b2⟩
  have HB2 := Lib.hid (bgrow (bthen HB1.out b2) (shbox 1 wd mn bs tp nf nn f))
  unfold shbox at HB2
  clear b2
  go_wp2_with (with_reducible show wpList _ _ _ ({ dst := none, op := Op.store 70 (Operand.tmp 10) (Operand.tmp 27), type := _, pos := _, after := _, guard := none } :: _) _ _; refine store8_new (.tmp 10) (.tmp 27) 1 wd mn bs tp nf nn f rfl rfl (by simp [Act.eval]) (by simp [Act.eval]) ?_)
  with_reducible (refine (SG.out _).mono ?_)
  rintro e w3 ⟨rfl, b3⟩
  have HB3 := Lib.hid (bthen HB2.out b3)
  clear b3
  go_wp2_with fail
  go_ret2
  exact ⟨rfl, HB3.out⟩
end Go.Proofs.YtlmeobokpibifaaGreatDoor
end

section
set_option linter.unusedSimpArgs false
set_option linter.unusedVariables false
set_option linter.unusedVariables false
namespace Go.Proofs.YtlmeobokpibifaaGreatDoor
open Go.RowKit

/-- a variable that is an api.Value -/
def VB (w : World) (g : Nat) (cl : Int) (vn : Bool) (m : Nat) (e : Int) : Prop := w.heap[g]? = some (.cells #[.int .i64 cl, .bool vn, .int .u64 m, .int .i64 e] 31 (0, 0))
section
variable {w w' : World} {g : Nat} {cl : Int} {vn : Bool} {m : Nat} {e : Int}
theorem VB.below (h : VB w g cl vn m e) (hb : Below w.heap.size w w') : VB w' g cl vn m e := (hb.block g (blk_lt h)).trans h
theorem VB.cells (h : VB w g cl vn m e) : w.cell? { block := g, off := 0 } = some (.int .i64 cl) ∧ w.cell? { block := g, off := 1 } = some (.bool vn) ∧ w.cell? { block := g, off := 2 } = some (.int .u64 m) ∧ w.cell? { block := g, off := 3 } = some (.int .i64 e) ∧ w.frozen? { block := g, off := 0 } = false ∧ w.frozen? { block := g, off := 1 } = false ∧ w.frozen? { block := g, off := 2 } = false ∧ w.frozen? { block := g, off := 3 } = false := by
  unfold VB at h
  refine ⟨?_, ?_, ?_, ?_, ?_, ?_, ?_, ?_⟩ <;> simp [World.cell?, World.frozen?, h]
theorem VB.put0 (h : VB w g cl vn m e) (x : Int) : VB (w.setCell { block := g, off := 0 } (.int .i64 x)) g x vn m e := by
  unfold VB at h ⊢
  simp [World.setCell, Array.getElem?_modify, h]
theorem VB.put1 (h : VB w g cl vn m e) (x : Bool) : VB (w.setCell { block := g, off := 1 } (.bool x)) g cl x m e := by
  unfold VB at h ⊢
  simp [World.setCell, Array.getElem?_modify, h]
theorem VB.put2 (h : VB w g cl vn m e) (x : Nat) : VB (w.setCell { block := g, off := 2 } (.int .u64 x)) g cl vn x e := by
  unfold VB at h ⊢
  simp [World.setCell, Array.getElem?_modify, h]
theorem VB.put3 (h : VB w g cl vn m e) (x : Int) : VB (w.setCell { block := g, off := 3 } (.int .i64 x)) g cl vn m x := by
  unfold VB at h ⊢
  simp [World.setCell, Array.getElem?_modify, h]
end
theorem sh_far {w : World} {g : Nat} {cs : Array Value} {t : TypeId} (h : w.heap[g]? = some (.cells cs t (0, 0))) {p : Addr} (hne : g ≠ p.block) (u : Value) : (w.setCell p u).heap[g]? = some (.cells cs t (0, 0)) := (Deep.blk_setCell_other _ _ _ _ hne).trans h

/-- the number of a magnitude of the kind Signed -/
theorem signed_num (wd : Int) (man : Nat) (bs : Int) (tp nf nn key c mm : Nat) (ee : Int) (w : World) (hT : Tab w) (hl : 12 < w.heap.size) (h1 : man ≤ 60) (hk : key < 18446744073709551616) (h0 : key ≠ 0) (h2 : key / 2 ^ man ≤ 4095) (h3 : -2000 ≤ bs) (h4 : bs ≤ 2000) (hc : Lib.ctz 64 (sg man key) = c) (hmm : sg man key / 2 ^ c = mm) (hee : ((ex1 man key : Int) + 1) - bs - man + c = ee) :
    Calls Tryz.prog 179 #[fv 2 wd man bs tp nf nn, .int .i64 0, .int .u64 key] w fun e w' => e = .returned (.tuple #[.int .u64 mm, .int .i64 ee]) ∧ Below w.heap.size w w' := by
  have V : Hid (∀ w', Tab w' → Calls Tryz.prog 180 #[.int .i64 man, .int .i64 bs, .int .u64 key] w' fun e w'' => e = .returned (.tuple #[.int .u64 mm, .int .i64 ee, .int .i64 0]) ∧ Below w'.heap.size w' w'') := Lib.hid (fun w' hT => by
    refine (value_yes man key bs w' hT h1 hk h0 h2 h3 h4 c (by rw [sig_sg]; exact hc)).mono ?_
    rintro e w'' ⟨rfl, n, rfl⟩
    refine ⟨?_, bdrewN (Below.refl _ _) n⟩
    rw [sig_sg, hmm]
    refine ret3 rfl ?_ rfl
    rw [← hee]
    unfold ex1
    have : 1 ≤ max (key / 2 ^ man) 1 := Nat.le_max_right _ _
    omega)
  have HA := Lib.hid (bgrow (Below.refl w.heap.size w) (.cells #[.int .i64 2, .int .i64 wd, .int .i64 man, .int .i64 bs, .int .u64 tp, .int .u64 nf, .int .u64 nn] 56))
  have HT := Lib.hid (hT.below hl HA.out)
  have hmi : IntKind.i64.wrap ((man : Int) + 0) = (man : Int) := IntWalk.i64_in _ (by omega)
  clear hT hk h2 hc hmm hee h0
  unfold fv
  go_enter Tryz.func179, Tryz.ntmps179
  go_wp2_with fail
  with_reducible (refine (V.out _ HT.out).mono ?_)
  rintro e w1 ⟨rfl, b1⟩
  have HB := Lib.hid (bthen HA.out b1)
  clear b1
  go_wp2_with fail
  go_ret2
  exact ⟨rfl, HB.out⟩

/-- Decode of a number of the kind Signed that is not nought, by its sign and magnitude -/
theorem decode_fin (n : Nat) (wd : Nat) (man : Nat) (bs : Int) (tp nf nn m p key mm : Nat) (neg : Bool) (ee : Int) (w : World) (hm : NumAt w m 2 179) (h : FormAt w n 2 wd man bs tp nf nn)
    (FT : Hid (∀ w', FormAt w' n 2 wd man bs tp nf nn → Calls Tryz.prog 22 #[.int .i64 n, .int .u64 p] w' fun e w'' => e = .returned (.int .i64 0) ∧ Below w'.heap.size w' w''))
    (SH : Hid (∀ w', FormAt w' n 2 wd man bs tp nf nn → NumAt w' m 2 179 → Calls Tryz.prog 23 #[.int .i64 n] w' fun e w'' => e = .returned (.tuple #[shv 2 wd man bs tp nf nn 179, .int .i64 0]) ∧ Below w'.heap.size w' w''))
    (PA : Hid (∀ w', Calls Tryz.prog 24 #[shv 2 wd man bs tp nf nn 179, .int .u64 p] w' fun e w'' => e = .returned (.tuple #[.bool neg, .int .u64 key]) ∧ Below w'.heap.size w' w''))
    (CL : Hid (∀ w', Calls Tryz.prog 25 #[shv 2 wd man bs tp nf nn 179, .int .u64 p, .int .u64 key] w' fun e w'' => e = .returned (.int .i64 2) ∧ Below w'.heap.size w' w''))
    (NU : Hid (∀ w', Tab w' → 12 < w'.heap.size → Calls Tryz.prog 179 #[fv 2 wd man bs tp nf nn, .int .i64 0, .int .u64 key] w' fun e w'' => e = .returned (.tuple #[.int .u64 mm, .int .i64 ee]) ∧ Below w'.heap.size w' w''))
    (hT : Tab w) (hl : 12 < w.heap.size) :
    Calls Tryz.prog 9 #[.int .i64 n, .int .u64 p] w fun e w' => e = .returned (.tuple #[.agg #[.int .i64 2, .bool neg, .int .u64 mm, .int .i64 ee], .int .i64 0]) ∧ Below w.heap.size w w' := by
  have HA := Lib.hid (bgrow (Below.refl w.heap.size w) (.cells #[.int .i64 0, .bool false, .int .u64 0, .int .i64 0] 31))
  have BX : Hid (VB (w.alloc (.cells #[.int .i64 0, .bool false, .int .u64 0, .int .i64 0] 31)) w.heap.size 0 false 0 0) := Lib.hid (Deep.blk_alloc_new _ _)
  have HF := Lib.hid h
  have HM := Lib.hid hm
  have HT := Lib.hid (And.intro hT hl)
  clear h hm hT hl
  unfold shv fv at *
  go_enter Tryz.func9, Tryz.ntmps9
  go_wp2_with fail
  generalize (w.alloc (.cells #[.int .i64 0, .bool false, .int .u64 0, .int .i64 0] 31)) = WB at HA BX ⊢
  with_reducible (refine (FT.out _ (HF.out.below HA.out)).mono ?_)
  rintro e w1 ⟨rfl, b1⟩
  have HB1 := Lib.hid (bthen HA.out b1)
  have BX1 := Lib.hid (BX.out.below b1)
  clear b1 BX HA
  go_wp2_with fail
  with_reducible (refine (SH.out _ (HF.out.below HB1.out) (HM.out.below HB1.out)).mono ?_)
  rintro e w2 ⟨rfl, b2⟩
  have HB2 := Lib.hid (bgrow (bthen HB1.out b2) (shbox 2 wd man bs tp nf nn 179))
  have BX2 := Lib.hid ((BX1.out.below b2).below (bgrow (Below.refl _ _) (shbox 2 wd man bs tp nf nn 179)))
  have hb12 := b2.size
  have SX : Hid ((w2.alloc (shbox 2 wd man bs tp nf nn 179)).heap[w2.heap.size]? = some (.cells #[.int .i64 2, .int .i64 wd, .int .i64 man, .int .i64 bs, .int .u64 tp, .int .u64 nf, .int .u64 nn, .func (.func 179) #[] #[]] 70 (0, 0))) := Lib.hid (Deep.blk_alloc_new _ _)
  have HNE := Lib.hid (show w.heap.size < w2.heap.size from by have := blk_lt BX1.out; omega)
  clear b2 BX1 HB1 hb12
  unfold shbox at HB2 BX2 SX
  go_wp2_with (with_reducible show wpList _ _ _ ({ dst := none, op := Op.store 70 (Operand.tmp 7) (Operand.tmp 21), type := _, pos := _, after := _, guard := none } :: _) _ _; refine store8_new (.tmp 7) (.tmp 21) 2 wd man bs tp nf nn 179 rfl rfl (by simp [Act.eval]) (by simp [Act.eval]) ?_)
  generalize (w2.alloc (.cells #[.int .i64 2, .int .i64 wd, .int .i64 man, .int .i64 bs, .int .u64 tp, .int .u64 nf, .int .u64 nn, .func (.func 179) #[] #[]] 70)) = WC at HB2 BX2 SX ⊢
  with_reducible (refine (PA.out _).mono ?_)
  rintro e w3 ⟨rfl, b3⟩
  have HB3 := Lib.hid (bthen HB2.out b3)
  have BX3 := Lib.hid (BX2.out.below b3)
  have SX3 := Lib.hid ((b3.block _ (blk_lt SX.out)).trans SX.out)
  obtain ⟨d0, d1, d2, d3, d4, d5, d6, d7⟩ := eight_cells SX3.out
  clear b3 BX2 HB2 SX
  go_wp2_with fail
  with_reducible (refine (CL.out _).mono ?_)
  rintro e w4 ⟨rfl, b4⟩
  have HB4 := Lib.hid (bthen HB3.out b4)
  have BX4 := Lib.hid (BX3.out.below b4)
  have SX4 := Lib.hid ((b4.block _ (blk_lt SX3.out)).trans SX3.out)
  clear b4 BX3 HB3 SX3 d0 d1 d2 d3 d4 d5 d6 d7
  obtain ⟨d0, d1, d2, d3, d4, d5, d6, d7⟩ := eight_cells SX4.out
  obtain ⟨v0, v1, v2, v3, f0, f1, f2, f3⟩ := BX4.out.cells
  have hne := Nat.ne_of_gt HNE.out
  have hne' := Nat.ne_of_lt HNE.out
  go_wp2_with fail
  have HB5 := Lib.hid ((HB4.out.setCell (p := { block := w.heap.size, off := 0 }) (Nat.le_refl _) (.int .i64 2)).setCell (p := { block := w.heap.size, off := 1 }) (Nat.le_refl _) (.bool neg))
  have BX5 := Lib.hid ((BX4.out.put0 2).put1 neg)
  clear d0 d1 d2 d3 d4 d5 d6 d7 v0 v1 v2 v3 f0 f1 f2 f3 hne hne' BX4 HB4 SX4 HNE
  generalize (w4.setCell { block := w.heap.size, off := 0 } (.int .i64 2)).setCell { block := w.heap.size, off := 1 } (.bool neg) = W5 at HB5 BX5 ⊢
  with_reducible (refine (NU.out _ (HT.out.1.below HT.out.2 HB5.out) (Nat.lt_of_lt_of_le HT.out.2 HB5.out.size)).mono ?_)
  rintro e w6 ⟨rfl, b6⟩
  have HB6 := Lib.hid (bthen HB5.out b6)
  have BX6 := Lib.hid (BX5.out.below b6)
  clear b6 BX5 HB5
  obtain ⟨v0, v1, v2, v3, f0, f1, f2, f3⟩ := BX6.out.cells
  go_wp2_with fail
  have BX7 := (((((BX6.out.put2 mm).put3 ee).put0 2).put1 neg).put2 mm).put3 ee
  have HB7 := Lib.hid ((((((HB6.out.setCell (p := { block := w.heap.size, off := 2 }) (Nat.le_refl _) (.int .u64 mm)).setCell (p := { block := w.heap.size, off := 3 }) (Nat.le_refl _) (.int .i64 ee)).setCell (p := { block := w.heap.size, off := 0 }) (Nat.le_refl _) (.int .i64 2)).setCell (p := { block := w.heap.size, off := 1 }) (Nat.le_refl _) (.bool neg)).setCell (p := { block := w.heap.size, off := 2 }) (Nat.le_refl _) (.int .u64 mm)).setCell (p := { block := w.heap.size, off := 3 }) (Nat.le_refl _) (.int .i64 ee))
  clear v0 v1 v2 v3 f0 f1 f2 f3 BX6 HB6
  obtain ⟨v0, v1, v2, v3, -⟩ := BX7.cells
  refine bodyPost_ret (v := .tuple #[.agg #[.int .i64 2, .bool neg, .int .u64 mm, .int .i64 ee], .int .i64 0]) (by simp [results, Tryz.results9, go_sem, v0, v1, v2, v3]) rfl ⟨rfl, HB7.out⟩
/-- .. of nought -/
theorem decode_zero (n : Nat) (wd : Nat) (man : Nat) (bs : Int) (tp nf nn m p key : Nat) (neg : Bool) (w : World) (hm : NumAt w m 2 179) (h : FormAt w n 2 wd man bs tp nf nn)
    (FT : Hid (∀ w', FormAt w' n 2 wd man bs tp nf nn → Calls Tryz.prog 22 #[.int .i64 n, .int .u64 p] w' fun e w'' => e = .returned (.int .i64 0) ∧ Below w'.heap.size w' w''))
    (SH : Hid (∀ w', FormAt w' n 2 wd man bs tp nf nn → NumAt w' m 2 179 → Calls Tryz.prog 23 #[.int .i64 n] w' fun e w'' => e = .returned (.tuple #[shv 2 wd man bs tp nf nn 179, .int .i64 0]) ∧ Below w'.heap.size w' w''))
    (PA : Hid (∀ w', Calls Tryz.prog 24 #[shv 2 wd man bs tp nf nn 179, .int .u64 p] w' fun e w'' => e = .returned (.tuple #[.bool neg, .int .u64 key]) ∧ Below w'.heap.size w' w''))
    (CL : Hid (∀ w', Calls Tryz.prog 25 #[shv 2 wd man bs tp nf nn 179, .int .u64 p, .int .u64 key] w' fun e w'' => e = .returned (.int .i64 1) ∧ Below w'.heap.size w' w''))
    :
    Calls Tryz.prog 9 #[.int .i64 n, .int .u64 p] w fun e w' => e = .returned (.tuple #[.agg #[.int .i64 1, .bool neg, .int .u64 0, .int .i64 0], .int .i64 0]) ∧ Below w.heap.size w w' := by
  have HA := Lib.hid (bgrow (Below.refl w.heap.size w) (.cells #[.int .i64 0, .bool false, .int .u64 0, .int .i64 0] 31))
  have BX : Hid (VB (w.alloc (.cells #[.int .i64 0, .bool false, .int .u64 0, .int .i64 0] 31)) w.heap.size 0 false 0 0) := Lib.hid (Deep.blk_alloc_new _ _)
  have HF := Lib.hid h
  have HM := Lib.hid hm
  clear h hm
  unfold shv at *
  go_enter Tryz.func9, Tryz.ntmps9
  go_wp2_with fail
  generalize (w.alloc (.cells #[.int .i64 0, .bool false, .int .u64 0, .int .i64 0] 31)) = WB at HA BX ⊢
  with_reducible (refine (FT.out _ (HF.out.below HA.out)).mono ?_)
  rintro e w1 ⟨rfl, b1⟩
  have HB1 := Lib.hid (bthen HA.out b1)
  have BX1 := Lib.hid (BX.out.below b1)
  clear b1 BX HA
  go_wp2_with fail
  with_reducible (refine (SH.out _ (HF.out.below HB1.out) (HM.out.below HB1.out)).mono ?_)
  rintro e w2 ⟨rfl, b2⟩
  have HB2 := Lib.hid (bgrow (bthen HB1.out b2) (shbox 2 wd man bs tp nf nn 179))
  have BX2 := Lib.hid ((BX1.out.below b2).below (bgrow (Below.refl _ _) (shbox 2 wd man bs tp nf nn 179)))
  have hb12 := b2.size
  have SX : Hid ((w2.alloc (shbox 2 wd man bs tp nf nn 179)).heap[w2.heap.size]? = some (.cells #[.int .i64 2, .int .i64 wd, .int .i64 man, .int .i64 bs, .int .u64 tp, .int .u64 nf, .int .u64 nn, .func (.func 179) #[] #[]] 70 (0, 0))) := Lib.hid (Deep.blk_alloc_new _ _)
  have HNE := Lib.hid (show w.heap.size < w2.heap.size from by have := blk_lt BX1.out; omega)
  clear b2 BX1 HB1 hb12
  unfold shbox at HB2 BX2 SX
  go_wp2_with (with_reducible show wpList _ _ _ ({ dst := none, op := Op.store 70 (Operand.tmp 7) (Operand.tmp 21), type := _, pos := _, after := _, guard := none } :: _) _ _; refine store8_new (.tmp 7) (.tmp 21) 2 wd man bs tp nf nn 179 rfl rfl (by simp [Act.eval]) (by simp [Act.eval]) ?_)
  generalize (w2.alloc (.cells #[.int .i64 2, .int .i64 wd, .int .i64 man, .int .i64 bs, .int .u64 tp, .int .u64 nf, .int .u64 nn, .func (.func 179) #[] #[]] 70)) = WC at HB2 BX2 SX ⊢
  with_reducible (refine (PA.out _).mono ?_)
  rintro e w3 ⟨rfl, b3⟩
  have HB3 := Lib.hid (bthen HB2.out b3)
  have BX3 := Lib.hid (BX2.out.below b3)
  have SX3 := Lib.hid ((b3.block _ (blk_lt SX.out)).trans SX.out)
  obtain ⟨d0, d1, d2, d3, d4, d5, d6, d7⟩ := eight_cells SX3.out
  clear b3 BX2 HB2 SX
  go_wp2_with fail
  with_reducible (refine (CL.out _).mono ?_)
  rintro e w4 ⟨rfl, b4⟩
  have HB4 := Lib.hid (bthen HB3.out b4)
  have BX4 := Lib.hid (BX3.out.below b4)
  have SX4 := Lib.hid ((b4.block _ (blk_lt SX3.out)).trans SX3.out)
  clear b4 BX3 HB3 SX3 d0 d1 d2 d3 d4 d5 d6 d7
  obtain ⟨d0, d1, d2, d3, d4, d5, d6, d7⟩ := eight_cells SX4.out
  obtain ⟨v0, v1, v2, v3, f0, f1, f2, f3⟩ := BX4.out.cells
  have hne := Nat.ne_of_gt HNE.out
  have hne' := Nat.ne_of_lt HNE.out
  go_wp2_with fail
  have BX7 := (((((BX4.out.put0 1).put1 neg).put0 1).put1 neg).put2 0).put3 0
  have HB7 := Lib.hid ((((((HB4.out.setCell (p := { block := w.heap.size, off := 0 }) (Nat.le_refl _) (.int .i64 1)).setCell (p := { block := w.heap.size, off := 1 }) (Nat.le_refl _) (.bool neg)).setCell (p := { block := w.heap.size, off := 0 }) (Nat.le_refl _) (.int .i64 1)).setCell (p := { block := w.heap.size, off := 1 }) (Nat.le_refl _) (.bool neg)).setCell (p := { block := w.heap.size, off := 2 }) (Nat.le_refl _) (.int .u64 0)).setCell (p := { block := w.heap.size, off := 3 }) (Nat.le_refl _) (.int .i64 0))
  clear v0 v1 v2 v3 f0 f1 f2 f3 BX4 HB4 d0 d1 d2 d3 d4 d5 d6 d7
  obtain ⟨v0, v1, v2, v3, -⟩ := BX7.cells
  refine bodyPost_ret (v := .tuple #[.agg #[.int .i64 1, .bool neg, .int .u64 0, .int .i64 0], .int .i64 0]) (by simp only [Int.natCast_zero] at v0 v1 v2 v3; simp [results, Tryz.results9, go_sem, v0, v1, v2, v3]) rfl ⟨rfl, HB7.out⟩
/-- Key of a number of the kind Signed -/
theorem key_signed (n : Nat) (wd : Nat) (man : Nat) (bs : Int) (tp nf nn m p key mm : Nat) (neg : Bool) (cl ee : Int) (w : World) (hm : NumAt w m 2 179) (h : FormAt w n 2 wd man bs tp nf nn) (hcl : cl = 1 ∨ cl = 2)
    (DE : Hid (Calls Tryz.prog 9 #[.int .i64 n, .int .u64 p] w fun e w'' => e = .returned (.tuple #[.agg #[.int .i64 cl, .bool neg, .int .u64 mm, .int .i64 ee], .int .i64 0]) ∧ Below w.heap.size w w''))
    (SH : Hid (∀ w', FormAt w' n 2 wd man bs tp nf nn → NumAt w' m 2 179 → Calls Tryz.prog 23 #[.int .i64 n] w' fun e w'' => e = .returned (.tuple #[shv 2 wd man bs tp nf nn 179, .int .i64 0]) ∧ Below w'.heap.size w' w''))
    (PA : Hid (∀ w', Calls Tryz.prog 24 #[shv 2 wd man bs tp nf nn 179, .int .u64 p] w' fun e w'' => e = .returned (.tuple #[.bool neg, .int .u64 key]) ∧ Below w'.heap.size w' w'')) :
    Calls Tryz.prog 56 #[.int .i64 n, .int .u64 p] w fun e w' => e = .returned (.tuple #[.bool neg, .int .u64 key, .int .i64 0]) ∧ Below w.heap.size w w' := by
  have HF := Lib.hid h
  have HM := Lib.hid hm
  have c3 : (cl == 3) = false := by rcases hcl with rfl | rfl <;> rfl
  have c4 : (cl == 4) = false := by rcases hcl with rfl | rfl <;> rfl
  clear h hm hcl
  unfold shv at *
  go_enter Tryz.func56, Tryz.ntmps56
  go_wp2_with fail
  with_reducible (refine DE.out.mono ?_)
  rintro e w1 ⟨rfl, b1⟩
  have HB1 := Lib.hid (bgrow b1 (.cells #[.int .i64 cl, .bool neg, .int .u64 mm, .int .i64 ee] 31))
  clear b1
  go_wp2_with fail
  with_reducible (refine (SH.out _ (HF.out.below HB1.out) (HM.out.below HB1.out)).mono ?_)
  rintro e w2 ⟨rfl, b2⟩
  have HB2 := Lib.hid (bgrow (bthen HB1.out b2) (shbox 2 wd man bs tp nf nn 179))
  unfold shbox at HB2
  clear b2
  go_wp2_with (with_reducible show wpList _ _ _ ({ dst := none, op := Op.store 70 (Operand.tmp 9) (Operand.tmp 35), type := _, pos := _, after := _, guard := none } :: _) _ _; refine store8_new (.tmp 9) (.tmp 35) 2 wd man bs tp nf nn 179 rfl rfl (by simp [Act.eval]) (by simp [Act.eval]) ?_)
  with_reducible (refine (PA.out _).mono ?_)
  rintro e w3 ⟨rfl, b3⟩
  have HB3 := Lib.hid (bthen HB2.out b3)
  clear b3
  go_wp2_with fail
  go_ret3
  exact ⟨rfl, HB3.out⟩
end Go.Proofs.YtlmeobokpibifaaGreatDoor
end

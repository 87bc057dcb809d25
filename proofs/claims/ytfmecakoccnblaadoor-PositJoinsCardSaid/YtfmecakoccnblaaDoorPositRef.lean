/- caliperref05.Split walked: it answers the fields. Conditions: as each theorem names them. -/
import Derived.Test.YtfmecakoccnblaaDoorPositBits
set_option linter.unusedVariables false
namespace Go.Proofs.YtfmecakoccnblaaDoor
open Go.RowKit

theorem exp_text {n key : Nat} (h1 : 2 ≤ n) (h2 : n ≤ 64) (h3 : 0 < key) (h4 : key < 2 ^ n) : fRest n key * 4 / 2 ^ fLeft n key = fExp n key := by
  obtain ⟨r1, _⟩ := rest_lt h1 h2 h3 h4
  unfold fExp
  have e : fBits n key = fLeft n key - 2 := rfl
  rw [e]
  generalize fLeft n key = l at *
  generalize fRest n key = r at *
  by_cases h : 2 ≤ l
  · obtain ⟨b, rfl⟩ : ∃ b, l = b + 2 := ⟨l - 2, by omega⟩
    rw [show b + 2 - 2 = b by omega, show 2 - (b + 2) = 0 by omega, Nat.pow_zero, Nat.mul_one, Nat.pow_add]
    exact Nat.mul_div_mul_right _ _ (by decide)
  · rcases (show l = 0 ∨ l = 1 by omega) with rfl | rfl
    · have : r = 0 := by simpa using r1
      subst this; rfl
    · simp
      omega
theorem zz : BT ⟨#[48, 48]⟩ 2 0 := rfl
/-- the two letters of the exponent -/
theorem exp_bits {n key : Nat} (h1 : 2 ≤ n) (h2 : n ≤ 64) (h3 : 0 < key) (h4 : key < 2 ^ n) {r : ByteArray} (hr : BT r (fLeft n key) (fRest n key)) (w : World) :
    Calls Tryd.prog 25 #[.string ((r ++ ⟨#[48, 48]⟩).extract 0 2)] w fun e w' => e = .returned (.int .u64 (fExp n key)) ∧ w = w' := by
  obtain ⟨_, t2, _⟩ := tail_parts h1 h2 h3 h4
  have b := (hr.append zz (by decide)).upto 2 (by omega)
  rw [show fLeft n key + 2 - 2 = fLeft n key by omega, Nat.add_zero] at b
  have := exp_text h1 h2 h3 h4
  rw [show (2 : Nat) ^ 2 = 4 by decide, this] at b
  exact number_ref _ 2 _ w b (by omega) (by decide)
/-- the letters of the fraction -/
theorem frac_bits {n key : Nat} (h1 : 2 ≤ n) (h2 : n ≤ 64) (h3 : 0 < key) (h4 : key < 2 ^ n) {r : ByteArray} (hr : BT r (fLeft n key) (fRest n key)) (h : 2 ≤ fLeft n key) (w : World) :
    Calls Tryd.prog 25 #[.string (r.extract 2 (fLeft n key))] w fun e w' => e = .returned (.int .u64 (fFrac n key)) ∧ w = w' := by
  obtain ⟨_, _, t3, t4⟩ := tail_parts h1 h2 h3 h4
  have b := (hr.from 2 h).mod
  exact number_ref _ _ _ w b t3 (by have e : fBits n key = fLeft n key - 2 := rfl; omega)

theorem below_ref {w w1 : World} {o : Obj} (h : Below (w.alloc o).heap.size (w.alloc o) w1) : Below w.heap.size w w1 :=
  ((Below.refl _ _).alloc (Nat.le_refl _) _).trans (h.mono (by simp))
set_option maxHeartbeats 1000000 in
theorem refSplit_walk (wd rg : Int) (n key ex fr bt lf rs run top : Nat) (w : World)
    (B : ∀ w, Calls Tryd.prog 24 #[.int .i64 wd, .int .u64 key] w fun e w' => (∃ s, BT s n key ∧ e = .returned (.tuple #[.string s, .bool true])) ∧ Below w.heap.size w w')
    (n2 : 2 ≤ n) (n64 : n ≤ 64) (r1 : ∀ i, i < run → key / 2 ^ (n - 1 - i) % 2 = top) (r2 : run < n → key / 2 ^ (n - 1 - run) % 2 ≠ top) (r3 : 1 ≤ run) (r4 : run ≤ n) (r5 : key / 2 ^ (n - 1) % 2 = top)
    (hl : lf = n - run - 1) (hrg : rg = if top = 0 then -(run : Int) else (run : Int) - 1) (hrs : rs = key % 2 ^ lf) (hex : ex ≤ 3)
    (X1 : ∀ r, BT r lf rs → ∀ w, Calls Tryd.prog 25 #[.string ((r ++ ⟨#[48, 48]⟩).extract 0 2)] w fun e w' => e = .returned (.int .u64 ex) ∧ w = w')
    (X2 : ∀ r, BT r lf rs → 2 ≤ lf → ∀ w, Calls Tryd.prog 25 #[.string (r.extract 2 lf)] w fun e w' => e = .returned (.int .u64 fr) ∧ w = w')
    (hbt : bt = lf - 2) (hfr : lf ≤ 2 → fr = 0) :
    Calls Tryd.prog 13 #[.int .i64 wd, .int .u64 key] w fun e w' => e = .returned (.tuple #[.agg #[.int .i64 rg, .int .i64 ex, .int .u64 fr, .int .i64 bt], .bool true]) ∧ Below w.heap.size w w' := by
  have B' := Lib.hid B
  have R1 := Lib.hid r1
  have R2 := Lib.hid r2
  have R5 := Lib.hid r5
  have X1' := Lib.hid X1
  have X2' := Lib.hid X2
  have HRG := Lib.hid hrg
  have HRS := Lib.hid hrs
  have HBT := Lib.hid hbt
  have HFR := Lib.hid hfr
  have HL := Lib.hid hl
  clear B r1 r2 r5 X1 X2 hrg hrs hbt hfr hl
  have hdr : ∀ (w : World) (k : Nat) (o : Obj), (w.drewN k).alloc o = (w.alloc o).drewN k := fun _ _ _ => rfl
  have hds : ∀ (w : World) (k : Nat) (a : Addr) (v : Value), (w.drewN k).setCell a v = (w.setCell a v).drewN k := fun _ _ _ _ => rfl
  go_enter Tryd.func13, Tryd.ntmps13
  go_wp2_with fail
  refine (B'.out _).mono ?_; rintro e w1 ⟨⟨s, hs, rfl⟩, b1⟩
  have hsz := hs.size
  have hg0 : ∀ hi : 0 < s.size, (s[0]'hi).toNat = 48 + top := by
    intro hi
    rw [hs.get 0 hi, Nat.sub_zero, R5.out]
  have HS := Lib.hid hs
  have HB1 := Lib.hid b1
  clear hs b1
  go_wp2_with fail
  go_loopw [8] (fun x wr => ∃ (j k : Nat), j ≤ run ∧ x = .int .i64 j ∧ wr = w1.drewN k) (fun x _ => (n - (intOf x).toNat))
  case atStart => exact ⟨0, 0, Nat.zero_le _, rfl, rfl⟩
  case round =>
    obtain ⟨j, k, hj, rfl, rfl⟩ := hrel
    by_cases hlt : j < run
    · have u1 : j < n := by omega
      have hgj : ∀ hi : j < s.size, (s[j]'hi).toNat = 48 + top := by
        intro hi
        rw [HS.out.get j hi, R1.out j hlt]
      have u2 : decide (j < n) = true := by simpa using u1
      go_wp2_with fail
      go_quiet (fail)
      go_wp2_with fail
      go_roundw
      case rel => exact ⟨j + 1, k + _, by omega, by go_num, rfl⟩
      case measure => simp [intOf]; omega
    · obtain rfl : j = run := by omega
      have hc : ∀ b o, b < w.heap.size + 1 → w1.cell? ⟨b, o, none⟩ = (w.alloc (.cells #[.int .i64 0, .int .i64 0, .int .u64 0, .int .i64 0] 29)).cell? ⟨b, o, none⟩ := fun b o hb => (bcell HB1.out).1 b o (by simpa using hb)
      have hf : ∀ b o, b < w.heap.size + 1 → w1.frozen? ⟨b, o, none⟩ = (w.alloc (.cells #[.int .i64 0, .int .i64 0, .int .u64 0, .int .i64 0] 29)).frozen? ⟨b, o, none⟩ := fun b o hb => (bcell HB1.out).2 b o (by simpa using hb)
      have c0 := hc w.heap.size 0 (by omega)
      have c1 := hc w.heap.size 1 (by omega)
      have c2 := hc w.heap.size 2 (by omega)
      have c3 := hc w.heap.size 3 (by omega)
      have g0 := hf w.heap.size 0 (by omega)
      have g1 := hf w.heap.size 1 (by omega)
      have g2 := hf w.heap.size 2 (by omega)
      have g3 := hf w.heap.size 3 (by omega)
      have hsz1 : w.heap.size < w1.heap.size := by have := HB1.out.size; simp at this; omega
      clear hc hf
      simp [go_sem] at c0 c1 c2 c3 g0 g1 g2 g3
      have hx : IntKind.i64.wrap (ex : Int) = (ex : Int) := by rw [IntKind.wrap_i64]; omega
      have hx2 : wrap64 (ex : Int) = (ex : Int) := IntWalk.wrap64_in _ (by omega)
      by_cases hA : j + 1 < n
      · have hjn : j < n := by omega
        obtain ⟨bj, hbj⟩ : ∃ bj, key / 2 ^ (n - 1 - j) % 2 = bj := ⟨_, rfl⟩
        have hne := R2.out hjn
        rw [hbj] at hne
        have hgj : ∀ hi : j < s.size, (s[j]'hi).toNat = 48 + bj := by
          intro hi
          rw [HS.out.get j hi, hbj]
        have u2 : decide (j < n) = true := by simpa using hjn
        have u3 : ((bj : Int) == top) = false := by simp; omega
        have u4 : ((48 + (bj : Int)) == 48 + top) = false := by simp; omega
        have u5 : ¬ (n : Int) ≤ (j : Int) + 1 := by omega
        have HBJ := Lib.hid hbj
        have hR : BT (s.extract (j + 1) n) lf rs := by
          have := (HS.out.from (j + 1) (by omega))
          rw [show n - (j + 1) = lf by have := HL.out; omega] at this
          rw [HRS.out]
          exact this.mod
        have hRs := hR.size
        have HR := Lib.hid hR
        have v0 : lf ≤ 64 := by have := HL.out; omega
        clear hbj hne hR
        by_cases htz : top = 0
        · have u6 : ((48 + (top : Int)) == 48) = true := by simp; omega
          obtain rfl : rg = -(j : Int) := by have := HRG.out; rw [if_pos htz] at this; exact this
          by_cases hlf : 2 < lf
          · skip
            have v1 : (2 : Int) < lf := by omega
            have v2 : decide (2 < lf) = true := by simpa using hlf
            have v3 : (lf : Int) - 2 = (bt : Int) := by have := HBT.out; omega
            go_wp2_with fail
            go_quiet (fail)
            go_wp2_with fail
            refine (X1'.out _ HR.out _).mono ?_; rintro e wx ⟨rfl, rfl⟩
            go_wp2_with fail
            refine (X2'.out _ HR.out (by omega) _).mono ?_; rintro e wx ⟨rfl, rfl⟩
            go_wp2_with fail
            refine bodyPost_ret (v := .tuple #[.agg #[.int .i64 (-(j : Int)), .int .i64 ex, .int .u64 fr, .int .i64 bt], .bool true]) ?_ rfl ⟨rfl, ?_⟩
            · simp [results, Tryd.results13, go_sem, *]
            · refine below_drewN ?_ _
              refine Below.alloc ?_ (by simp; omega) _
              repeat (refine Below.setCell ?_ (by simp) _)
              exact below_ref HB1.out
          · skip
            have v1 : ¬ (2 : Int) < lf := by omega
            have v2 : decide (2 < lf) = false := by simpa using hlf
            obtain rfl : fr = 0 := HFR.out (by omega)
            obtain rfl : bt = 0 := by have := HBT.out; omega
            go_wp2_with fail
            go_quiet (fail)
            go_wp2_with fail
            refine (X1'.out _ HR.out _).mono ?_; rintro e wx ⟨rfl, rfl⟩
            go_wp2_with fail
            refine bodyPost_ret (v := .tuple #[.agg #[.int .i64 (-(j : Int)), .int .i64 ex, .int .u64 ((0 : Nat) : Int), .int .i64 ((0 : Nat) : Int)], .bool true]) ?_ rfl ⟨rfl, ?_⟩
            · simp [results, Tryd.results13, go_sem, *]
            · refine below_drewN ?_ _
              refine Below.alloc ?_ (by simp; omega) _
              repeat (refine Below.setCell ?_ (by simp) _)
              exact below_ref HB1.out
        · have u6 : ((48 + (top : Int)) == 48) = false := by simp; omega
          obtain rfl : rg = (j : Int) - 1 := by have := HRG.out; rw [if_neg htz] at this; exact this
          by_cases hlf : 2 < lf
          · skip
            have v1 : (2 : Int) < lf := by omega
            have v2 : decide (2 < lf) = true := by simpa using hlf
            have v3 : (lf : Int) - 2 = (bt : Int) := by have := HBT.out; omega
            go_wp2_with fail
            go_quiet (fail)
            go_wp2_with fail
            refine (X1'.out _ HR.out _).mono ?_; rintro e wx ⟨rfl, rfl⟩
            go_wp2_with fail
            refine (X2'.out _ HR.out (by omega) _).mono ?_; rintro e wx ⟨rfl, rfl⟩
            go_wp2_with fail
            refine bodyPost_ret (v := .tuple #[.agg #[.int .i64 ((j : Int) - 1), .int .i64 ex, .int .u64 fr, .int .i64 bt], .bool true]) ?_ rfl ⟨rfl, ?_⟩
            · simp [results, Tryd.results13, go_sem, *]
            · refine below_drewN ?_ _
              refine Below.alloc ?_ (by simp; omega) _
              repeat (refine Below.setCell ?_ (by simp) _)
              exact below_ref HB1.out
          · skip
            have v1 : ¬ (2 : Int) < lf := by omega
            have v2 : decide (2 < lf) = false := by simpa using hlf
            obtain rfl : fr = 0 := HFR.out (by omega)
            obtain rfl : bt = 0 := by have := HBT.out; omega
            go_wp2_with fail
            go_quiet (fail)
            go_wp2_with fail
            refine (X1'.out _ HR.out _).mono ?_; rintro e wx ⟨rfl, rfl⟩
            go_wp2_with fail
            refine bodyPost_ret (v := .tuple #[.agg #[.int .i64 ((j : Int) - 1), .int .i64 ex, .int .u64 ((0 : Nat) : Int), .int .i64 ((0 : Nat) : Int)], .bool true]) ?_ rfl ⟨rfl, ?_⟩
            · simp [results, Tryd.results13, go_sem, *]
            · refine below_drewN ?_ _
              refine Below.alloc ?_ (by simp; omega) _
              repeat (refine Below.setCell ?_ (by simp) _)
              exact below_ref HB1.out
      · have u5 : (n : Int) ≤ (j : Int) + 1 := by omega
        obtain rfl : lf = 0 := by have := HL.out; omega
        have hR : BT ⟨#[]⟩ 0 rs := BT.nil _
        have HR := Lib.hid hR
        clear hR
        by_cases hjn : j < n
        · obtain ⟨bj, hbj⟩ : ∃ bj, key / 2 ^ (n - 1 - j) % 2 = bj := ⟨_, rfl⟩
          have hne := R2.out hjn
          rw [hbj] at hne
          have hgj : ∀ hi : j < s.size, (s[j]'hi).toNat = 48 + bj := by
            intro hi
            rw [HS.out.get j hi, hbj]
          have u2 : decide (j < n) = true := by simpa using hjn
          have u3 : ((bj : Int) == top) = false := by simp; omega
          have u4 : ((48 + (bj : Int)) == 48 + top) = false := by simp; omega
          have HBJ := Lib.hid hbj
          clear hbj hne
          by_cases htz : top = 0
          · have u6 : ((48 + (top : Int)) == 48) = true := by simp; omega
            obtain rfl : rg = -(j : Int) := by have := HRG.out; rw [if_pos htz] at this; exact this
            obtain rfl : fr = 0 := HFR.out (by omega)
            obtain rfl : bt = 0 := by have := HBT.out; omega
            go_wp2_with fail
            go_quiet (fail)
            go_wp2_with fail
            refine (X1'.out _ HR.out _).mono ?_; rintro e wx ⟨rfl, rfl⟩
            go_wp2_with fail
            refine bodyPost_ret (v := .tuple #[.agg #[.int .i64 (-(j : Int)), .int .i64 ex, .int .u64 ((0 : Nat) : Int), .int .i64 ((0 : Nat) : Int)], .bool true]) ?_ rfl ⟨rfl, ?_⟩
            · simp [results, Tryd.results13, go_sem, *]
            · refine below_drewN ?_ _
              refine Below.alloc ?_ (by simp; omega) _
              repeat (refine Below.setCell ?_ (by simp) _)
              exact below_ref HB1.out
          · have u6 : ((48 + (top : Int)) == 48) = false := by simp; omega
            obtain rfl : rg = (j : Int) - 1 := by have := HRG.out; rw [if_neg htz] at this; exact this
            obtain rfl : fr = 0 := HFR.out (by omega)
            obtain rfl : bt = 0 := by have := HBT.out; omega
            go_wp2_with fail
            go_quiet (fail)
            go_wp2_with fail
            refine (X1'.out _ HR.out _).mono ?_; rintro e wx ⟨rfl, rfl⟩
            go_wp2_with fail
            refine bodyPost_ret (v := .tuple #[.agg #[.int .i64 ((j : Int) - 1), .int .i64 ex, .int .u64 ((0 : Nat) : Int), .int .i64 ((0 : Nat) : Int)], .bool true]) ?_ rfl ⟨rfl, ?_⟩
            · simp [results, Tryd.results13, go_sem, *]
            · refine below_drewN ?_ _
              refine Below.alloc ?_ (by simp; omega) _
              repeat (refine Below.setCell ?_ (by simp) _)
              exact below_ref HB1.out
        · have u2 : decide (j < n) = false := by simpa using hjn
          by_cases htz : top = 0
          · have u6 : ((48 + (top : Int)) == 48) = true := by simp; omega
            obtain rfl : rg = -(j : Int) := by have := HRG.out; rw [if_pos htz] at this; exact this
            obtain rfl : fr = 0 := HFR.out (by omega)
            obtain rfl : bt = 0 := by have := HBT.out; omega
            go_wp2_with fail
            go_quiet (fail)
            go_wp2_with fail
            refine (X1'.out _ HR.out _).mono ?_; rintro e wx ⟨rfl, rfl⟩
            go_wp2_with fail
            refine bodyPost_ret (v := .tuple #[.agg #[.int .i64 (-(j : Int)), .int .i64 ex, .int .u64 ((0 : Nat) : Int), .int .i64 ((0 : Nat) : Int)], .bool true]) ?_ rfl ⟨rfl, ?_⟩
            · simp [results, Tryd.results13, go_sem, *]
            · refine below_drewN ?_ _
              refine Below.alloc ?_ (by simp; omega) _
              repeat (refine Below.setCell ?_ (by simp) _)
              exact below_ref HB1.out
          · have u6 : ((48 + (top : Int)) == 48) = false := by simp; omega
            obtain rfl : rg = (j : Int) - 1 := by have := HRG.out; rw [if_neg htz] at this; exact this
            obtain rfl : fr = 0 := HFR.out (by omega)
            obtain rfl : bt = 0 := by have := HBT.out; omega
            go_wp2_with fail
            go_quiet (fail)
            go_wp2_with fail
            refine (X1'.out _ HR.out _).mono ?_; rintro e wx ⟨rfl, rfl⟩
            go_wp2_with fail
            refine bodyPost_ret (v := .tuple #[.agg #[.int .i64 ((j : Int) - 1), .int .i64 ex, .int .u64 ((0 : Nat) : Int), .int .i64 ((0 : Nat) : Int)], .bool true]) ?_ rfl ⟨rfl, ?_⟩
            · simp [results, Tryd.results13, go_sem, *]
            · refine below_drewN ?_ _
              refine Below.alloc ?_ (by simp; omega) _
              repeat (refine Below.setCell ?_ (by simp) _)
              exact below_ref HB1.out
end Go.Proofs.YtfmecakoccnblaaDoor

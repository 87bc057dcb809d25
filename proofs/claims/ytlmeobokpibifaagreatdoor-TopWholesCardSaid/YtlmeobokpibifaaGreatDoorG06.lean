/- package nat's digit walked. Conditions: as each theorem names them. Long division, word by word: the plain law. No program stands here. Conditions: as each theorem names them. -/
import Derived.Test.YtlmeobokpibifaaGreatDoorG05
import Derived.Shelf.Spec.BitsCarry
import Derived.WalkMore
import Derived.Deep.RegionWith
section
set_option linter.unusedSimpArgs false
set_option linter.unusedVariables false
set_option linter.unusedVariables false
namespace Go.Proofs.YtlmeobokpibifaaGreatDoor
open Go.RowKit

theorem run_minus (x y b s k : Nat) (hb : b ≤ 1) (hs : (x + 18446744073709551616 - y - b) % 18446744073709551616 = s) (hk : (if x < y + b then 1 else 0) = k) (w : World) :
    (callFunc 120 #[.int .u64 x, .int .u64 y, .int .u64 b]).run Tryz.prog w = .ok (.value (.tuple #[.int .u64 s, .int .u64 k])) w := by
  subst hs
  subst hk
  rw [run_callFunc_extern Tryz.func120 (by kernel_rfl) (by kernel_rfl) (by kernel_rfl) (e := sub64Entry) (by kernel_rfl), run_sub64 x y b hb]
  rfl

/-- only block g may have turned -/
def Only (g : Nat) (w w' : World) : Prop := w.grownBy w' (some g)
section
variable {g : Nat} {w w' w'' : World}
theorem Only.refl (g : Nat) (w : World) : Only g w w := World.grownBy.refl w _
theorem Only.drewN (h : Only g w w') (n : Nat) : Only g w (w'.drewN n) := ⟨h.os, h.tape, h.output, h.size, h.block⟩
theorem Only.drew (h : Only g w w') : Only g w w'.drew := ⟨h.os, h.tape, h.output, h.size, h.block⟩
theorem Only.set (h : Only g w w') (i : Nat) (v : Value) : Only g w (w'.setCell ⟨g, i, none⟩ v) :=
  ⟨h.os, h.tape, h.output, by simpa [World.setCell] using h.size, fun j hj hne => (Below.heap_setCell w' _ v j (by rintro rfl; exact hne rfl)).trans (h.block j hj hne)⟩
theorem Only.below {B : Nat} (h : Only g w w') (hB : B ≤ g) (hs : B ≤ w.heap.size) : Below B w w' :=
  ⟨h.os, h.tape, h.output, h.size, fun i hi => h.block i (by omega) (fun e => by injection e with e; omega)⟩
theorem Rd.only {A : Option Addr} {n c : Nat} {F : Nat → Nat} (h : Rd w A n c F) (ho : Only g w w') (hne : ∀ ad, A = some ad → ad.block ≠ g) : Rd w' A n c F :=
  h.keep ho.size fun p hp hl => World.cell?_of_block (ho.block p.block hl (fun e => by
    rcases A with _ | ad
    · simp at hp
    · have h1 : ad.block = p.block := by simpa using hp
      have h2 : p.block = g := by injection e
      exact hne ad rfl (h1.trans h2)))
end
theorem rdrew {A : Option Addr} {n c : Nat} {F : Nat → Nat} {w : World} (h : Rd w A n c F) : Rd w.drew A n c F := h
theorem upd_shift (O : Nat → Nat) (k j v : Nat) : (fun i => upd O (k + j) v (k + i)) = upd (fun i => O (k + i)) j v := by
  funext i
  unfold upd
  by_cases h : i = j
  · rw [if_pos h, if_pos (by omega)]
  · rw [if_neg h, if_neg (by omega)]

/-- what digit works on: a stretch of a block of words -/
structure Dig (g k L N1 n m c : Nat) (B : Option Addr) (O F : Nat → Nat) (w : World) : Prop where
  nm : n = m + 1
  len1 : N1 = n + 1
  vee : Rd w B n c F
  apart : ∀ ad, B = some ad → ad.block ≠ g
  row : Row w g L O
  word : ∀ i, O i < Wd
  room : k + N1 ≤ L
  top : 0 < F m
  lt : S (fun i => O (k + i)) N1 < S F n * 18446744073709551616
  small : n ≤ 1048576
  long : L ≤ 4194304
theorem Dig.pos {g k L N1 n m c : Nat} {B : Option Addr} {O F : Nat → Nat} {w : World} (h : Dig g k L N1 n m c B O F w) : 0 < S F n := by
  rw [h.nm, S_succ]
  have : 1 * Wd ^ m ≤ F m * Wd ^ m := Nat.mul_le_mul_right _ h.top
  have := Wp_pos m
  omega
theorem ret_u64 {a b : Int} (h : a = b) : Ending.returned (.int .u64 a) = .returned (.int .u64 b) := by rw [h]
def DigEnd (g k L N1 n : Nat) (O F : Nat → Nat) (w : World) (e : Ending) (w' : World) : Prop :=
  (∃ O', e = .returned (.int .u64 ((S (fun i => O (k + i)) N1 / S F n : Nat) : Int)) ∧ Row w' g L O' ∧ (∀ i, O' i < Wd) ∧ (∀ i, i < k ∨ k + N1 ≤ i → O' i = O i) ∧ S (fun i => O' (k + i)) N1 = S (fun i => O (k + i)) N1 % S F n) ∧ Only g w w'

theorem quiet_more {P : Program} {f : FuncId} {args : Array Value} {w : World} {a n : Nat} {v : Value}
    (h : Calls P f args (w.drewN (a + n)) fun e w' => e = .returned v ∧ ∃ m, w' = (w.drewN (a + n)).drewN m) :
    Calls P f args (w.drewN (a + n)) fun e w'' => e = .returned v ∧ ∃ m, w'' = w.drewN (a + m) :=
  h.mono fun _ _ ⟨he, m, hm⟩ => ⟨he, n + m, by rw [hm, World.drewN_drewN, Nat.add_assoc]⟩
set_option maxRecDepth 100000 in
set_option maxHeartbeats 4000000 in
theorem digit_low (g k L N1 n m c cu : Nat) (B : Option Addr) (O F : Nat → Nat) (w : World) (D : Dig g k L N1 n m c B O F w) :
    Calls Tryz.prog 92 #[.slice (some ⟨g, k, none⟩) N1 cu, .slice B n c] w (DigEnd g k L N1 n O F w) := by
  obtain ⟨bd, rfl, hb1, hvm⟩ := D.vee.at_ m (by have := D.nm; omega)
  have hN1a : N1 ≤ n + 1 := Nat.le_of_eq D.len1
  have hN1b : n + 1 ≤ N1 := Nat.le_of_eq D.len1.symm
  have hN1i : (n : Int) < (N1 : Int) := by omega
  have hn1 := D.small
  have hL1 := D.long
  have hroom := D.room
  have hnmi : (n : Int) - 1 = (m : Int) := by have := D.nm; omega
  have hnmw : IntKind.i64.wrap (m : Int) = (m : Int) := IntWalk.i64_in _ (by have := D.nm; omega)
  have hnmw2 : IntKind.i64.wrap ((n : Int) - 1) = (m : Int) := by rw [hnmi]; exact hnmw
  have hun := D.row.at_ (k + n) (by omega)
  have hum := D.row.at_ (k + m) (by have := D.nm; omega)
  have hmn : (m : Int) < n := by have := D.nm; omega
  have ho1 : O (k + n) < 18446744073709551616 := D.word _
  have ho2 : O (k + m) < 18446744073709551616 := D.word _
  have hf1 := D.vee.word' m (by have := D.nm; omega)
  have DD := Lib.hid D
  clear D
  by_cases hc : O (k + n) < F m
  · have t1 : decide (O (k + n) < F m) = true := decide_eq_true hc
    have t1i : decide ((O (k + n) : Int) < (F m : Int)) = true := decide_eq_true (by omega)
    obtain ⟨gs, hgs⟩ : ∃ gs, (O (k + n) * 18446744073709551616 + O (k + m)) / F m = gs := ⟨_, rfl⟩
    obtain ⟨rs, hrs⟩ : ∃ rs, (O (k + n) * 18446744073709551616 + O (k + m)) % F m = rs := ⟨_, rfl⟩
    have V := Lib.hid (fun w => div64_any (O (k + n)) (O (k + m)) (F m) gs rs w hc ho2 hf1 hgs hrs)
    have hgs64 : gs < 18446744073709551616 := by
      rw [← hgs, Nat.div_lt_iff_lt_mul DD.out.top]
      have : (O (k + n) + 1) * 18446744073709551616 ≤ F m * 18446744073709551616 := Nat.mul_le_mul_right _ hc
      omega
    have HGE : Hid (S (fun i => O (k + i)) N1 / S F n ≤ gs) := Lib.hid (by
      have e := DD.out.nm
      subst e
      rw [← hgs, show N1 = m + 2 by omega]
      exact guess_low (U := fun i => O (k + i)) (V := F) (fun i _ => DD.out.word _) DD.out.top hc)
    clear hgs hrs hc
    go_enter Tryz.func92, Tryz.ntmps92
    go_wp2_with fail
    go_step3
    go_wp2_with fail
    go_quiet (fail)
    go_wp2_with fail
    go_quiet ((go_at_call 111; exact quiet_more (V.out _)))
    go_wp2_with fail
    clear hun hum hvm hb1 t1 t1i hnmw hnmw2
    -- REST A (tools/digit.py)
    go_loopw [7, 8, 46] (fun bo ca i wr => ∃ (j borrow carry : Nat) (P : Nat → Nat), j ≤ N1 ∧ bo = .int .u64 borrow ∧ ca = .int .u64 carry ∧ i = .int .i64 j ∧ borrow ≤ 1 ∧ carry < 18446744073709551616 ∧ Hid (j = N1 → carry = 0) ∧ Hid (Row wr g L P) ∧ Hid (∀ i, P i < Wd) ∧ Hid (∀ i, i < k ∨ k + j ≤ i → P i = O i) ∧ Hid (S (fun i => P (k + i)) j + gs * S (ext n F) j = S (fun i => O (k + i)) j + (borrow + carry) * Wd ^ j) ∧ Hid (Only g w wr)) (fun _ _ i _ => N1 - (intOf i).toNat)
    case atStart => exact ⟨0, 0, 0, O, Nat.zero_le _, rfl, rfl, rfl, by decide, by decide, Lib.hid (fun h => by omega), Lib.hid DD.out.row, Lib.hid DD.out.word, Lib.hid (fun _ _ => rfl), Lib.hid (by simp [S_zero]), Lib.hid ((Only.refl g w).drewN _)⟩
    case round =>
      obtain ⟨j, borrow, carry, P, hj, rfl, rfl, rfl, hbo, hca, hc0, hrow, hP, hPO, hS, hW⟩ := hrel
      by_cases hlt : j < N1
      · have u1 : decide (j < N1) = true := decide_eq_true hlt
        have u1i : (j : Int) < (N1 : Int) := by omega
        have rV := Lib.hid (DD.out.vee.only hW.out DD.out.apart)
        have a1 := Lib.hid (fun wr h => at_ext (some bd) n c F j wr h)
        have hy64 := ext_lt DD.out.vee j
        have hy0 := Lib.hid (show j = n → ext n F j = 0 from fun h => if_neg (by omega))
        obtain ⟨t, ht⟩ : ∃ t, k + j = t := ⟨_, rfl⟩
        have htL : t < L := by omega
        have hPt : P t = O t := hPO.out t (Or.inr (by omega))
        have ho64 : P t < 18446744073709551616 := hP.out t
        have hc1 := hrow.out.at_ t htL
        have hf1 := hrow.out.free t
        rw [hPt] at ho64 hc1
        obtain ⟨y, hy⟩ : ∃ y, ext n F j = y := ⟨_, rfl⟩
        rw [hy] at a1 hy64 hy0
        obtain ⟨o, ho⟩ : ∃ o, O t = o := ⟨_, rfl⟩
        rw [ho] at ho64 hc1
        rw [← ht] at hc1 hf1
        obtain ⟨hi, e1⟩ : ∃ hi, gs * y / 18446744073709551616 = hi := ⟨_, rfl⟩
        obtain ⟨lo, e2⟩ : ∃ lo, gs * y % 18446744073709551616 = lo := ⟨_, rfl⟩
        obtain ⟨lo1, e3⟩ : ∃ lo1, (lo + carry) % 18446744073709551616 = lo1 := ⟨_, rfl⟩
        obtain ⟨c1, e4⟩ : ∃ c1, (lo + carry) / 18446744073709551616 = c1 := ⟨_, rfl⟩
        obtain ⟨_, m2, _, m4, m5, m6, _⟩ := mul_word (o := 0) hgs64 hy64 hca (by decide) e1 e2 e3 e4 rfl rfl
        have m2' : hi + c1 < 18446744073709551616 := by omega
        obtain ⟨s, e5⟩ : ∃ s, (o + 18446744073709551616 - lo1 - borrow) % 18446744073709551616 = s := ⟨_, rfl⟩
        obtain ⟨b1, e6⟩ : ∃ b1, (if o < lo1 + borrow then 1 else 0) = b1 := ⟨_, rfl⟩
        obtain ⟨n1, n2, n3⟩ := sub_word ho64 m5 hbo e5 e6
        have M := Lib.hid (fun w => Tryz.bits_Mul64 gs y hgs64 hy64 w)
        rw [e1, e2] at M
        have p1 := run_plus0 lo carry lo1 c1 e3 e4
        have p2 := run_minus o lo1 borrow s b1 hbo e5 e6
        have hst := Lib.hid (mulsub_step (P := upd (fun i => P (k + i)) j s) (U := fun i => O (k + i)) (V := ext n F) (g := gs) (hi := hi) (lo := lo) (lo1 := lo1) (c1 := c1) (s := s) (k := b1) (by rw [upd_S _ _ _ _ (Nat.le_refl _)]; exact hS.out) (by rw [hy, ← e1, ← e2]; exact (Nat.div_add_mod _ _).symm) (by rw [← e3, ← e4]; exact (Nat.div_add_mod _ _).symm) (by show s + lo1 + borrow = O (k + j) + _; rw [ht, ho]; exact n1) (upd_at _ _ _))
        have hz := Lib.hid (show j = n → hi + c1 = 0 from fun h => by
          have h0 := hy0.out h
          rw [h0, Nat.mul_zero] at e1 e2
          omega)
        have HT := Lib.hid ht
        clear e1 e2 e3 e4 e5 e6 n1 hy ho hPt ht
        go_wp2_with fail
        with_reducible (refine (a1.out _ rV.out).mono ?_)
        rintro e w' ⟨rfl, rfl⟩
        go_wp2_with fail
        with_reducible (refine (M.out _).mono ?_)
        rintro e w' ⟨rfl, rfl⟩
        go_wp2_with fail
        go_roundw
        case rel =>
          have ht := HT.out
          refine ⟨j + 1, b1, hi + c1, upd P (k + j) s, by omega, rfl, by go_num, by go_num, n2, m2', Lib.hid (fun h => hz.out (by omega)), Lib.hid (hrow.out.set (k + j) s), Lib.hid (fun i => ?_), Lib.hid (fun i hi => ?_), Lib.hid ?_, Lib.hid (hW.out.set _ _)⟩
          · by_cases h1 : i = k + j
            · rw [h1, upd_at]; exact n3
            · rw [upd_ne _ _ h1]; exact hP.out i
          · rw [upd_ne _ _ (by omega)]; exact hPO.out i (by omega)
          · rw [upd_shift]; exact hst.out
        case measure => simp [intOf]; omega
      · obtain rfl : N1 = j := by omega
        have u1 : decide (N1 < N1) = false := decide_eq_false (by omega)
        obtain rfl := hc0.out rfl
        have hS0 : Hid (S (fun i => P (k + i)) (N1) + gs * S F n = S (fun i => O (k + i)) (N1) + borrow * Wd ^ (N1)) := Lib.hid (by have := hS.out; rw [S_ext F (show n ≤ N1 by omega), Nat.add_zero] at this; exact this)
        clear hS hc0
        go_wp2_with fail
        go_step3
        go_wp2_with fail
        go_loopw [6, 7] (fun x bo wr => ∃ (g1 borrow : Nat) (P : Nat → Nat), x = .int .u64 g1 ∧ bo = .int .u64 borrow ∧ borrow ≤ 1 ∧ g1 < 18446744073709551616 ∧ Hid (S (fun i => O (k + i)) (N1) / S F n ≤ g1) ∧ Hid (Row wr g L P) ∧ Hid (∀ i, P i < Wd) ∧ Hid (∀ i, i < k ∨ k + N1 ≤ i → P i = O i) ∧ Hid (S (fun i => P (k + i)) (N1) + g1 * S F n = S (fun i => O (k + i)) (N1) + borrow * Wd ^ (N1)) ∧ Hid (Only g w wr)) (fun x _ _ => (intOf x).toNat)
        case atStart => exact ⟨gs, borrow, P, rfl, rfl, hbo, hgs64, HGE, hrow, hP, Lib.hid (fun i hi => hPO.out i (by omega)), hS0, hW⟩
        case round =>
          obtain ⟨g1, bo, P1, rfl, rfl, hbo1, hg1, hge, hrow1, hP1, hPO1, hS1, hW1⟩ := hrel
          have hYp : 0 < S F n := DD.out.pos
          rcases Nat.eq_zero_or_pos bo with h0 | h0
          · subst h0
            have x1 : (((0 : Nat) : Int) == 0) = true := by decide
            obtain ⟨f1, f2⟩ := digit_end hYp (by have := hS1.out; rw [Nat.zero_mul, Nat.add_zero] at this; exact this) hge.out
            have F1 := Lib.hid f1
            have F2 := Lib.hid f2
            clear f1 f2
            go_wp2_with fail
            try rw [Exit.noGoto_ret]
            go_ret
            exact ⟨⟨P1, ret_u64 (by rw [F1.out]), hrow1.out, hP1.out, hPO1.out, F2.out⟩, hW1.out⟩
          · have hbe : bo = 1 := by omega
            have x1 : ((bo : Int) == 0) = false := by simp; omega
            have hlt2 := digit_back hYp (by have := hS1.out; rw [hbe, Nat.one_mul] at this; exact this) (S_lt (F := fun i => P1 (k + i)) (n := N1) (fun i _ => hP1.out _))
            have hg1p : 0 < g1 := Nat.lt_of_le_of_lt (Nat.zero_le _) hlt2
            obtain ⟨g2, hg2⟩ : ∃ g2, g1 - 1 = g2 := ⟨_, rfl⟩
            have hg2i : (g1 : Int) - 1 = (g2 : Int) := by omega
            have HG2 := Lib.hid (show g1 = g2 + 1 by omega)
            have HBE := Lib.hid hbe
            have HL2 := Lib.hid hlt2
            obtain ⟨wo, hwo⟩ : ∃ wo, wo = wr := ⟨_, rfl⟩
            subst hwo
            clear hlt2 hg2 hYp hg1p hbe
            go_wp2_with fail
            go_loopw [8, 86] (fun ca i wr => ∃ (j carry : Nat) (P : Nat → Nat), j ≤ N1 ∧ ca = .int .u64 carry ∧ i = .int .i64 j ∧ carry ≤ 1 ∧ Hid (Row wr g L P) ∧ Hid (∀ i, P i < Wd) ∧ Hid (∀ i, i < k ∨ k + j ≤ i → P i = P1 i) ∧ Hid (S (fun i => P (k + i)) j + carry * Wd ^ j = S (fun i => P1 (k + i)) j + S (ext n F) j) ∧ Hid (Only g w wr)) (fun _ i _ => N1 - (intOf i).toNat)
            case atStart => exact ⟨0, 0, P1, Nat.zero_le _, rfl, rfl, by decide, hrow1, hP1, Lib.hid (fun _ _ => rfl), Lib.hid (by simp [S_zero]), hW1⟩
            case round =>
              obtain ⟨j, carry, P2, hj, rfl, rfl, hca, hrow2, hP2, hPO2, hS2, hW2⟩ := hrel
              by_cases hlt : j < N1
              · have u1 : decide (j < N1) = true := decide_eq_true hlt
                have u1i : (j : Int) < (N1 : Int) := by omega
                have rV := Lib.hid (DD.out.vee.only hW2.out DD.out.apart)
                have a1 := Lib.hid (fun wr h => at_ext (some bd) n c F j wr h)
                have hy64 := ext_lt DD.out.vee j
                obtain ⟨t, ht⟩ : ∃ t, k + j = t := ⟨_, rfl⟩
                have htL : t < L := by omega
                have hPt : P2 t = P1 t := hPO2.out t (Or.inr (by omega))
                have ho64 : P2 t < 18446744073709551616 := hP2.out t
                have hc1 := hrow2.out.at_ t htL
                have hf1 := hrow2.out.free t
                rw [hPt] at ho64 hc1
                obtain ⟨y, hy⟩ : ∃ y, ext n F j = y := ⟨_, rfl⟩
                rw [hy] at a1 hy64
                obtain ⟨o, ho⟩ : ∃ o, P1 t = o := ⟨_, rfl⟩
                rw [ho] at ho64 hc1
                rw [← ht] at hc1 hf1
                obtain ⟨s, e5⟩ : ∃ s, (o + y + carry) % 18446744073709551616 = s := ⟨_, rfl⟩
                obtain ⟨c1, e6⟩ : ∃ c1, (o + y + carry) / 18446744073709551616 = c1 := ⟨_, rfl⟩
                have p1 := run_plus o y carry s c1 hca e5 e6
                have hs64 : s < 18446744073709551616 := by omega
                have hc11 : c1 ≤ 1 := by omega
                have hst := Lib.hid (add_step (F := fun i => P1 (k + i)) (G := ext n F) (O := upd (fun i => P2 (k + i)) j s) (j := j) (c := carry) (s := s) (k := c1) (by show (P1 (k + j) + _ + _) % _ = _; rw [hy, ht, ho]; exact e5) (by show (P1 (k + j) + _ + _) / _ = _; rw [hy, ht, ho]; exact e6) (by rw [upd_S _ _ _ _ (Nat.le_refl _)]; exact hS2.out) (upd_at _ _ _))
                have HT := Lib.hid ht
                have hkj : IntKind.i64.wrap ((j : Int) + 1) = (j : Int) + 1 := IntWalk.i64_in _ (by omega)
                clear e5 e6 hy ho hPt ht
                go_wp2_with fail
                go_region_with ((go_at_call 77; with_reducible refine (a1.out _ (rdrew rV.out)).mono ?_; rintro e w' ⟨rfl, rfl⟩))
                all_goals
                  go_wp2_with fail
                  go_roundw
                  case rel =>
                    refine ⟨j + 1, c1, upd P2 (k + j) s, by omega, rfl, by go_num, hc11, Lib.hid (hrow2.out.set (k + j) s), Lib.hid (fun i => ?_), Lib.hid (fun i hi => ?_), Lib.hid ?_, Lib.hid (hW2.out.set _ _).drew⟩
                    · by_cases h1 : i = k + j
                      · rw [h1, upd_at]; exact hs64
                      · rw [upd_ne _ _ h1]; exact hP2.out i
                    · rw [upd_ne _ _ (by omega)]; exact hPO2.out i (by omega)
                    · rw [upd_shift]; exact hst.out
                  case measure => simp [intOf]; omega
              · obtain rfl : N1 = j := by omega
                have u1 : decide (N1 < N1) = false := decide_eq_false (by omega)
                obtain ⟨bo2, hbo2⟩ : ∃ bo2, bo - carry = bo2 := ⟨_, rfl⟩
                have hbe := HBE.out
                have hb2i : (bo : Int) - (carry : Int) = (bo2 : Int) := by omega
                have HB2 := Lib.hid (show bo2 + carry = 1 by omega)
                have hbo21 : bo2 ≤ 1 := by omega
                clear hbo2 hbe
                go_wp2_with fail
                go_roundw
                case rel =>
                  have hgg := HG2.out
                  have hll := HL2.out
                  refine ⟨g2, bo2, P2, rfl, rfl, hbo21, by omega, Lib.hid (by omega), hrow2, hP2, Lib.hid (fun i hi => ?_), Lib.hid ?_, hW2⟩
                  · rw [hPO2.out i (by omega)]; exact hPO1.out i hi
                  · have h1 := hS1.out
                    have h2 := hS2.out
                    have h3 := HB2.out
                    rw [S_ext F (show n ≤ N1 by omega)] at h2
                    rw [hgg, Nat.add_mul, Nat.one_mul, HBE.out, Nat.one_mul] at h1
                    have h4 : (bo2 + carry) * Wd ^ (N1) = Wd ^ (N1) := by rw [h3, Nat.one_mul]
                    rw [Nat.add_mul] at h4
                    omega
                case measure => have := HG2.out; simp [intOf]; omega
    -- END A
  · have t1 : decide (O (k + n) < F m) = false := decide_eq_false hc
    have t1i : decide ((O (k + n) : Int) < (F m : Int)) = false := decide_eq_false (by omega)
    obtain ⟨gs, hgs⟩ : ∃ gs, gs = 18446744073709551615 := ⟨_, rfl⟩
    have hgs64 : gs < 18446744073709551616 := by omega
    have hgsi : (18446744073709551615 : Int) = (gs : Int) := by omega
    have HGE : Hid (S (fun i => O (k + i)) N1 / S F n ≤ gs) := Lib.hid (by
      have := quo_word DD.out.lt
      omega)
    clear hgs hc
    go_enter Tryz.func92, Tryz.ntmps92
    go_wp2_with fail
    go_step3
    go_wp2_with fail
    go_quiet (fail)
    go_wp2_with fail
    rw [hgsi]
    clear hun hum hvm hb1 t1 t1i hnmw hnmw2 hgsi
    -- REST B (tools/digit.py)
    go_loopw [7, 8, 46] (fun bo ca i wr => ∃ (j borrow carry : Nat) (P : Nat → Nat), j ≤ N1 ∧ bo = .int .u64 borrow ∧ ca = .int .u64 carry ∧ i = .int .i64 j ∧ borrow ≤ 1 ∧ carry < 18446744073709551616 ∧ Hid (j = N1 → carry = 0) ∧ Hid (Row wr g L P) ∧ Hid (∀ i, P i < Wd) ∧ Hid (∀ i, i < k ∨ k + j ≤ i → P i = O i) ∧ Hid (S (fun i => P (k + i)) j + gs * S (ext n F) j = S (fun i => O (k + i)) j + (borrow + carry) * Wd ^ j) ∧ Hid (Only g w wr)) (fun _ _ i _ => N1 - (intOf i).toNat)
    case atStart => exact ⟨0, 0, 0, O, Nat.zero_le _, rfl, rfl, rfl, by decide, by decide, Lib.hid (fun h => by omega), Lib.hid DD.out.row, Lib.hid DD.out.word, Lib.hid (fun _ _ => rfl), Lib.hid (by simp [S_zero]), Lib.hid ((Only.refl g w).drewN _)⟩
    case round =>
      obtain ⟨j, borrow, carry, P, hj, rfl, rfl, rfl, hbo, hca, hc0, hrow, hP, hPO, hS, hW⟩ := hrel
      by_cases hlt : j < N1
      · have u1 : decide (j < N1) = true := decide_eq_true hlt
        have u1i : (j : Int) < (N1 : Int) := by omega
        have rV := Lib.hid (DD.out.vee.only hW.out DD.out.apart)
        have a1 := Lib.hid (fun wr h => at_ext (some bd) n c F j wr h)
        have hy64 := ext_lt DD.out.vee j
        have hy0 := Lib.hid (show j = n → ext n F j = 0 from fun h => if_neg (by omega))
        obtain ⟨t, ht⟩ : ∃ t, k + j = t := ⟨_, rfl⟩
        have htL : t < L := by omega
        have hPt : P t = O t := hPO.out t (Or.inr (by omega))
        have ho64 : P t < 18446744073709551616 := hP.out t
        have hc1 := hrow.out.at_ t htL
        have hf1 := hrow.out.free t
        rw [hPt] at ho64 hc1
        obtain ⟨y, hy⟩ : ∃ y, ext n F j = y := ⟨_, rfl⟩
        rw [hy] at a1 hy64 hy0
        obtain ⟨o, ho⟩ : ∃ o, O t = o := ⟨_, rfl⟩
        rw [ho] at ho64 hc1
        rw [← ht] at hc1 hf1
        obtain ⟨hi, e1⟩ : ∃ hi, gs * y / 18446744073709551616 = hi := ⟨_, rfl⟩
        obtain ⟨lo, e2⟩ : ∃ lo, gs * y % 18446744073709551616 = lo := ⟨_, rfl⟩
        obtain ⟨lo1, e3⟩ : ∃ lo1, (lo + carry) % 18446744073709551616 = lo1 := ⟨_, rfl⟩
        obtain ⟨c1, e4⟩ : ∃ c1, (lo + carry) / 18446744073709551616 = c1 := ⟨_, rfl⟩
        obtain ⟨_, m2, _, m4, m5, m6, _⟩ := mul_word (o := 0) hgs64 hy64 hca (by decide) e1 e2 e3 e4 rfl rfl
        have m2' : hi + c1 < 18446744073709551616 := by omega
        obtain ⟨s, e5⟩ : ∃ s, (o + 18446744073709551616 - lo1 - borrow) % 18446744073709551616 = s := ⟨_, rfl⟩
        obtain ⟨b1, e6⟩ : ∃ b1, (if o < lo1 + borrow then 1 else 0) = b1 := ⟨_, rfl⟩
        obtain ⟨n1, n2, n3⟩ := sub_word ho64 m5 hbo e5 e6
        have M := Lib.hid (fun w => Tryz.bits_Mul64 gs y hgs64 hy64 w)
        rw [e1, e2] at M
        have p1 := run_plus0 lo carry lo1 c1 e3 e4
        have p2 := run_minus o lo1 borrow s b1 hbo e5 e6
        have hst := Lib.hid (mulsub_step (P := upd (fun i => P (k + i)) j s) (U := fun i => O (k + i)) (V := ext n F) (g := gs) (hi := hi) (lo := lo) (lo1 := lo1) (c1 := c1) (s := s) (k := b1) (by rw [upd_S _ _ _ _ (Nat.le_refl _)]; exact hS.out) (by rw [hy, ← e1, ← e2]; exact (Nat.div_add_mod _ _).symm) (by rw [← e3, ← e4]; exact (Nat.div_add_mod _ _).symm) (by show s + lo1 + borrow = O (k + j) + _; rw [ht, ho]; exact n1) (upd_at _ _ _))
        have hz := Lib.hid (show j = n → hi + c1 = 0 from fun h => by
          have h0 := hy0.out h
          rw [h0, Nat.mul_zero] at e1 e2
          omega)
        have HT := Lib.hid ht
        clear e1 e2 e3 e4 e5 e6 n1 hy ho hPt ht
        go_wp2_with fail
        with_reducible (refine (a1.out _ rV.out).mono ?_)
        rintro e w' ⟨rfl, rfl⟩
        go_wp2_with fail
        with_reducible (refine (M.out _).mono ?_)
        rintro e w' ⟨rfl, rfl⟩
        go_wp2_with fail
        go_roundw
        case rel =>
          have ht := HT.out
          refine ⟨j + 1, b1, hi + c1, upd P (k + j) s, by omega, rfl, by go_num, by go_num, n2, m2', Lib.hid (fun h => hz.out (by omega)), Lib.hid (hrow.out.set (k + j) s), Lib.hid (fun i => ?_), Lib.hid (fun i hi => ?_), Lib.hid ?_, Lib.hid (hW.out.set _ _)⟩
          · by_cases h1 : i = k + j
            · rw [h1, upd_at]; exact n3
            · rw [upd_ne _ _ h1]; exact hP.out i
          · rw [upd_ne _ _ (by omega)]; exact hPO.out i (by omega)
          · rw [upd_shift]; exact hst.out
        case measure => simp [intOf]; omega
      · obtain rfl : N1 = j := by omega
        have u1 : decide (N1 < N1) = false := decide_eq_false (by omega)
        obtain rfl := hc0.out rfl
        have hS0 : Hid (S (fun i => P (k + i)) (N1) + gs * S F n = S (fun i => O (k + i)) (N1) + borrow * Wd ^ (N1)) := Lib.hid (by have := hS.out; rw [S_ext F (show n ≤ N1 by omega), Nat.add_zero] at this; exact this)
        clear hS hc0
        go_wp2_with fail
        go_step3
        go_wp2_with fail
        go_loopw [6, 7] (fun x bo wr => ∃ (g1 borrow : Nat) (P : Nat → Nat), x = .int .u64 g1 ∧ bo = .int .u64 borrow ∧ borrow ≤ 1 ∧ g1 < 18446744073709551616 ∧ Hid (S (fun i => O (k + i)) (N1) / S F n ≤ g1) ∧ Hid (Row wr g L P) ∧ Hid (∀ i, P i < Wd) ∧ Hid (∀ i, i < k ∨ k + N1 ≤ i → P i = O i) ∧ Hid (S (fun i => P (k + i)) (N1) + g1 * S F n = S (fun i => O (k + i)) (N1) + borrow * Wd ^ (N1)) ∧ Hid (Only g w wr)) (fun x _ _ => (intOf x).toNat)
        case atStart => exact ⟨gs, borrow, P, rfl, rfl, hbo, hgs64, HGE, hrow, hP, Lib.hid (fun i hi => hPO.out i (by omega)), hS0, hW⟩
        case round =>
          obtain ⟨g1, bo, P1, rfl, rfl, hbo1, hg1, hge, hrow1, hP1, hPO1, hS1, hW1⟩ := hrel
          have hYp : 0 < S F n := DD.out.pos
          rcases Nat.eq_zero_or_pos bo with h0 | h0
          · subst h0
            have x1 : (((0 : Nat) : Int) == 0) = true := by decide
            obtain ⟨f1, f2⟩ := digit_end hYp (by have := hS1.out; rw [Nat.zero_mul, Nat.add_zero] at this; exact this) hge.out
            have F1 := Lib.hid f1
            have F2 := Lib.hid f2
            clear f1 f2
            go_wp2_with fail
            try rw [Exit.noGoto_ret]
            go_ret
            exact ⟨⟨P1, ret_u64 (by rw [F1.out]), hrow1.out, hP1.out, hPO1.out, F2.out⟩, hW1.out⟩
          · have hbe : bo = 1 := by omega
            have x1 : ((bo : Int) == 0) = false := by simp; omega
            have hlt2 := digit_back hYp (by have := hS1.out; rw [hbe, Nat.one_mul] at this; exact this) (S_lt (F := fun i => P1 (k + i)) (n := N1) (fun i _ => hP1.out _))
            have hg1p : 0 < g1 := Nat.lt_of_le_of_lt (Nat.zero_le _) hlt2
            obtain ⟨g2, hg2⟩ : ∃ g2, g1 - 1 = g2 := ⟨_, rfl⟩
            have hg2i : (g1 : Int) - 1 = (g2 : Int) := by omega
            have HG2 := Lib.hid (show g1 = g2 + 1 by omega)
            have HBE := Lib.hid hbe
            have HL2 := Lib.hid hlt2
            obtain ⟨wo, hwo⟩ : ∃ wo, wo = wr := ⟨_, rfl⟩
            subst hwo
            clear hlt2 hg2 hYp hg1p hbe
            go_wp2_with fail
            go_loopw [8, 86] (fun ca i wr => ∃ (j carry : Nat) (P : Nat → Nat), j ≤ N1 ∧ ca = .int .u64 carry ∧ i = .int .i64 j ∧ carry ≤ 1 ∧ Hid (Row wr g L P) ∧ Hid (∀ i, P i < Wd) ∧ Hid (∀ i, i < k ∨ k + j ≤ i → P i = P1 i) ∧ Hid (S (fun i => P (k + i)) j + carry * Wd ^ j = S (fun i => P1 (k + i)) j + S (ext n F) j) ∧ Hid (Only g w wr)) (fun _ i _ => N1 - (intOf i).toNat)
            case atStart => exact ⟨0, 0, P1, Nat.zero_le _, rfl, rfl, by decide, hrow1, hP1, Lib.hid (fun _ _ => rfl), Lib.hid (by simp [S_zero]), hW1⟩
            case round =>
              obtain ⟨j, carry, P2, hj, rfl, rfl, hca, hrow2, hP2, hPO2, hS2, hW2⟩ := hrel
              by_cases hlt : j < N1
              · have u1 : decide (j < N1) = true := decide_eq_true hlt
                have u1i : (j : Int) < (N1 : Int) := by omega
                have rV := Lib.hid (DD.out.vee.only hW2.out DD.out.apart)
                have a1 := Lib.hid (fun wr h => at_ext (some bd) n c F j wr h)
                have hy64 := ext_lt DD.out.vee j
                obtain ⟨t, ht⟩ : ∃ t, k + j = t := ⟨_, rfl⟩
                have htL : t < L := by omega
                have hPt : P2 t = P1 t := hPO2.out t (Or.inr (by omega))
                have ho64 : P2 t < 18446744073709551616 := hP2.out t
                have hc1 := hrow2.out.at_ t htL
                have hf1 := hrow2.out.free t
                rw [hPt] at ho64 hc1
                obtain ⟨y, hy⟩ : ∃ y, ext n F j = y := ⟨_, rfl⟩
                rw [hy] at a1 hy64
                obtain ⟨o, ho⟩ : ∃ o, P1 t = o := ⟨_, rfl⟩
                rw [ho] at ho64 hc1
                rw [← ht] at hc1 hf1
                obtain ⟨s, e5⟩ : ∃ s, (o + y + carry) % 18446744073709551616 = s := ⟨_, rfl⟩
                obtain ⟨c1, e6⟩ : ∃ c1, (o + y + carry) / 18446744073709551616 = c1 := ⟨_, rfl⟩
                have p1 := run_plus o y carry s c1 hca e5 e6
                have hs64 : s < 18446744073709551616 := by omega
                have hc11 : c1 ≤ 1 := by omega
                have hst := Lib.hid (add_step (F := fun i => P1 (k + i)) (G := ext n F) (O := upd (fun i => P2 (k + i)) j s) (j := j) (c := carry) (s := s) (k := c1) (by show (P1 (k + j) + _ + _) % _ = _; rw [hy, ht, ho]; exact e5) (by show (P1 (k + j) + _ + _) / _ = _; rw [hy, ht, ho]; exact e6) (by rw [upd_S _ _ _ _ (Nat.le_refl _)]; exact hS2.out) (upd_at _ _ _))
                have HT := Lib.hid ht
                have hkj : IntKind.i64.wrap ((j : Int) + 1) = (j : Int) + 1 := IntWalk.i64_in _ (by omega)
                clear e5 e6 hy ho hPt ht
                go_wp2_with fail
                go_region_with ((go_at_call 77; with_reducible refine (a1.out _ (rdrew rV.out)).mono ?_; rintro e w' ⟨rfl, rfl⟩))
                all_goals
                  go_wp2_with fail
                  go_roundw
                  case rel =>
                    refine ⟨j + 1, c1, upd P2 (k + j) s, by omega, rfl, by go_num, hc11, Lib.hid (hrow2.out.set (k + j) s), Lib.hid (fun i => ?_), Lib.hid (fun i hi => ?_), Lib.hid ?_, Lib.hid (hW2.out.set _ _).drew⟩
                    · by_cases h1 : i = k + j
                      · rw [h1, upd_at]; exact hs64
                      · rw [upd_ne _ _ h1]; exact hP2.out i
                    · rw [upd_ne _ _ (by omega)]; exact hPO2.out i (by omega)
                    · rw [upd_shift]; exact hst.out
                  case measure => simp [intOf]; omega
              · obtain rfl : N1 = j := by omega
                have u1 : decide (N1 < N1) = false := decide_eq_false (by omega)
                obtain ⟨bo2, hbo2⟩ : ∃ bo2, bo - carry = bo2 := ⟨_, rfl⟩
                have hbe := HBE.out
                have hb2i : (bo : Int) - (carry : Int) = (bo2 : Int) := by omega
                have HB2 := Lib.hid (show bo2 + carry = 1 by omega)
                have hbo21 : bo2 ≤ 1 := by omega
                clear hbo2 hbe
                go_wp2_with fail
                go_roundw
                case rel =>
                  have hgg := HG2.out
                  have hll := HL2.out
                  refine ⟨g2, bo2, P2, rfl, rfl, hbo21, by omega, Lib.hid (by omega), hrow2, hP2, Lib.hid (fun i hi => ?_), Lib.hid ?_, hW2⟩
                  · rw [hPO2.out i (by omega)]; exact hPO1.out i hi
                  · have h1 := hS1.out
                    have h2 := hS2.out
                    have h3 := HB2.out
                    rw [S_ext F (show n ≤ N1 by omega)] at h2
                    rw [hgg, Nat.add_mul, Nat.one_mul, HBE.out, Nat.one_mul] at h1
                    have h4 : (bo2 + carry) * Wd ^ (N1) = Wd ^ (N1) := by rw [h3, Nat.one_mul]
                    rw [Nat.add_mul] at h4
                    omega
                case measure => have := HG2.out; simp [intOf]; omega
    -- END B
end Go.Proofs.YtlmeobokpibifaaGreatDoor
end

section
set_option linter.unusedSimpArgs false
set_option linter.unusedVariables false
set_option linter.unusedVariables false
namespace Go.Proofs.YtlmeobokpibifaaGreatDoor

/-- what holds when the words of the quotient from the j-th on are found -/
structure Found (Uo O Qw : Nat → Nat) (n1 lv Q V j : Nat) : Prop where
  low : ∀ i, i < j → O i = Uo i
  high : ∀ i, j + lv ≤ i → i < n1 → O i = 0
  rest : S (fun i => O (j + i)) lv < V
  sum : tl Uo n1 j = tl Qw Q j * V + S (fun i => O (j + i)) lv

theorem found_start {Uo : Nat → Nat} {n1 lv Q V : Nat} (hQ : Q + lv = n1) (hl : 0 < lv) (hU : ∀ i, Uo i < Wd) (hz : Uo (n1 - 1) = 0) (hV : Wd ^ (lv - 1) ≤ V) (Qw : Nat → Nat) : Found Uo Uo Qw n1 lv Q V Q := by
  have e : S (fun i => Uo (Q + i)) lv = S (fun i => Uo (Q + i)) (lv - 1) := by
    obtain ⟨m, rfl⟩ : ∃ m, lv = m + 1 := ⟨lv - 1, by omega⟩
    rw [S_succ, Nat.add_sub_cancel]
    have : Uo (Q + m) = 0 := by rw [← hz]; congr 1; omega
    rw [this, Nat.zero_mul, Nat.add_zero]
  refine ⟨fun _ _ => rfl, fun i h1 h2 => by omega, ?_, ?_⟩
  · rw [e]
    have := S_lt (F := fun i => Uo (Q + i)) (n := lv - 1) (fun i _ => hU _)
    omega
  · rw [tl_end, Nat.zero_mul, Nat.zero_add]
    unfold tl
    rw [show n1 - Q = lv by omega]

theorem found_x {Uo O Qw : Nat → Nat} {n1 lv Q V t : Nat} (h : Found Uo O Qw n1 lv Q V (t + 1)) : S (fun i => O (t + i)) (lv + 1) = O t + Wd * S (fun i => O (t + 1 + i)) lv := by
  rw [S_shift, Nat.add_zero]
  congr 2
  exact S_congr fun i _ => by congr 1; omega
theorem found_lt {Uo O Qw : Nat → Nat} {n1 lv Q V t : Nat} (h : Found Uo O Qw n1 lv Q V (t + 1)) (hO : O t < Wd) : S (fun i => O (t + i)) (lv + 1) < V * 18446744073709551616 := by
  rw [found_x h]
  have := h.rest
  have e : Wd * (S (fun i => O (t + 1 + i)) lv + 1) ≤ Wd * V := Nat.mul_le_mul_left _ this
  rw [Nat.mul_add, Nat.mul_one, Nat.mul_comm Wd V] at e
  rw [Wd_eq] at e hO ⊢
  omega
theorem found_step {Uo O P Qw : Nat → Nat} {n1 lv Q V t q : Nat} (h : Found Uo O Qw n1 lv Q V (t + 1)) (hQ : Q + lv = n1) (htQ : t < Q) (hV : V < Wd ^ lv) (hP : ∀ i, i < t ∨ t + (lv + 1) ≤ i → P i = O i) (hPw : ∀ i, P i < Wd)
    (hq : S (fun i => O (t + i)) (lv + 1) / V = q) (hr : S (fun i => P (t + i)) (lv + 1) = S (fun i => O (t + i)) (lv + 1) % V) (hV0 : 0 < V) : Found Uo P (upd Qw t q) n1 lv Q V t := by
  have hrl := Nat.mod_lt (S (fun i => O (t + i)) (lv + 1)) hV0
  have hz : P (t + lv) = 0 := by
    rcases Nat.eq_zero_or_pos (P (t + lv)) with h0 | h0
    · exact h0
    · exfalso
      rw [S_succ] at hr
      have : 1 * Wd ^ lv ≤ P (t + lv) * Wd ^ lv := Nat.mul_le_mul_right _ h0
      omega
  have hs : S (fun i => P (t + i)) lv = S (fun i => O (t + i)) (lv + 1) % V := by
    rw [← hr, S_succ, hz, Nat.zero_mul, Nat.add_zero]
  have hx := found_x h
  refine ⟨fun i hi => by rw [hP i (Or.inl hi)]; exact h.low i (by omega), fun i h1 h2 => ?_, by rw [hs]; exact hrl, ?_⟩
  · rcases Nat.eq_or_lt_of_le h1 with e | e
    · rw [← e]; exact hz
    · rw [hP i (Or.inr (by omega))]; exact h.high i (by omega) h2
  · rw [tl_step Uo (by omega), tl_step (upd Qw t q) htQ, upd_at, tl_congr (F := upd Qw t q) (G := Qw) (fun i hi => upd_ne Qw q (by omega)), h.sum, hs, ← h.low t (by omega)]
    have d := Nat.div_add_mod (S (fun i => O (t + i)) (lv + 1)) V
    rw [hq, Nat.mul_comm] at d
    rw [Nat.add_mul, Nat.mul_add, Nat.mul_assoc Wd]
    omega
theorem found_end {Uo O Qw : Nat → Nat} {n1 lv Q V : Nat} (h : Found Uo O Qw n1 lv Q V 0) (hQ : Q + lv = n1) (hV0 : 0 < V) : S Qw Q = S Uo n1 / V ∧ S O n1 = S Uo n1 % V := by
  have hs := h.sum
  have e : S O n1 = S (fun i => O (0 + i)) lv := by
    rw [S_zeros (show lv ≤ n1 by omega) (fun i h1 h2 => h.high i (by omega) h2)]
    exact S_congr fun i _ => by rw [Nat.zero_add]
  rw [← e, tl_zero, tl_zero] at hs
  have hr := h.rest
  rw [← e] at hr
  rw [hs, Nat.mul_comm (S Qw Q)]
  refine ⟨?_, ?_⟩
  · rw [Nat.mul_add_div hV0, Nat.div_eq_of_lt hr, Nat.add_zero]
  · rw [Nat.mul_add_mod, Nat.mod_eq_of_lt hr]
end Go.Proofs.YtlmeobokpibifaaGreatDoor
end

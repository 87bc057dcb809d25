/- caliperref05.Join walked: it answers the key that has the fields, if there is one. Conditions: as each theorem names them. -/
import Derived.Test.YtfmecakoccnblaaDoorPositRk2
set_option linter.unusedVariables false
namespace Go.Proofs.YtfmecakoccnblaaDoor
open Go.RowKit

theorem refJoin_range (wd rg ex bt : Int) (fr : Nat) (w : World) (h : ¬ (3 ≤ wd ∧ wd ≤ 65 ∧ rg ≤ 64 ∧ -64 ≤ rg ∧ 0 ≤ ex ∧ ex ≤ 3 ∧ 0 ≤ bt ∧ bt ≤ 64)) :
    Calls Tryd.prog 21 #[.int .i64 wd, .agg #[.int .i64 rg, .int .i64 ex, .int .u64 fr, .int .i64 bt]] w fun r w' => r = .returned (.tuple #[.int .u64 0, .bool false]) ∧ Below w.heap.size w w' := by
  by_cases a1 : wd < 3
  · have t1 : decide (wd < 3) = true := by simpa using a1
    clear h
    go_enter Tryd.func21, Tryd.ntmps21
    go_wp2_with fail
    go_ret2
    exact ⟨rfl, (Below.refl _ _).alloc (Nat.le_refl _) _⟩
  have t1 : decide (wd < 3) = false := by simpa using a1
  by_cases a2 : 65 < wd
  · have t2 : decide (65 < wd) = true := by simpa using a2
    clear h
    go_enter Tryd.func21, Tryd.ntmps21
    go_wp2_with fail
    go_ret2
    exact ⟨rfl, (Below.refl _ _).alloc (Nat.le_refl _) _⟩
  have t2 : decide (65 < wd) = false := by simpa using a2
  by_cases a3 : 64 < rg
  · have t3 : decide (64 < rg) = true := by simpa using a3
    clear h
    go_enter Tryd.func21, Tryd.ntmps21
    go_wp2_with fail
    go_ret2
    exact ⟨rfl, (Below.refl _ _).alloc (Nat.le_refl _) _⟩
  have t3 : decide (64 < rg) = false := by simpa using a3
  by_cases a4 : rg < -64
  · have t4 : decide (rg < -64) = true := by simpa using a4
    clear h
    go_enter Tryd.func21, Tryd.ntmps21
    go_wp2_with fail
    go_ret2
    exact ⟨rfl, (Below.refl _ _).alloc (Nat.le_refl _) _⟩
  have t4 : decide (rg < -64) = false := by simpa using a4
  by_cases a5 : ex < 0
  · have t5 : decide (ex < 0) = true := by simpa using a5
    clear h
    go_enter Tryd.func21, Tryd.ntmps21
    go_wp2_with fail
    go_ret2
    exact ⟨rfl, (Below.refl _ _).alloc (Nat.le_refl _) _⟩
  have t5 : decide (ex < 0) = false := by simpa using a5
  by_cases a6 : 3 < ex
  · have t6 : decide (3 < ex) = true := by simpa using a6
    clear h
    go_enter Tryd.func21, Tryd.ntmps21
    go_wp2_with fail
    go_ret2
    exact ⟨rfl, (Below.refl _ _).alloc (Nat.le_refl _) _⟩
  have t6 : decide (3 < ex) = false := by simpa using a6
  by_cases a7 : bt < 0
  · have t7 : decide (bt < 0) = true := by simpa using a7
    clear h
    go_enter Tryd.func21, Tryd.ntmps21
    go_wp2_with fail
    go_ret2
    exact ⟨rfl, (Below.refl _ _).alloc (Nat.le_refl _) _⟩
  have t7 : decide (bt < 0) = false := by simpa using a7
  have a8 : 64 < bt := by omega
  have t8 : decide (64 < bt) = true := by simpa using a8
  clear h
  go_enter Tryd.func21, Tryd.ntmps21
  go_wp2_with fail
  go_ret2
  exact ⟨rfl, (Below.refl _ _).alloc (Nat.le_refl _) _⟩

theorem conv_two (x y : Int) (b : Nat) (hx : x = ((48 + b / 2 % 2 : Nat) : Int)) (hy : y = ((48 + b % 2 : Nat) : Int)) (w : World) (B : Nat) (hB : w.heap.size = B) :
    (Sem.run Tryd.prog (convert 64 9 (Value.slice (some { block := B, off := 0 }) 2 2)) (w.alloc (Obj.cells #[Value.int IntKind.u8 x, Value.int IntKind.u8 y] 5))) = .ok (.string ⟨#[bitC (b / 2), bitC b]⟩) (w.alloc (Obj.cells #[Value.int IntKind.u8 x, Value.int IntKind.u8 y] 5)) := by
  subst hx
  subst hy
  subst hB
  rw [run_convert_bytes_string _ 64 9 5 _ _ _ (by kernel_rfl) (by kernel_rfl) (by kernel_rfl), run_bytesToString _ _ _ _ [((48 + b / 2 % 2 : Nat) : Int), ((48 + b % 2 : Nat) : Int)] (by simp [go_sem]) ]
  rfl
theorem BT.two (b : Nat) : BT ⟨#[bitC (b / 2), bitC b]⟩ 2 b := by
  show [_, _] = [bitC (b / 2 ^ 1), bitC (b / 2 ^ 0)]
  rw [Nat.pow_zero, Nat.div_one, Nat.pow_one]

def JoinEnd (n : Nat) (rg : Int) (ex fr bt : Nat) (r : Ending) : Prop :=
  (∃ key, 0 < key ∧ key < 2 ^ n ∧ fReg n key = rg ∧ fExp n key = ex ∧ fFrac n key = fr ∧ fBits n key = bt ∧ r = .returned (.tuple #[.int .u64 key, .bool true])) ∨
  ((¬ ∃ key, 0 < key ∧ key < 2 ^ n ∧ fReg n key = rg ∧ fExp n key = ex ∧ fFrac n key = fr ∧ fBits n key = bt) ∧ ∃ x : Int, r = .returned (.tuple #[.int .u64 x, .bool false]))

/-- the letters of the regime, of the exponent and of the fraction -/
theorem pat_one (R : Nat) : 2 ^ (R + 1) - 1 = (2 ^ R - 1) * 2 ^ 1 + 1 := by
  have := Nat.two_pow_pos R
  rw [pow_add_one]; omega
theorem all_lt (q : Int) (ex fr b : Nat) (he : ex ≤ 3) (hf : fr < 2 ^ b) : allOf q ex fr b < 2 ^ allLen q b := by
  have hp : patOf q < 2 ^ patLen q := by
    unfold patOf patLen
    by_cases h : q < 0
    · rw [if_pos h, if_pos h, pow_add_one]
      have := Nat.two_pow_pos (-q).toNat
      omega
    · rw [if_neg h, if_neg h]
      have := Nat.two_pow_pos (q.toNat + 2)
      omega
  unfold allOf allLen
  rw [Nat.pow_add, Nat.pow_add]
  have h1 : patOf q * 4 + ex < 2 ^ patLen q * 2 ^ 2 := by omega
  have h2 : (patOf q * 4 + ex + 1) * 2 ^ b ≤ 2 ^ patLen q * 2 ^ 2 * 2 ^ b := Nat.mul_le_mul_right _ h1
  rw [Nat.add_mul, Nat.one_mul] at h2
  omega

theorem box_read {w wr : World} {a b c d : Value} {t : TypeId} (h : Below (w.heap.size + 1) (w.alloc (.cells #[a, b, c, d] t)) wr) :
    wr.cell? ⟨w.heap.size, 0, none⟩ = some a ∧ wr.cell? ⟨w.heap.size, 1, none⟩ = some b ∧ wr.cell? ⟨w.heap.size, 2, none⟩ = some c ∧ wr.cell? ⟨w.heap.size, 3, none⟩ = some d ∧ w.heap.size < wr.heap.size := by
  have hs := h.size
  simp at hs
  refine ⟨?_, ?_, ?_, ?_, by omega⟩ <;> (rw [h.cell (by simp)]; simp [go_sem])
theorem box_low {w wr : World} {o : Obj} (h : Below (w.heap.size + 1) (w.alloc o) wr) : Below w.heap.size w wr :=
  ((Below.refl _ _).alloc (Nat.le_refl _) _).trans (h.mono (by omega))
theorem box_then {w wr w2 : World} {o : Obj} (h : Below (w.heap.size + 1) (w.alloc o) wr) (k : Below wr.heap.size wr w2) : Below (w.heap.size + 1) (w.alloc o) w2 :=
  h.trans (k.mono (by have := h.size; simp at this; omega))
theorem box_grow {w wr : World} {o : Obj} (h : Below (w.heap.size + 1) (w.alloc o) wr) (o2 : Obj) : Below (w.heap.size + 1) (w.alloc o) (wr.alloc o2) :=
  h.alloc (by have := h.size; simp at this; omega) _
theorem box_key {n key ex fr bt : Nat} {rg : Int} (n2 : 2 ≤ n) (n64 : n ≤ 64) (a : 0 < key) (b : key < 2 ^ n) (c : fReg n key = rg) (d : fExp n key = ex) (e : fFrac n key = fr) (f : fBits n key = bt) :
    n ≤ allLen rg bt ∧ allOf rg ex fr bt / 2 ^ (allLen rg bt - n) = key ∧ fr < 2 ^ bt := by
  subst c d e f
  obtain ⟨x, y⟩ := key_text n2 n64 a b
  exact ⟨x, y, (tail_parts n2 n64 a b).2.2.1⟩

set_option maxHeartbeats 4000000 in
theorem refJoin_walk (wd rg : Int) (n ex fr bt : Nat) (w : World) (hn : wd - 1 = (n : Int)) (h1 : 3 ≤ wd) (h2 : wd ≤ 65) (h3 : rg ≤ 64) (h4 : -64 ≤ rg) (h5 : ex ≤ 3) (h6 : bt ≤ 64) (hfr : fr < 18446744073709551616) :
    Calls Tryd.prog 21 #[.int .i64 wd, .agg #[.int .i64 rg, .int .i64 ex, .int .u64 fr, .int .i64 bt]] w fun r w' => JoinEnd n rg ex fr bt r ∧ Below w.heap.size w w' := by
  have t1 : decide (wd < 3) = false := by simp; omega
  have t2 : decide (65 < wd) = false := by simp; omega
  have t3 : decide (64 < rg) = false := by simp; omega
  have t4 : decide (rg < -64) = false := by simp; omega
  have t5 : decide ((ex : Int) < 0) = false := decide_eq_false (by omega)
  have t6 : decide (3 < ex) = false := by simp; omega
  have t6' : decide ((3 : Int) < ex) = false := by simp; omega
  have t7 : decide ((bt : Int) < 0) = false := decide_eq_false (by omega)
  have t8 : decide (64 < bt) = false := by simp; omega
  have t8' : decide ((64 : Int) < bt) = false := by simp; omega
  have n2 : 2 ≤ n := by omega
  have n64 : n ≤ 64 := by omega
  have HN := Lib.hid hn
  obtain ⟨R1, hR1⟩ : ∃ R1, R1 = (rg + 1).toNat := ⟨_, rfl⟩
  obtain ⟨R2, hR2⟩ : ∃ R2, R2 = (-rg).toNat := ⟨_, rfl⟩
  have r1 : R1 ≤ 65 := by omega
  have r2 : R2 ≤ 64 := by omega
  have HR1 := Lib.hid hR1
  have HR2 := Lib.hid hR2
  obtain ⟨K, k0, k1, k2, k3⟩ : ∃ K : Nat → Nat, K 0 = fr ∧ (∀ j, K (j + 1) = K j / 2) ∧ (∀ j, K j < 18446744073709551616) ∧ (∀ j, K j = fr / 2 ^ j) :=
    ⟨fun j => fr / 2 ^ j, by simp, fun j => by show fr / 2 ^ (j + 1) = fr / 2 ^ j / 2; rw [Nat.pow_succ, Nat.div_div_eq_div_mul], fun j => Nat.lt_of_le_of_lt (Nat.div_le_self _ _) hfr, fun j => rfl⟩
  have K0 := Lib.hid k0
  have K1 := Lib.hid k1
  have K2 := Lib.hid k2
  have K3 := Lib.hid k3
  clear k0 k1 k2 k3 hn hR1 hR2
  have q1 := conv_two (48 + (ex : Int) / 2) (48 + (ex : Int) % 2) ex (by omega) (by omega) (w.alloc (.cells #[.int .i64 rg, .int .i64 ex, .int .u64 fr, .int .i64 bt] 29)) (w.heap.size + 1) (by simp)
  go_enter Tryd.func21, Tryd.ntmps21
  go_wp2_with fail
  go_loop [6, 7] (fun s i => ∃ (j : Nat) (sb : ByteArray), j ≤ R1 ∧ s = .string sb ∧ Hid (BT sb j (2 ^ j - 1)) ∧ i = .int .i64 j) (fun _ i => (R1 - (intOf i).toNat))
  case atStart => exact ⟨0, ⟨#[]⟩, Nat.zero_le _, rfl, Lib.hid (BT.nil _), rfl⟩
  case round =>
    obtain ⟨j, sb, hj, rfl, hs, rfl⟩ := hrel
    have u6 := hs.out.size
    by_cases hlt : j < R1
    · have u1 : (j : Int) ≤ rg := by have := HR1.out; omega
      go_wp2_with fail
      go_round
      case rel =>
        refine ⟨j + 1, sb ++ ⟨#[49]⟩, by omega, rfl, Lib.hid ?_, by go_num⟩
        have := BT.append hs.out (BT.one 1) (by decide)
        rw [← pat_one] at this
        exact this
      case measure => simp [intOf]; omega
    · obtain rfl : j = R1 := by omega
      have u1 : ¬ (j : Int) ≤ rg := by have := HR1.out; omega
      go_wp2_with fail
      go_loop [6, 8] (fun s i => ∃ (k : Nat) (sb : ByteArray), k ≤ R2 ∧ s = .string sb ∧ Hid (BT sb (j + k) ((2 ^ j - 1) * 2 ^ k)) ∧ i = .int .i64 (-(k : Int))) (fun _ i => (R2 - (-(intOf i)).toNat))
      case atStart => exact ⟨0, sb, Nat.zero_le _, rfl, Lib.hid (by rw [Nat.pow_zero, Nat.mul_one]; exact hs.out), rfl⟩
      case round =>
        obtain ⟨k, sc, hk, rfl, hs2, rfl⟩ := hrel
        have v6 := hs2.out.size
        by_cases hlt2 : k < R2
        · have v1 : rg < -(k : Int) := by have := HR2.out; omega
          go_wp2_with fail
          go_round
          case rel =>
            refine ⟨k + 1, sc ++ ⟨#[48]⟩, by omega, rfl, Lib.hid ?_, by go_num⟩
            have := BT.append hs2.out (BT.one 0) (by decide)
            rw [Nat.add_zero, Nat.mul_assoc, ← Nat.pow_add] at this
            exact this
          case measure => simp [intOf]; omega
        · obtain rfl : k = R2 := by omega
          have v1 : ¬ rg < -(k : Int) := by have := HR2.out; omega
          obtain ⟨sp, hsp⟩ : ∃ sp, sp = sc ++ ⟨#[if rg < 0 then 49 else 48]⟩ := ⟨_, rfl⟩
          have hpat : BT sp (patLen rg) (patOf rg) := by
            have e1 := HR1.out
            have e2 := HR2.out
            unfold patLen patOf
            by_cases hneg : rg < 0
            · rw [hsp, if_pos hneg, if_pos hneg, if_pos hneg]
              have := BT.append hs2.out (BT.one 1) (by decide)
              have z : j = 0 := by omega
              rw [z, Nat.pow_zero, Nat.sub_self, Nat.zero_mul, Nat.zero_mul, Nat.zero_add, Nat.zero_add, e2] at this
              exact this
            · rw [hsp, if_neg hneg, if_neg hneg, if_neg hneg]
              have := BT.append hs2.out (BT.one 0) (by decide)
              have z : k = 0 := by omega
              have zj : j = rg.toNat + 1 := by omega
              rw [z, Nat.pow_zero, Nat.mul_one, Nat.add_zero, Nat.add_zero, zj, Nat.sub_mul, ← Nat.pow_add] at this
              exact this
          have hpl : patLen rg ≤ 66 := by unfold patLen; split <;> omega
          have hpz := hpat.size
          have HP := Lib.hid hpat
          have HS2 := Lib.hid hs2.out
          clear hpat
          by_cases hneg : rg < 0
          · rw [if_pos hneg] at hsp
            have hsp' := hsp.symm
            clear hsp
            have HSP := Lib.hid hs2
            obtain ⟨sq, hsq⟩ : ∃ sq, sp ++ ⟨#[bitC (ex / 2), bitC ex]⟩ = sq := ⟨_, rfl⟩
            have hq : BT sq (patLen rg + 2) (patOf rg * 4 + ex) := by
              rw [← hsq]
              have := BT.append HP.out (BT.two ex).mod (Nat.mod_lt _ (by decide))
              rw [show (2 : Nat) ^ 2 = 4 by decide, Nat.mod_eq_of_lt (by omega)] at this
              exact this
            have hqz := hq.size
            have HQ := Lib.hid hq
            clear hq
            go_wp2_with fail
            have B0 : Hid (Below (w.heap.size + 1) (w.alloc (.cells #[.int .i64 rg, .int .i64 ex, .int .u64 fr, .int .i64 bt] 29)) ((w.alloc (.cells #[.int .i64 rg, .int .i64 ex, .int .u64 fr, .int .i64 bt] 29)).alloc (Obj.cells #[Value.int IntKind.u8 (48 + (ex : Int) / 2), Value.int IntKind.u8 (48 + (ex : Int) % 2)] 5))) := Lib.hid (box_grow (Below.refl _ _) _)
            clear q1 hsp' hsq
            go_loopw [9, 10, 11] (fun t nn i wr => ∃ (l : Nat) (tb : ByteArray), l ≤ bt ∧ t = .string tb ∧ nn = .int .u64 (K l) ∧ Hid (BT tb l fr) ∧ i = .int .i64 l ∧ Hid (Below (w.heap.size + 1) (w.alloc (.cells #[.int .i64 rg, .int .i64 ex, .int .u64 fr, .int .i64 bt] 29)) wr)) (fun _ _ i _ => bt - (intOf i).toNat)
            case atStart => exact ⟨0, ⟨#[]⟩, Nat.zero_le _, rfl, by rw [K0.out], Lib.hid (BT.nil _), rfl, B0⟩
            case round =>
              obtain ⟨l, tb, hl, rfl, rfl, hb, rfl, hB⟩ := hrel
              obtain ⟨c0, c1, c2, c3, csz⟩ := box_read hB.out
              have x1 := K2.out l
              have x6 := hb.out.size
              by_cases hlt3 : l < bt
              · have x2 : decide (l < bt) = true := by simpa using hlt3
                have x3 := Lib.hid (K1.out l)
                have x4 : ((K l : Nat) : Int) / 2 = ((K (l + 1) : Nat) : Int) := by rw [x3.out]; omega
                have x5 := conv_one 0 (48 + (K l : Int) % 2) (K l) (by omega) wr
                go_wp2_with fail
                go_roundw
                case rel =>
                  refine ⟨l + 1, ⟨#[bitC (K l)]⟩ ++ tb, by omega, rfl, rfl, Lib.hid ?_, by go_num, Lib.hid (box_grow hB.out _)⟩
                  rw [K3.out]
                  have := BT.append (BT.one (fr / 2 ^ l)) hb.out.mod (Nat.mod_lt _ (Nat.two_pow_pos l))
                  rw [Nat.mul_comm, Nat.div_add_mod, Nat.add_comm] at this
                  exact this
                case measure => simp [intOf]; omega
              · obtain rfl : l = bt := by omega
                have x2 : decide (l < l) = false := by simp
                by_cases hz : fr < 2 ^ l
                case neg =>
                  have x3 : ((K l : Int) != 0) = true := by
                    have hk := K3.out l
                    have : 0 < fr / 2 ^ l := Nat.div_pos (by omega) (Nat.two_pow_pos l)
                    simp; omega
                  have HZ := Lib.hid hz
                  clear hz
                  go_wp2_with fail
                  go_ret2
                  exact ⟨Or.inr ⟨fun ⟨key, a1, a2, a3, a4, a5, a6⟩ => HZ.out (box_key n2 n64 a1 a2 a3 a4 a5 a6).2.2, 0, rfl⟩, box_low hB.out⟩
                case pos =>
                  have x3 : ((K l : Int) != 0) = false := by
                    have hk := K3.out l
                    rw [Nat.div_eq_of_lt hz] at hk
                    simp; omega
                  obtain ⟨sa, hsa⟩ : ∃ sa, sq ++ tb = sa := ⟨_, rfl⟩
                  have ha : BT sa (allLen rg l) (allOf rg ex fr l) := by
                    rw [← hsa]
                    exact BT.append HQ.out hb.out hz
                  have haz := ha.size
                  have hv := all_lt rg ex fr l h5 hz
                  have HA := Lib.hid ha
                  have HV := Lib.hid hv
                  have HZ := Lib.hid hz
                  have hal : allLen rg l ≤ 132 := by unfold allLen; omega
                  clear ha hv hz
                  have hn' := HN.out
                  by_cases hln : allLen rg l < n
                  case pos =>
                    have x7 : decide (allLen rg l < n) = true := by simpa using hln
                    go_wp2_with fail
                    go_ret2
                    exact ⟨Or.inr ⟨fun ⟨key, a1, a2, a3, a4, a5, a6⟩ => by have := (box_key n2 n64 a1 a2 a3 a4 a5 a6).1; omega, 0, rfl⟩, box_low hB.out⟩
                  case neg =>
                    have x7 : decide (allLen rg l < n) = false := by simpa using hln
                    obtain ⟨ky, hky⟩ : ∃ ky, allOf rg ex fr l / 2 ^ (allLen rg l - n) = ky := ⟨_, rfl⟩
                    have hk2 : ky < 2 ^ n := by
                      rw [← hky, Nat.div_lt_iff_lt_mul (Nat.two_pow_pos _), ← Nat.pow_add, show n + (allLen rg l - n) = allLen rg l by omega]
                      exact HV.out
                    have hbk : BT (sa.extract 0 n) n ky := by
                      have := HA.out.upto n (by omega)
                      rw [hky] at this
                      exact this
                    have hk64 := pow_le64 n64
                    have N := Lib.hid (fun w => number_ref _ n ky w hbk hk2 n64)
                    have HKY := Lib.hid hky
                    have HK2 := Lib.hid hk2
                    clear hky hk2 hbk
                    have hky64 : ky < 18446744073709551616 := by have := HK2.out; omega
                    by_cases hk0 : ky = 0
                    · have hF : ¬ ∃ n, Fit wd n ky := by rintro ⟨n', _, _, _, h, _⟩; omega
                      have V := Lib.hid (fun w => refSplit_no wd ky w hky64 hF)
                      have HK0 := Lib.hid hk0
                      clear hF hk0
                      go_wp2_with fail
                      with_reducible (refine (N.out _).mono ?_)
                      rintro r wx ⟨rfl, rfl⟩
                      go_wp2_with fail
                      with_reducible (refine (V.out _).mono ?_)
                      rintro r w2 ⟨rfl, b2⟩
                      have B2 := Lib.hid (box_then hB.out b2)
                      clear b2 c0 c1 c2 c3 csz
                      obtain ⟨c0, c1, c2, c3, csz⟩ := box_read B2.out
                      go_wp2_with fail
                      go_quiet (fail)
                      go_wp2_with fail
                      go_ret2
                      exact ⟨Or.inr ⟨fun ⟨key, a1, a2, a3, a4, a5, a6⟩ => by have e1 := (box_key n2 n64 a1 a2 a3 a4 a5 a6).2.1; have e2 := HKY.out; have e3 := HK0.out; omega, _, rfl⟩, box_low (below_drewN (box_grow B2.out _) _)⟩
                    · have hk1 : 0 < ky := by omega
                      have hF : Fit wd n ky := ⟨hn', h1, h2, hk1, HK2.out⟩
                      have V := Lib.hid (fun w => refSplit_yes wd n ky w hF)
                      clear hF hk0
                      by_cases z1 : fReg n ky = rg
                      case neg =>
                        have y1 : (fReg n ky == rg) = false := by simpa using z1
                        have Z1 := Lib.hid z1
                        clear z1
                        go_wp2_with fail
                        with_reducible (refine (N.out _).mono ?_)
                        rintro r wx ⟨rfl, rfl⟩
                        go_wp2_with fail
                        with_reducible (refine (V.out _).mono ?_)
                        rintro r w2 ⟨rfl, b2⟩
                        have B2 := Lib.hid (box_then hB.out b2)
                        clear b2 c0 c1 c2 c3 csz
                        obtain ⟨c0, c1, c2, c3, csz⟩ := box_read B2.out
                        go_wp2_with fail
                        go_quiet (fail)
                        go_wp2_with fail
                        go_ret2
                        exact ⟨Or.inr ⟨fun ⟨key, a1, a2, a3, a4, a5, a6⟩ => by have e1 := (box_key n2 n64 a1 a2 a3 a4 a5 a6).2.1; rw [HKY.out] at e1; subst e1; exact Z1.out a3, _, rfl⟩, box_low (below_drewN (box_grow B2.out _) _)⟩
                      by_cases z2 : fExp n ky = ex
                      case neg =>
                        have y2 : ((fExp n ky : Int) == (ex : Int)) = false := by simp; omega
                        have y1 : (fReg n ky == rg) = true := by simpa using z1
                        have Z1 := Lib.hid z2
                        clear z1 z2
                        go_wp2_with fail
                        with_reducible (refine (N.out _).mono ?_)
                        rintro r wx ⟨rfl, rfl⟩
                        go_wp2_with fail
                        with_reducible (refine (V.out _).mono ?_)
                        rintro r w2 ⟨rfl, b2⟩
                        have B2 := Lib.hid (box_then hB.out b2)
                        clear b2 c0 c1 c2 c3 csz
                        obtain ⟨c0, c1, c2, c3, csz⟩ := box_read B2.out
                        go_wp2_with fail
                        go_quiet (fail)
                        go_wp2_with fail
                        go_ret2
                        exact ⟨Or.inr ⟨fun ⟨key, a1, a2, a3, a4, a5, a6⟩ => by have e1 := (box_key n2 n64 a1 a2 a3 a4 a5 a6).2.1; rw [HKY.out] at e1; subst e1; exact Z1.out a4, _, rfl⟩, box_low (below_drewN (box_grow B2.out _) _)⟩
                      by_cases z3 : fFrac n ky = fr
                      case neg =>
                        have y3 : ((fFrac n ky : Int) == (fr : Int)) = false := by simp; omega
                        have y1 : (fReg n ky == rg) = true := by simpa using z1
                        have y2 : ((fExp n ky : Int) == (ex : Int)) = true := by simp; omega
                        have Z1 := Lib.hid z3
                        clear z1 z2 z3
                        go_wp2_with fail
                        with_reducible (refine (N.out _).mono ?_)
                        rintro r wx ⟨rfl, rfl⟩
                        go_wp2_with fail
                        with_reducible (refine (V.out _).mono ?_)
                        rintro r w2 ⟨rfl, b2⟩
                        have B2 := Lib.hid (box_then hB.out b2)
                        clear b2 c0 c1 c2 c3 csz
                        obtain ⟨c0, c1, c2, c3, csz⟩ := box_read B2.out
                        go_wp2_with fail
                        go_quiet (fail)
                        go_wp2_with fail
                        go_ret2
                        exact ⟨Or.inr ⟨fun ⟨key, a1, a2, a3, a4, a5, a6⟩ => by have e1 := (box_key n2 n64 a1 a2 a3 a4 a5 a6).2.1; rw [HKY.out] at e1; subst e1; exact Z1.out a5, _, rfl⟩, box_low (below_drewN (box_grow B2.out _) _)⟩
                      by_cases z4 : fBits n ky = l
                      case neg =>
                        have y4 : ((fBits n ky : Int) == (l : Int)) = false := by simp; omega
                        have y1 : (fReg n ky == rg) = true := by simpa using z1
                        have y2 : ((fExp n ky : Int) == (ex : Int)) = true := by simp; omega
                        have y3 : ((fFrac n ky : Int) == (fr : Int)) = true := by simp; omega
                        have Z1 := Lib.hid z4
                        clear z1 z2 z3 z4
                        go_wp2_with fail
                        with_reducible (refine (N.out _).mono ?_)
                        rintro r wx ⟨rfl, rfl⟩
                        go_wp2_with fail
                        with_reducible (refine (V.out _).mono ?_)
                        rintro r w2 ⟨rfl, b2⟩
                        have B2 := Lib.hid (box_then hB.out b2)
                        clear b2 c0 c1 c2 c3 csz
                        obtain ⟨c0, c1, c2, c3, csz⟩ := box_read B2.out
                        go_wp2_with fail
                        go_quiet (fail)
                        go_wp2_with fail
                        go_ret2
                        exact ⟨Or.inr ⟨fun ⟨key, a1, a2, a3, a4, a5, a6⟩ => by have e1 := (box_key n2 n64 a1 a2 a3 a4 a5 a6).2.1; rw [HKY.out] at e1; subst e1; exact Z1.out a6, _, rfl⟩, box_low (below_drewN (box_grow B2.out _) _)⟩
                      have y1 : (fReg n ky == rg) = true := by simpa using z1
                      have y2 : ((fExp n ky : Int) == (ex : Int)) = true := by simp; omega
                      have y3 : ((fFrac n ky : Int) == (fr : Int)) = true := by simp; omega
                      have y4 : ((fBits n ky : Int) == (l : Int)) = true := by simp; omega
                      have Z := Lib.hid (And.intro z1 (And.intro z2 (And.intro z3 z4)))
                      clear z1 z2 z3 z4
                      go_wp2_with fail
                      with_reducible (refine (N.out _).mono ?_)
                      rintro r wx ⟨rfl, rfl⟩
                      go_wp2_with fail
                      with_reducible (refine (V.out _).mono ?_)
                      rintro r w2 ⟨rfl, b2⟩
                      have B2 := Lib.hid (box_then hB.out b2)
                      clear b2 c0 c1 c2 c3 csz
                      obtain ⟨c0, c1, c2, c3, csz⟩ := box_read B2.out
                      go_wp2_with fail
                      go_quiet (fail)
                      go_wp2_with fail
                      go_ret2
                      exact ⟨Or.inl ⟨ky, hk1, HK2.out, Z.out.1, Z.out.2.1, Z.out.2.2.1, Z.out.2.2.2, rfl⟩, box_low (below_drewN (box_grow B2.out _) _)⟩
          · rw [if_neg hneg] at hsp
            have hsp' := hsp.symm
            clear hsp
            have HSP := Lib.hid hs2
            obtain ⟨sq, hsq⟩ : ∃ sq, sp ++ ⟨#[bitC (ex / 2), bitC ex]⟩ = sq := ⟨_, rfl⟩
            have hq : BT sq (patLen rg + 2) (patOf rg * 4 + ex) := by
              rw [← hsq]
              have := BT.append HP.out (BT.two ex).mod (Nat.mod_lt _ (by decide))
              rw [show (2 : Nat) ^ 2 = 4 by decide, Nat.mod_eq_of_lt (by omega)] at this
              exact this
            have hqz := hq.size
            have HQ := Lib.hid hq
            clear hq
            go_wp2_with fail
            have B0 : Hid (Below (w.heap.size + 1) (w.alloc (.cells #[.int .i64 rg, .int .i64 ex, .int .u64 fr, .int .i64 bt] 29)) ((w.alloc (.cells #[.int .i64 rg, .int .i64 ex, .int .u64 fr, .int .i64 bt] 29)).alloc (Obj.cells #[Value.int IntKind.u8 (48 + (ex : Int) / 2), Value.int IntKind.u8 (48 + (ex : Int) % 2)] 5))) := Lib.hid (box_grow (Below.refl _ _) _)
            clear q1 hsp' hsq
            go_loopw [9, 10, 11] (fun t nn i wr => ∃ (l : Nat) (tb : ByteArray), l ≤ bt ∧ t = .string tb ∧ nn = .int .u64 (K l) ∧ Hid (BT tb l fr) ∧ i = .int .i64 l ∧ Hid (Below (w.heap.size + 1) (w.alloc (.cells #[.int .i64 rg, .int .i64 ex, .int .u64 fr, .int .i64 bt] 29)) wr)) (fun _ _ i _ => bt - (intOf i).toNat)
            case atStart => exact ⟨0, ⟨#[]⟩, Nat.zero_le _, rfl, by rw [K0.out], Lib.hid (BT.nil _), rfl, B0⟩
            case round =>
              obtain ⟨l, tb, hl, rfl, rfl, hb, rfl, hB⟩ := hrel
              obtain ⟨c0, c1, c2, c3, csz⟩ := box_read hB.out
              have x1 := K2.out l
              have x6 := hb.out.size
              by_cases hlt3 : l < bt
              · have x2 : decide (l < bt) = true := by simpa using hlt3
                have x3 := Lib.hid (K1.out l)
                have x4 : ((K l : Nat) : Int) / 2 = ((K (l + 1) : Nat) : Int) := by rw [x3.out]; omega
                have x5 := conv_one 0 (48 + (K l : Int) % 2) (K l) (by omega) wr
                go_wp2_with fail
                go_roundw
                case rel =>
                  refine ⟨l + 1, ⟨#[bitC (K l)]⟩ ++ tb, by omega, rfl, rfl, Lib.hid ?_, by go_num, Lib.hid (box_grow hB.out _)⟩
                  rw [K3.out]
                  have := BT.append (BT.one (fr / 2 ^ l)) hb.out.mod (Nat.mod_lt _ (Nat.two_pow_pos l))
                  rw [Nat.mul_comm, Nat.div_add_mod, Nat.add_comm] at this
                  exact this
                case measure => simp [intOf]; omega
              · obtain rfl : l = bt := by omega
                have x2 : decide (l < l) = false := by simp
                by_cases hz : fr < 2 ^ l
                case neg =>
                  have x3 : ((K l : Int) != 0) = true := by
                    have hk := K3.out l
                    have : 0 < fr / 2 ^ l := Nat.div_pos (by omega) (Nat.two_pow_pos l)
                    simp; omega
                  have HZ := Lib.hid hz
                  clear hz
                  go_wp2_with fail
                  go_ret2
                  exact ⟨Or.inr ⟨fun ⟨key, a1, a2, a3, a4, a5, a6⟩ => HZ.out (box_key n2 n64 a1 a2 a3 a4 a5 a6).2.2, 0, rfl⟩, box_low hB.out⟩
                case pos =>
                  have x3 : ((K l : Int) != 0) = false := by
                    have hk := K3.out l
                    rw [Nat.div_eq_of_lt hz] at hk
                    simp; omega
                  obtain ⟨sa, hsa⟩ : ∃ sa, sq ++ tb = sa := ⟨_, rfl⟩
                  have ha : BT sa (allLen rg l) (allOf rg ex fr l) := by
                    rw [← hsa]
                    exact BT.append HQ.out hb.out hz
                  have haz := ha.size
                  have hv := all_lt rg ex fr l h5 hz
                  have HA := Lib.hid ha
                  have HV := Lib.hid hv
                  have HZ := Lib.hid hz
                  have hal : allLen rg l ≤ 132 := by unfold allLen; omega
                  clear ha hv hz
                  have hn' := HN.out
                  by_cases hln : allLen rg l < n
                  case pos =>
                    have x7 : decide (allLen rg l < n) = true := by simpa using hln
                    go_wp2_with fail
                    go_ret2
                    exact ⟨Or.inr ⟨fun ⟨key, a1, a2, a3, a4, a5, a6⟩ => by have := (box_key n2 n64 a1 a2 a3 a4 a5 a6).1; omega, 0, rfl⟩, box_low hB.out⟩
                  case neg =>
                    have x7 : decide (allLen rg l < n) = false := by simpa using hln
                    obtain ⟨ky, hky⟩ : ∃ ky, allOf rg ex fr l / 2 ^ (allLen rg l - n) = ky := ⟨_, rfl⟩
                    have hk2 : ky < 2 ^ n := by
                      rw [← hky, Nat.div_lt_iff_lt_mul (Nat.two_pow_pos _), ← Nat.pow_add, show n + (allLen rg l - n) = allLen rg l by omega]
                      exact HV.out
                    have hbk : BT (sa.extract 0 n) n ky := by
                      have := HA.out.upto n (by omega)
                      rw [hky] at this
                      exact this
                    have hk64 := pow_le64 n64
                    have N := Lib.hid (fun w => number_ref _ n ky w hbk hk2 n64)
                    have HKY := Lib.hid hky
                    have HK2 := Lib.hid hk2
                    clear hky hk2 hbk
                    have hky64 : ky < 18446744073709551616 := by have := HK2.out; omega
                    by_cases hk0 : ky = 0
                    · have hF : ¬ ∃ n, Fit wd n ky := by rintro ⟨n', _, _, _, h, _⟩; omega
                      have V := Lib.hid (fun w => refSplit_no wd ky w hky64 hF)
                      have HK0 := Lib.hid hk0
                      clear hF hk0
                      go_wp2_with fail
                      with_reducible (refine (N.out _).mono ?_)
                      rintro r wx ⟨rfl, rfl⟩
                      go_wp2_with fail
                      with_reducible (refine (V.out _).mono ?_)
                      rintro r w2 ⟨rfl, b2⟩
                      have B2 := Lib.hid (box_then hB.out b2)
                      clear b2 c0 c1 c2 c3 csz
                      obtain ⟨c0, c1, c2, c3, csz⟩ := box_read B2.out
                      go_wp2_with fail
                      go_quiet (fail)
                      go_wp2_with fail
                      go_ret2
                      exact ⟨Or.inr ⟨fun ⟨key, a1, a2, a3, a4, a5, a6⟩ => by have e1 := (box_key n2 n64 a1 a2 a3 a4 a5 a6).2.1; have e2 := HKY.out; have e3 := HK0.out; omega, _, rfl⟩, box_low (below_drewN (box_grow B2.out _) _)⟩
                    · have hk1 : 0 < ky := by omega
                      have hF : Fit wd n ky := ⟨hn', h1, h2, hk1, HK2.out⟩
                      have V := Lib.hid (fun w => refSplit_yes wd n ky w hF)
                      clear hF hk0
                      by_cases z1 : fReg n ky = rg
                      case neg =>
                        have y1 : (fReg n ky == rg) = false := by simpa using z1
                        have Z1 := Lib.hid z1
                        clear z1
                        go_wp2_with fail
                        with_reducible (refine (N.out _).mono ?_)
                        rintro r wx ⟨rfl, rfl⟩
                        go_wp2_with fail
                        with_reducible (refine (V.out _).mono ?_)
                        rintro r w2 ⟨rfl, b2⟩
                        have B2 := Lib.hid (box_then hB.out b2)
                        clear b2 c0 c1 c2 c3 csz
                        obtain ⟨c0, c1, c2, c3, csz⟩ := box_read B2.out
                        go_wp2_with fail
                        go_quiet (fail)
                        go_wp2_with fail
                        go_ret2
                        exact ⟨Or.inr ⟨fun ⟨key, a1, a2, a3, a4, a5, a6⟩ => by have e1 := (box_key n2 n64 a1 a2 a3 a4 a5 a6).2.1; rw [HKY.out] at e1; subst e1; exact Z1.out a3, _, rfl⟩, box_low (below_drewN (box_grow B2.out _) _)⟩
                      by_cases z2 : fExp n ky = ex
                      case neg =>
                        have y2 : ((fExp n ky : Int) == (ex : Int)) = false := by simp; omega
                        have y1 : (fReg n ky == rg) = true := by simpa using z1
                        have Z1 := Lib.hid z2
                        clear z1 z2
                        go_wp2_with fail
                        with_reducible (refine (N.out _).mono ?_)
                        rintro r wx ⟨rfl, rfl⟩
                        go_wp2_with fail
                        with_reducible (refine (V.out _).mono ?_)
                        rintro r w2 ⟨rfl, b2⟩
                        have B2 := Lib.hid (box_then hB.out b2)
                        clear b2 c0 c1 c2 c3 csz
                        obtain ⟨c0, c1, c2, c3, csz⟩ := box_read B2.out
                        go_wp2_with fail
                        go_quiet (fail)
                        go_wp2_with fail
                        go_ret2
                        exact ⟨Or.inr ⟨fun ⟨key, a1, a2, a3, a4, a5, a6⟩ => by have e1 := (box_key n2 n64 a1 a2 a3 a4 a5 a6).2.1; rw [HKY.out] at e1; subst e1; exact Z1.out a4, _, rfl⟩, box_low (below_drewN (box_grow B2.out _) _)⟩
                      by_cases z3 : fFrac n ky = fr
                      case neg =>
                        have y3 : ((fFrac n ky : Int) == (fr : Int)) = false := by simp; omega
                        have y1 : (fReg n ky == rg) = true := by simpa using z1
                        have y2 : ((fExp n ky : Int) == (ex : Int)) = true := by simp; omega
                        have Z1 := Lib.hid z3
                        clear z1 z2 z3
                        go_wp2_with fail
                        with_reducible (refine (N.out _).mono ?_)
                        rintro r wx ⟨rfl, rfl⟩
                        go_wp2_with fail
                        with_reducible (refine (V.out _).mono ?_)
                        rintro r w2 ⟨rfl, b2⟩
                        have B2 := Lib.hid (box_then hB.out b2)
                        clear b2 c0 c1 c2 c3 csz
                        obtain ⟨c0, c1, c2, c3, csz⟩ := box_read B2.out
                        go_wp2_with fail
                        go_quiet (fail)
                        go_wp2_with fail
                        go_ret2
                        exact ⟨Or.inr ⟨fun ⟨key, a1, a2, a3, a4, a5, a6⟩ => by have e1 := (box_key n2 n64 a1 a2 a3 a4 a5 a6).2.1; rw [HKY.out] at e1; subst e1; exact Z1.out a5, _, rfl⟩, box_low (below_drewN (box_grow B2.out _) _)⟩
                      by_cases z4 : fBits n ky = l
                      case neg =>
                        have y4 : ((fBits n ky : Int) == (l : Int)) = false := by simp; omega
                        have y1 : (fReg n ky == rg) = true := by simpa using z1
                        have y2 : ((fExp n ky : Int) == (ex : Int)) = true := by simp; omega
                        have y3 : ((fFrac n ky : Int) == (fr : Int)) = true := by simp; omega
                        have Z1 := Lib.hid z4
                        clear z1 z2 z3 z4
                        go_wp2_with fail
                        with_reducible (refine (N.out _).mono ?_)
                        rintro r wx ⟨rfl, rfl⟩
                        go_wp2_with fail
                        with_reducible (refine (V.out _).mono ?_)
                        rintro r w2 ⟨rfl, b2⟩
                        have B2 := Lib.hid (box_then hB.out b2)
                        clear b2 c0 c1 c2 c3 csz
                        obtain ⟨c0, c1, c2, c3, csz⟩ := box_read B2.out
                        go_wp2_with fail
                        go_quiet (fail)
                        go_wp2_with fail
                        go_ret2
                        exact ⟨Or.inr ⟨fun ⟨key, a1, a2, a3, a4, a5, a6⟩ => by have e1 := (box_key n2 n64 a1 a2 a3 a4 a5 a6).2.1; rw [HKY.out] at e1; subst e1; exact Z1.out a6, _, rfl⟩, box_low (below_drewN (box_grow B2.out _) _)⟩
                      have y1 : (fReg n ky == rg) = true := by simpa using z1
                      have y2 : ((fExp n ky : Int) == (ex : Int)) = true := by simp; omega
                      have y3 : ((fFrac n ky : Int) == (fr : Int)) = true := by simp; omega
                      have y4 : ((fBits n ky : Int) == (l : Int)) = true := by simp; omega
                      have Z := Lib.hid (And.intro z1 (And.intro z2 (And.intro z3 z4)))
                      clear z1 z2 z3 z4
                      go_wp2_with fail
                      with_reducible (refine (N.out _).mono ?_)
                      rintro r wx ⟨rfl, rfl⟩
                      go_wp2_with fail
                      with_reducible (refine (V.out _).mono ?_)
                      rintro r w2 ⟨rfl, b2⟩
                      have B2 := Lib.hid (box_then hB.out b2)
                      clear b2 c0 c1 c2 c3 csz
                      obtain ⟨c0, c1, c2, c3, csz⟩ := box_read B2.out
                      go_wp2_with fail
                      go_quiet (fail)
                      go_wp2_with fail
                      go_ret2
                      exact ⟨Or.inl ⟨ky, hk1, HK2.out, Z.out.1, Z.out.2.1, Z.out.2.2.1, Z.out.2.2.2, rfl⟩, box_low (below_drewN (box_grow B2.out _) _)⟩

theorem refJoin_any (wd rg ex bt : Int) (fr : Nat) (hfr : fr < 18446744073709551616) (w : World) :
    Calls Tryd.prog 21 #[.int .i64 wd, .agg #[.int .i64 rg, .int .i64 ex, .int .u64 fr, .int .i64 bt]] w fun r w' =>
      ((∃ n key, Fit wd n key ∧ fReg n key = rg ∧ (fExp n key : Int) = ex ∧ fFrac n key = fr ∧ (fBits n key : Int) = bt ∧ r = .returned (.tuple #[.int .u64 key, .bool true])) ∨
       ((¬ ∃ n key, Fit wd n key ∧ fReg n key = rg ∧ (fExp n key : Int) = ex ∧ fFrac n key = fr ∧ (fBits n key : Int) = bt) ∧ ∃ x : Int, r = .returned (.tuple #[.int .u64 x, .bool false]))) ∧ Below w.heap.size w w' := by
  by_cases h : 3 ≤ wd ∧ wd ≤ 65 ∧ rg ≤ 64 ∧ -64 ≤ rg ∧ 0 ≤ ex ∧ ex ≤ 3 ∧ 0 ≤ bt ∧ bt ≤ 64
  · obtain ⟨h1, h2, h3, h4, h5, h6, h7, h8⟩ := h
    obtain ⟨n, hn⟩ : ∃ n : Nat, wd - 1 = (n : Int) := ⟨(wd - 1).toNat, by omega⟩
    obtain ⟨e, rfl⟩ : ∃ e : Nat, ex = (e : Int) := ⟨ex.toNat, by omega⟩
    obtain ⟨b, rfl⟩ : ∃ b : Nat, bt = (b : Int) := ⟨bt.toNat, by omega⟩
    refine (refJoin_walk wd rg n e fr b w hn h1 h2 h3 h4 (by omega) (by omega) hfr).mono ?_
    rintro r w' ⟨hj, hb⟩
    refine ⟨?_, hb⟩
    rcases hj with ⟨key, k1, k2, k3, k4, k5, k6, hr⟩ | ⟨hno, x, hr⟩
    · exact Or.inl ⟨n, key, ⟨hn, h1, h2, k1, k2⟩, k3, by rw [k4], k5, by rw [k6], hr⟩
    · refine Or.inr ⟨?_, x, hr⟩
      rintro ⟨n', key, ⟨a1, _, _, a4, a5⟩, k3, k4, k5, k6⟩
      obtain rfl : n' = n := by omega
      exact hno ⟨key, a4, a5, k3, by omega, k5, by omega⟩
  · refine (refJoin_range wd rg ex bt fr w h).mono ?_
    rintro r w' ⟨rfl, hb⟩
    refine ⟨Or.inr ⟨?_, 0, rfl⟩, hb⟩
    rintro ⟨n, key, ⟨a1, a2, a3, a4, a5⟩, k3, k4, k5, k6⟩
    have n2 : 2 ≤ n := by omega
    have n64 : n ≤ 64 := by omega
    obtain ⟨r1, r2⟩ := reg_bounds n2 n64 a4 a5
    obtain ⟨_, t2, _, t4⟩ := tail_parts n2 n64 a4 a5
    apply h
    omega
end Go.Proofs.YtfmecakoccnblaaDoor

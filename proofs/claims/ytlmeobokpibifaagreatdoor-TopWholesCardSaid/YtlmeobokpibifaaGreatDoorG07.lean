/- package nat's Div walked. Conditions: as each theorem names them. package nat's Word, Bit. Conditions: as each theorem names them. package exact's size and Cmp walked. Conditions: as each theorem names them. package exact's CmpSigned walked. Conditions: as each theorem names them. -/
import Derived.Test.YtlmeobokpibifaaGreatDoorG06
import Derived.ArgAppend
import Derived.Test.YtlmeobokpibifaaGreatDoorG03
import Derived.Deep.RegionHeld3
section
set_option linter.unusedSimpArgs false
set_option linter.unusedVariables false
set_option linter.unusedVariables false
namespace Go.Proofs.YtlmeobokpibifaaGreatDoor
open Go.RowKit

/-- what Div answers: how often, and what is left -/
def DivEnd (M N : Nat) (w : World) (e : Ending) (w' : World) : Prop :=
  (∃ q r, e = .returned (.tuple #[q, r, .bool true]) ∧ IsN w' q (M / N) ∧ IsN w' r (M % N)) ∧ Below w.heap.size w w'

theorem trim_same {n m : Nat} {F : Nat → Nat} (h : Trim n F m) (k : Nm n F) : m = n := by
  obtain ⟨h1, h2, _⟩ := h
  rcases k with k | k
  · omega
  · rcases Nat.eq_or_lt_of_le h1 with e | e
    · exact e
    · exact absurd (h2 (n - 1) (by omega) (by omega)) k
theorem trim_N (v : Value) (N : Nat) (w : World) (h : IsN w v N) :
    Calls Tryz.prog 76 #[v] w fun e w' => (∃ A n F, e = .returned (.slice A n n) ∧ Rd w A n n F ∧ Nm n F ∧ S F n = N) ∧ w = w' := by
  obtain ⟨A, n, c, F, rfl, hr, hn, rfl⟩ := h
  refine (trim_any A n c F w hr).mono ?_
  rintro e w' ⟨⟨m, hm, rfl⟩, rfl⟩
  obtain rfl := trim_same hm hn
  exact ⟨⟨A, m, F, rfl, hr.cut (Nat.le_refl _), hn, rfl⟩, rfl⟩
theorem isN_nil (w : World) : IsN w (.slice none 0 0) 0 := ⟨none, 0, 0, fun _ => 0, rfl, Rd.nil _ _, Or.inl rfl, rfl⟩

theorem div_none (u v : Value) (M : Nat) (w : World) (hu : IsN w u M) (hv : IsN w v 0) :
    Calls Tryz.prog 66 #[u, v] w fun e w' => e = .returned (.tuple #[.slice none 0 0, .slice none 0 0, .bool false]) ∧ w = w' := by
  have T1 := Lib.hid (trim_N u M w hu)
  have T2 := Lib.hid (trim_N v 0 w hv)
  clear hu hv
  go_enter Tryz.func66, Tryz.ntmps66
  go_wp2_with fail
  with_reducible (refine T1.out.mono ?_)
  rintro e w' ⟨⟨A, n, F, rfl, hr, hn, hs⟩, rfl⟩
  clear hr hn hs
  go_wp2_with fail
  with_reducible (refine T2.out.mono ?_)
  rintro e w' ⟨⟨B, m, G, rfl, hr, hn, hs⟩, rfl⟩
  obtain rfl := (nm_zero hn).1 hs
  clear hr hn hs
  go_wp2_with fail
  go_ret3
  exact ⟨rfl, rfl⟩

theorem div_less (u v : Value) (M N : Nat) (w : World) (hu : IsN w u M) (hv : IsN w v N) (h : M < N) :
    Calls Tryz.prog 66 #[u, v] w (DivEnd M N w) := by
  have T1 := Lib.hid (trim_N u M w hu)
  have T2 := Lib.hid (trim_N v N w hv)
  have H := Lib.hid h
  clear hu hv h
  go_enter Tryz.func66, Tryz.ntmps66
  go_wp2_with fail
  with_reducible (refine T1.out.mono ?_)
  rintro e w' ⟨⟨A, n, F, rfl, hr, hn, hs⟩, rfl⟩
  have R1 := Lib.hid (And.intro hr (And.intro hn hs))
  clear hr hn hs
  go_wp2_with fail
  with_reducible (refine T2.out.mono ?_)
  rintro e w' ⟨⟨B, m, G, rfl, hr, hn, hs⟩, rfl⟩
  have hm0 : 0 < m := by
    rcases Nat.eq_zero_or_pos m with h0 | h0
    · subst h0; rw [S_zero] at hs; have := H.out; omega
    · exact h0
  have hmb : ((m : Int) == 0) = false := by simp; omega
  have C := Lib.hid (fun w' h1 h2 => cmp_any A B n n m m F G w' h1 h2 (-1) (by rw [R1.out.2.2, hs]; exact if_pos H.out))
  have R2 := Lib.hid hr
  clear hr hn hs
  go_wp2_with fail
  with_reducible (refine (C.out _ R1.out.1 R2.out).mono ?_)
  rintro e w' ⟨rfl, k, rfl⟩
  have R1k := Lib.hid (Rd.drewN R1.out.1 k)
  go_wp2_with fail
  with_reducible (refine (clone_any A n n F _ R1k.out).mono ?_)
  rintro e w' ⟨⟨A', c', hr, rfl, _⟩, hb⟩
  have HR := Lib.hid hr
  have HB := Lib.hid hb
  clear hr hb
  go_wp2_with fail
  go_ret3
  have hlt := H.out
  refine ⟨⟨_, _, rfl, ?_, ⟨A', n, c', F, rfl, HR.out, R1.out.2.1, ?_⟩⟩, bthen (bdrewN (Below.refl _ _) k) HB.out⟩
  · rw [Nat.div_eq_of_lt hlt]; exact isN_nil _
  · rw [R1.out.2.2, Nat.mod_eq_of_lt hlt]

theorem cellsF_snoc (n : Nat) (F : Nat → Nat) : cellsF n F ++ [.int .u64 0] = cellsF (n + 1) (ext n F) := by
  unfold cellsF
  rw [List.range_succ, List.map_append]
  congr 1
  · apply List.map_congr_left
    intro i hi
    have : i < n := List.mem_range.1 hi
    unfold ext
    rw [if_pos this]
  · simp [ext]
theorem own_row {w : World} {base n : Nat} {v : Value} {F : Nat → Nat} (h : w.ownsRow base 22 1 v n (cellsF n F)) (hn : 0 < n) : ∃ g cap, v = .slice (some ⟨g, 0, none⟩) n cap ∧ base ≤ g ∧ Row w g n F ∧ n ≤ cap ∧ cap ≤ maxLen := by
  rcases h.2 with ⟨rfl, rfl⟩ | ⟨g, cap, cur, rfl, hg, hh, hnc, hm, hsz, hcs⟩
  · omega
  · refine ⟨g, cap, rfl, hg, ⟨cur, hh, by omega, fun i hi => ?_⟩, hnc, hm⟩
    have hx := cellsF_get n F i hi
    rw [← hcs, List.getElem?_take, if_pos (by omega), Array.getElem?_toList] at hx
    exact hx
theorem Row.only {g g' : Nat} {w w' : World} {n : Nat} {O : Nat → Nat} (h : Row w g n O) (ho : Only g' w w') (hne : g ≠ g') : Row w' g n O :=
  h.of_block (ho.block g h.lt (fun e => hne (by injection e)))

set_option maxHeartbeats 1000000 in
/-- the walk's end behind the first tests: the divisor has one word, or more -/
theorem div_more (u v : Value) (M N a : Nat) (w : World) (hu : IsN w u M) (hv : IsN w v N) (hM : M < 2 ^ a) (ha : a ≤ 1000000) (h : N ≤ M) (h0 : 0 < N) :
    Calls Tryz.prog 66 #[u, v] w (DivEnd M N w) := by
  have T1 := Lib.hid (trim_N u M w hu)
  have T2 := Lib.hid (trim_N v N w hv)
  have H := Lib.hid h
  have HA := Lib.hid hM
  clear hu hv h hM
  go_enter Tryz.func66, Tryz.ntmps66
  go_wp2_with fail
  with_reducible (refine T1.out.mono ?_)
  rintro e w' ⟨⟨A, n, F, rfl, hr, hn, hs⟩, rfl⟩
  have R1 := Lib.hid (And.intro hr (And.intro hn hs))
  clear hr hn hs
  go_wp2_with fail
  with_reducible (refine T2.out.mono ?_)
  rintro e w' ⟨⟨B, m, G, rfl, hr, hn, hs⟩, rfl⟩
  have hm0 : 0 < m := by
    rcases Nat.eq_zero_or_pos m with h1 | h1
    · subst h1; rw [S_zero] at hs; omega
    · exact h1
  have hmb : ((m : Int) == 0) = false := by simp; omega
  obtain ⟨cr, hcr⟩ : ∃ cr : Int, cmpN M N = cr := ⟨_, rfl⟩
  have hcr0 : decide (cr < 0) = false := by
    apply decide_eq_false
    rw [← hcr]; unfold cmpN
    rw [if_neg (by have := H.out; omega)]
    split <;> decide
  have C := Lib.hid (fun w' h1 h2 => cmp_any A B n n m m F G w' h1 h2 cr (by rw [R1.out.2.2, hs]; exact hcr))
  have R2 := Lib.hid (And.intro hr (And.intro hn hs))
  have hn1 : n ≤ 1048576 := len_of_bits R1.out.2.1 R1.out.2.2 HA.out (by omega)
  have hm1 : m ≤ 1048576 := len_of_bits hn hs (Nat.lt_of_le_of_lt H.out HA.out) (by omega)
  clear hr hn hs hcr
  go_wp2_with fail
  with_reducible (refine (C.out _ R1.out.1 R2.out.1).mono ?_)
  rintro e w' ⟨rfl, k, rfl⟩
  have R1k := Lib.hid (Rd.drewN R1.out.1 k)
  have R2k := Lib.hid (Rd.drewN R2.out.1 k)
  by_cases h1 : m = 1
  · subst h1
    obtain ⟨bd, rfl, hb1, hx⟩ := R2k.out.at_ 0 (by decide)
    have hx64 := R2k.out.word' 0 (by decide)
    have hg0 : G 0 = N := by
      have := R2.out.2.2
      rw [S_succ, S_zero] at this
      simpa using this
    have D := Lib.hid (fun w' h => short_any A n n F (G 0) w' h hn1 (by omega) hx64)
    have had : bd.add 0 = bd := by unfold Addr.add; simp
    rw [had] at hx
    have HG := Lib.hid hg0
    clear hg0 had
    go_wp2_with fail
    with_reducible (refine (D.out _ R1k.out).mono ?_)
    rintro e w1 ⟨⟨r, x, rfl, hxb, hq, hx2⟩, hb⟩
    have HQ := Lib.hid hq
    have HB := Lib.hid (bthen (bdrewN (Below.refl _ _) k) hb)
    have HX := Lib.hid hx2
    have hx64' : x < 18446744073709551616 := by omega
    clear hq hb hx2 hxb
    go_wp2_with fail
    with_reducible (refine (of_N x hx64' _).mono ?_)
    rintro e w2 ⟨⟨r2, rfl, hr2⟩, hb2⟩
    have HR := Lib.hid hr2
    have HQ2 := Lib.hid (HQ.out.below hb2)
    have HB2 := Lib.hid (bthen HB.out hb2)
    clear hr2 hb2
    go_wp2_with fail
    go_ret3
    refine ⟨⟨_, _, rfl, HQ2.out.eq ?_, HR.out.eq ?_⟩, HB2.out⟩
    · rw [R1.out.2.2, HG.out]
    · rw [HX.out, R1.out.2.2, HG.out]
  · have h1b : ((m : Int) == 1) = false := by simp; omega
    obtain ⟨t, ht⟩ : ∃ t, m - 1 = t := ⟨_, rfl⟩
    have hti : (m : Int) - 1 = (t : Int) := by omega
    obtain ⟨bd, rfl, hb1, hx⟩ := R2k.out.at_ t (by omega)
    have hx64 := R2k.out.word' t (by omega)
    have hG0 : G t ≠ 0 := by
      rcases R2.out.2.1 with h | h
      · omega
      · rwa [ht] at h
    obtain ⟨sh, hs1, hs2, _, _⟩ := shl_bitLen (G t) (by omega) hx64
    have Z := Lib.hid (fun w' => lz_any (G t) hx64 sh hs1 w')
    have hsh : min (max (sh : Int) 0) 131072 = (sh : Int) := by omega
    have S1 := Lib.hid (fun w' h => shl_any (some bd) m m G sh sh w' h hm1 hsh)
    have S2 := Lib.hid (fun w' h => shl_any A n n F sh sh w' h hn1 hsh)
    clear h1 ht hs1 hsh
    go_wp2_with fail
    with_reducible (refine (Z.out _).mono ?_)
    rintro e w' ⟨rfl, rfl⟩
    go_wp2_with fail
    with_reducible (refine (S1.out _ R2k.out).mono ?_)
    rintro e w1 ⟨⟨V, lv, rfl, hv1, hv2, hv3⟩, hb⟩
    have HV := Lib.hid (And.intro hv1 (And.intro hv2 hv3))
    have HB := Lib.hid (bthen (bdrewN (Below.refl _ _) k) hb)
    have R1b := Lib.hid (R1k.out.below hb)
    clear hv1 hv2 hv3 hb
    go_wp2_with fail
    with_reducible (refine (S2.out _ R1b.out).mono ?_)
    rintro e w2 ⟨⟨U, lu, rfl, hu1, hu2, hu3⟩, hb⟩
    have HU := Lib.hid (And.intro hu1 (And.intro hu2 hu3))
    have HB2 := Lib.hid (bthen HB.out hb)
    have HV2 := Lib.hid (HV.out.1.below hb)
    clear hu1 hu2 hu3 hb
    have hUs := HU.out.2.2
    have hVs := HV.out.2.2
    rw [R1.out.2.2] at hUs
    rw [R2.out.2.2] at hVs
    have hps := Nat.two_pow_pos sh
    have hVp : 0 < S V lv := by rw [hVs]; exact Nat.mul_pos h0 hps
    have hlv0 : 0 < lv := by
      rcases Nat.eq_zero_or_pos lv with h | h
      · subst h; rw [S_zero] at hVp; omega
      · exact h
    have hVU : S V lv ≤ S U lu := by rw [hVs, hUs]; exact Nat.mul_le_mul_right _ H.out
    have hlvu : lv ≤ lu := by
      rcases Nat.lt_or_ge lu lv with h | h
      · have := S_lt_len HU.out.1.word HV.out.2.1 h; omega
      · exact h
    have hU2 : S U lu < 2 ^ (a + 64) := by
      rw [hUs, Nat.pow_add]
      have h2 : 2 ^ sh < 2 ^ 64 := Nat.pow_lt_pow_right (by decide) hs2
      exact Nat.mul_lt_mul'' HA.out h2
    have hlu1 : lu ≤ 1000064 := by
      have := nm_len HU.out.2.1 rfl (Nat.lt_of_lt_of_le hU2 (Nat.pow_le_pow_left (show 2 ≤ Wd by decide) (a + 64)))
      omega
    obtain ⟨Q, hQ⟩ : ∃ Q, lu + 1 - lv = Q := ⟨_, rfl⟩
    have hQi : (lu : Int) + 1 - (lv : Int) = (Q : Int) := by omega
    have hmk := run_make_row' (P := Tryz.prog) 39 22 (.int .u64 0) 8 Tryz.underlying39 infoU rfl .i64 .i64 Q (by omega) (by omega)
    have hUa := HU.out.1.alloc (.cells #[.int .u64 0] 22)
    have holds : ∀ b, (some (⟨w1.heap.size, 0, none⟩ : Addr)) = some b → ∀ j u, (cellsF lu U)[j]? = some u → (w2.alloc (.cells #[.int .u64 0] 22)).cell? (b.add j) = some u := by
      rintro b e j u hj
      cases e
      have hlt : j < lu := by
        have := (List.getElem?_eq_some_iff.1 hj).1
        rwa [cellsF_len] at this
      rw [cellsF_get lu U j hlt] at hj
      obtain ⟨ad', e, _, hx⟩ := hUa.at_ j hlt
      cases e
      rw [hx, ← hj]
    obtain ⟨i0, hi, hz0, hz1, hz2⟩ := info_parts infoU
    have HH := Lib.hid holds
    have HI := Lib.hid (And.intro hi (And.intro hz0 (And.intro hz1 hz2)))
    have HS := Lib.hid (And.intro hUs (And.intro hVs hVp))
    have HQ := Lib.hid hQ
    clear hUs hVs hps hVp hVU hU2 hUa holds hi hz0 hz1 hz2 hQ
    go_wp2_with (at_builtin; refine wpList_append_grows (w2.alloc (.cells #[.int .u64 0] 22)) rfl (.tmp 56) (.tmp 57) 39 rfl 22 i0 (.int .u64 0) 1 8 Tryz.underlying39 HI.out.1 HI.out.2.1 HI.out.2.2.1 HI.out.2.2.2 rfl (by decide) (some ⟨w1.heap.size, 0, none⟩) lu lu (cellsF lu U) rfl (by simp) (by rw [cellsF_len, Nat.mul_one]) HH.out ⟨w2.heap.size, 0, none⟩ 1 1 [.int .u64 0] rfl rfl (cell_one_new _ _ _) (by simp [Value.oneCell']) (by omega) (by unfold maxLen; omega) (by omega) ?_)
    intro vu w3 hown hgrow
    obtain ⟨gu, cap, rfl, hgu, hrow, hcap, hcm⟩ := own_row (F := ext lu U) (n := lu + 1) (by rw [← cellsF_snoc]; exact hown) (by omega)
    have hb3 : Below w2.heap.size w2 w3 := ((Below.refl _ _).alloc (Nat.le_refl _) _).grown hgrow (by simp) (by simp)
    have HV3 := Lib.hid (HV2.out.below hb3)
    have HB3 := Lib.hid (bthen HB2.out hb3)
    have HRW := Lib.hid hrow
    have hgw : w.heap.size < gu := by have := HB2.out.size; omega
    have hgu3 : gu < w3.heap.size := hrow.lt
    have hcm' : cap ≤ 9223372036854775807 := hcm
    clear hown hgrow hb3 hrow hcm hgu
    go_wp2_with fail
    go_loopw [13] (fun i wr => ∃ (j : Nat) (y : Int) (O Qw : Nat → Nat), j ≤ Q ∧ i = .int .i64 y ∧ y + 1 = (j : Int) ∧ Hid (Row wr gu (lu + 1) O) ∧ Hid (∀ i, O i < Wd) ∧ Hid (Row wr w3.heap.size Q Qw) ∧ Hid (∀ i, Qw i < Wd) ∧ Hid (Found (ext lu U) O Qw (lu + 1) lv Q (S V lv) j) ∧ Hid (Rd wr (some ⟨w.heap.size, 0, none⟩) lv lv V) ∧ Hid (Below w.heap.size w wr)) (fun i _ => (1 + intOf i).toNat)
    case atStart =>
      refine ⟨Q, _, ext lu U, fun _ => 0, Nat.le_refl _, rfl, by omega, Lib.hid (HRW.out.alloc _), Lib.hid (fun i => ext_lt HU.out.1 i), Lib.hid (Row.made w3 Q), Lib.hid (fun _ => Wd_pos), Lib.hid (found_start (by have := HQ.out; omega) hlv0 (fun i => ext_lt HU.out.1 i) (if_neg (by omega)) ?_ _), Lib.hid (HV3.out.alloc _), Lib.hid (bgrow HB3.out _)⟩
      obtain ⟨x, hx⟩ : ∃ x, lv = x + 1 := ⟨lv - 1, by omega⟩
      have h2 := HV.out.2.1
      rw [hx] at h2 ⊢
      exact nm_ge h2
    case round =>
      obtain ⟨j, y, O, Qw, hj, rfl, hy, hO, hO2, hQw, hQw2, hF, hV, hB⟩ := hrel
      rcases j with _ | t1
      · obtain rfl : y = -1 := by omega
        have HQQ := Lib.hid (hQw.out.rd (by omega) (fun i _ => hQw2.out i))
        have HUU := Lib.hid (hO.out.part 0 (lu + 1) cap (by omega) (by omega) hcap hO2.out)
        have hshm : min (max (sh : Int) 0) 131072 = (sh : Int) := by omega
        have S3 := Lib.hid (fun w' h => shr_any (some ⟨gu, 0, none⟩) (lu + 1) cap (fun i => O (0 + i)) sh sh w' h (by omega) hshm)
        clear hshm
        go_wp2_with fail
        with_reducible (refine (trim_any _ Q Q Qw _ HQQ.out).mono ?_)
        rintro e w' ⟨⟨x, hx, rfl⟩, rfl⟩
        have HX := Lib.hid hx
        clear hx
        go_wp2_with fail
        with_reducible (refine (S3.out _ HUU.out).mono ?_)
        rintro e w5 ⟨⟨R, kr, rfl, hr1, hr2, hr3⟩, hb5⟩
        have HR := Lib.hid (And.intro hr1 (And.intro hr2 hr3))
        have HB5 := Lib.hid hb5
        clear hr1 hr2 hr3 hb5
        go_wp2_with fail
        go_ret3
        obtain ⟨f1, f2⟩ := found_end hF.out (by have := HQ.out; omega) HS.out.2.2
        rw [S_ext U (Nat.le_succ lu), HS.out.1, HS.out.2.1] at f1 f2
        have hps := Nat.two_pow_pos sh
        refine ⟨⟨_, _, rfl, ⟨_, _, _, _, rfl, (HQQ.out.cut HX.out.le).below HB5.out, HX.out.nm, ?_⟩, ⟨_, _, _, _, rfl, HR.out.1, HR.out.2.1, ?_⟩⟩, bthen hB.out HB5.out⟩
        · rw [HX.out.sum, f1, Nat.mul_div_mul_right _ _ hps]
        · have e0 : S (fun i => O (0 + i)) (lu + 1) = S O (lu + 1) := S_congr fun i _ => by rw [Nat.zero_add]
          rw [HR.out.2.2, e0, f2, Nat.mul_mod_mul_right, Nat.mul_div_cancel _ hps]
      · obtain rfl : y = (t1 : Int) := by omega
        obtain ⟨N1, hN1⟩ : ∃ N1, lv + 1 = N1 := ⟨_, rfl⟩
        have hlu := HQ.out
        have u0 : decide ((0 : Int) ≤ (t1 : Int)) = true := decide_eq_true (by omega)
        have u1 : (t1 : Int) + (lv : Int) + 1 ≤ (cap : Int) := by omega
        have u2 : (t1 : Int) ≤ (t1 : Int) + (lv : Int) + 1 := by omega
        have u3 : ¬ cap = t1 := by omega
        clear hlu
        have hmv : Hid (lv = lv - 1 + 1) := Lib.hid (by omega)
        have hX : t1 + lv + 1 - t1 = lv + 1 := by omega
        obtain ⟨qd, hqd⟩ : ∃ qd, S (fun i => O (t1 + i)) (lv + 1) / S V lv = qd := ⟨_, rfl⟩
        have hlt := found_lt hF.out (hO2.out t1)
        have hqd64 : qd < 18446744073709551616 := by rw [← hqd]; exact quo_word hlt
        have hD : Hid (Calls Tryz.prog 92 #[.slice (some ⟨gu, t1, none⟩) (t1 + lv + 1 - t1) (cap - t1), .slice (some ⟨w.heap.size, 0, none⟩) lv lv] wr fun e w4 => (∃ P, e = .returned (.int .u64 qd) ∧ Row w4 gu (lu + 1) P ∧ (∀ i, P i < Wd) ∧ Found (ext lu U) P (upd Qw t1 qd) (lu + 1) lv Q (S V lv) t1) ∧ Only gu wr w4) := Lib.hid (by
          refine (digit_low gu t1 (lu + 1) (t1 + lv + 1 - t1) lv (lv - 1) lv (cap - t1) (some ⟨w.heap.size, 0, none⟩) O V wr
            ⟨hmv.out, hX, hV.out, (by intro ad e; cases e; exact Nat.ne_of_lt hgw), hO.out, hO2.out, by have := HQ.out; omega, (by
              rcases HV.out.2.1 with h | h
              · omega
              · exact Nat.pos_of_ne_zero h), (by rw [hX]; exact hlt), by omega, by omega⟩).mono ?_
          rintro e w4 ⟨⟨P, rfl, hP1, hP2, hP3, hP4⟩, hon⟩
          rw [hX] at hP3 hP4 ⊢
          rw [hqd]
          exact ⟨⟨P, rfl, hP1, hP2, found_step hF.out (by have := HQ.out; omega) (by omega) (S_lt HV.out.1.word) hP3 hP2 hqd hP4 HS.out.2.2⟩, hon⟩)
        clear hX hqd hlt
        have htQ : t1 < Q := by omega
        clear u2
        go_wp2_with fail
        with_reducible (refine hD.out.mono ?_)
        rintro e w4 ⟨⟨P, rfl, hP1, hP2, hF2⟩, hon⟩
        have hne : w3.heap.size ≠ gu := by omega
        have HQ4 := Lib.hid (hQw.out.only hon hne)
        have hV4 := Lib.hid (hV.out.only hon (by intro ad e; cases e; exact Nat.ne_of_lt hgw))
        have hB4 := Lib.hid (hB.out.trans (hon.below (by omega) hB.out.size))
        have HP1 := Lib.hid hP1
        have HP2 := Lib.hid hP2
        have HF2 := Lib.hid hF2
        have hc1 := HQ4.out.at_ t1 htQ
        have hf1 := HQ4.out.free t1
        have h3g : w.heap.size ≤ w3.heap.size := HB3.out.size
        clear hne hP1 hP2 hF2 hon
        go_wp2_with fail
        go_roundw
        case rel =>
          refine ⟨t1, _, P, upd Qw t1 qd, by omega, rfl, by omega, Lib.hid (HP1.out.other (by simp; omega) _), HP2, Lib.hid (HQ4.out.set t1 qd), Lib.hid (fun i => ?_), HF2, Lib.hid (hV4.out.keep (by simp [World.setCell]) (fun p hp _ => World.cell?_setCell_other _ _ _ _ (fun e => ?_))), Lib.hid (hB4.out.setCell (by simp; omega) _)⟩
          · by_cases h1 : i = t1
            · rw [h1, upd_at]; exact hqd64
            · rw [upd_ne _ _ h1]; exact hQw2.out i
          · subst e
            simp at hp
            omega
        case measure => simp [intOf]; omega

theorem div_N (u v : Value) (M N a : Nat) (w : World) (hu : IsN w u M) (hv : IsN w v N) (hM : M < 2 ^ a) (ha : a ≤ 1000000) (h0 : 0 < N) :
    Calls Tryz.prog 66 #[u, v] w (DivEnd M N w) := by
  rcases Nat.lt_or_ge M N with h | h
  · exact div_less u v M N w hu hv h
  · exact div_more u v M N a w hu hv hM ha h h0
end Go.Proofs.YtlmeobokpibifaaGreatDoor
end

section
set_option linter.unusedSimpArgs false
set_option linter.unusedVariables false
set_option linter.unusedVariables false
namespace Go.Proofs.YtlmeobokpibifaaGreatDoor
open Go.RowKit

theorem bit_S {n i q r : Nat} {F : Nat → Nat} (hF : ∀ i, i < n → F i < Wd) (hi : i = 64 * q + r) (hr : r < 64) : S F n / 2 ^ i % 2 = ext n F q / 2 ^ r % 2 := by
  have h1 : S F n = S (ext n F) (n + q + 1) := (S_ext F (by omega)).symm
  rw [h1, show n + q + 1 = q + (n + 1) by omega, S_split, S_shift, hi, Nat.pow_add, ← Wp_two, ← Nat.div_div_eq_div_mul]
  have h2 : S (ext n F) q < Wd ^ q := S_lt (fun i hi => by unfold ext; split; exact hF i (by assumption); exact Wd_pos)
  rw [Nat.add_mul_div_left _ _ (Wp_pos q), Nat.div_eq_of_lt h2, Nat.zero_add, Nat.add_zero]
  generalize S (fun i => ext n F (q + (i + 1))) n = R
  generalize ext n F q = x
  have e : Wd = 2 ^ r * (2 * 2 ^ (63 - r)) := by
    rw [Wd_pow, ← Nat.pow_succ', ← Nat.pow_add]; congr 1; omega
  rw [e, Nat.mul_assoc, Nat.add_mul_div_left _ _ (Nat.two_pow_pos r), Nat.mul_assoc, Nat.add_mul_mod_self_left]
theorem bit_N (v : Value) (N i : Nat) (b : Bool) (w : World) (h : IsN w v N) (hi : i ≤ 10000000) (hb : decide (N / 2 ^ i % 2 = 1) = b) :
    Calls Tryz.prog 89 #[v, .int .i64 i] w fun e w' => e = .returned (.bool b) ∧ w = w' := by
  obtain ⟨A, n, c, F, rfl, hr, hn, rfl⟩ := h
  obtain ⟨q, hq⟩ : ∃ q, i / 64 = q := ⟨_, rfl⟩
  obtain ⟨r, hrr⟩ : ∃ r, i % 64 = r := ⟨_, rfl⟩
  have hr64 : r < 64 := by omega
  rw [bit_S (q := q) (r := r) hr.word (by omega) hr64] at hb
  have hx64 := ext_lt hr q
  have AT := Lib.hid (fun w h => at_ext A n c F q w h)
  have HH := Lib.hid hr
  generalize ext n F q = x at hb hx64 AT
  have hqi : (i : Int) / 64 = (q : Int) := by omega
  have hri : (i : Int) % 64 = (r : Int) := by omega
  have htd : ((i : Int)).tdiv 64 = (q : Int) := by rw [Int.tdiv_eq_ediv_of_nonneg (by omega)]; exact hqi
  have htm : ((i : Int)).tmod 64 = (r : Int) := by rw [Int.tmod_eq_emod_of_nonneg (by omega)]; exact hri
  have t1 : decide ((0 : Int) ≤ (i : Int)) = true := decide_eq_true (by omega)
  have hand : bits .and .u64 ((x : Int) / 2 ^ r) 1 = ((x / 2 ^ r % 2 : Nat) : Int) := by
    have e1 : ((x : Int) / 2 ^ r) = ((x / 2 ^ r : Nat) : Int) := by simp
    have := bits_and_u64_nat (x / 2 ^ r) 1 (Nat.lt_of_le_of_lt (Nat.div_le_self _ _) hx64) (by decide)
    rw [e1]
    rw [show ((1 : Nat) : Int) = 1 from rfl] at this
    rw [this, Nat.and_one_is_mod]
  clear hr hn hq hrr
  go_enter Tryz.func89, Tryz.ntmps89
  go_wp2_with fail
  with_reducible (refine (AT.out _ HH.out).mono ?_)
  rintro e w1 ⟨rfl, rfl⟩
  go_wp2_with fail
  have hb2 : ((x : Int) / 2 ^ r % 2 == 1) = b := by
    rw [← hb]
    have e1 : ((x : Int) / 2 ^ r % 2) = ((x / 2 ^ r % 2 : Nat) : Int) := by simp
    rw [e1]
    by_cases h1 : x / 2 ^ r % 2 = 1
    · rw [h1]; rfl
    · rw [decide_eq_false h1]; simp; omega
  go_ret
  exact ⟨by simp [hb2], rfl⟩
end Go.Proofs.YtlmeobokpibifaaGreatDoor
end

section
set_option linter.unusedSimpArgs false
set_option linter.unusedVariables false
set_option linter.unusedVariables false
namespace Go.Proofs.YtlmeobokpibifaaGreatDoor
open Go.RowKit

def xbox (neg : Bool) (v : Value) (s f : Int) : Obj := .cells #[.bool neg, v, .int .i64 s, .int .i64 f] 41
/-- an api.Exact as it is handed on -/
def xv (neg : Bool) (v : Value) (s f : Int) : Value := .agg #[.bool neg, v, .int .i64 s, .int .i64 f]
theorem d5_range {f : Int} (h : -30000 ≤ f ∧ f ≤ 30000) : -70000 ≤ d5 f ∧ d5 f ≤ 70000 := by
  unfold d5
  rcases Int.le_total 0 f with h0 | h0
  · rw [Int.tdiv_eq_ediv_of_nonneg (by omega)]; omega
  · have e : f * 2321928095 = -(-f * 2321928095) := by omega
    rw [e, Int.neg_tdiv, Int.tdiv_eq_ediv_of_nonneg (by omega)]; omega

theorem size_N (neg : Bool) (v : Value) (s f : Int) (M b : Nat) (r : Int) (w : World) (hv : IsN w v M) (hb : bitsN M = b) (hbb : b ≤ 1000000) (hs : -1000000 ≤ s ∧ s ≤ 1000000) (hf : -30000 ≤ f ∧ f ≤ 30000) (hr : (b : Int) + s + d5 f = r) :
    Calls Tryz.prog 59 #[xv neg v s f] w fun e w' => e = .returned (.int .i64 r) ∧ ∃ k, w' = (w.alloc (xbox neg v s f)).drewN k := by
  have B := Lib.hid (fun w h => bits_N v M b w h hb)
  have hv' := Lib.hid (hv.alloc (xbox neg v s f))
  obtain ⟨hd1, hd2⟩ := d5_range hf
  obtain ⟨hs1, hs2⟩ := hs
  obtain ⟨hf1, hf2⟩ := hf
  obtain ⟨d, hd⟩ : ∃ d, d5 f = d := ⟨_, rfl⟩
  rw [hd] at hr hd1 hd2
  have e0 : (f * 2321928095).tdiv 1000000000 = d := hd
  have e1 : IntKind.i64.wrap ((b : Int) + s) = (b : Int) + s := IntWalk.i64_in _ (by omega)
  have e2 : IntKind.i64.wrap (f * 2321928095) = f * 2321928095 := IntWalk.i64_in _ (by omega)
  have e3 : IntKind.i64.wrap d = d := IntWalk.i64_in _ (by omega)
  have e4 : IntKind.i64.wrap r = r := IntWalk.i64_in _ (by omega)
  clear hv hb hd
  unfold xv xbox at *
  go_enter Tryz.func59, Tryz.ntmps59
  go_wp2_with fail
  go_quiet ((go_at_call 58; exact Calls.quiet_of_same ((B.out _ (hv'.out.drewN _)).mono (fun _ _ h => ⟨h.1, h.2.symm⟩))))
  go_wp2_with fail
  go_ret
  exact ⟨rfl, _, rfl⟩
theorem nlen {w : World} {v : Value} {N : Nat} (h : IsN w v N) : ∃ A n c, v = .slice A n c ∧ (n = 0 ↔ N = 0) := by
  obtain ⟨A, n, c, F, rfl, hr, hn, rfl⟩ := h
  exact ⟨A, n, c, rfl, (nm_zero hn).symm⟩
theorem cmp_none (na nb : Bool) (u v : Value) (sa fa sb fb : Int) (M N : Nat) (r : Int) (w : World) (hu : IsN w u M) (hv : IsN w v N) (h : M = 0 ∨ N = 0) (hr : cmpN M N = r) :
    Calls Tryz.prog 60 #[xv na u sa fa, xv nb v sb fb] w fun e w' => e = .returned (.int .i64 r) ∧ Below w.heap.size w w' := by
  obtain ⟨A, n, c, rfl, hn⟩ := nlen hu
  obtain ⟨B, m, d, rfl, hm⟩ := nlen hv
  have C := Lib.hid (fun w h1 h2 => cmp_N (.slice A n c) (.slice B m d) M N r w h1 h2 hr)
  have HU := Lib.hid hu
  have HV := Lib.hid hv
  have HA := Lib.hid ((bgrow (bgrow (Below.refl w.heap.size w) (xbox na (.slice A n c) sa fa)) (xbox nb (.slice B m d) sb fb)))
  rcases Nat.eq_zero_or_pos n with h0 | h0
  · subst h0
    clear hu hv h hr hn hm
    unfold xv xbox at *
    go_enter Tryz.func60, Tryz.ntmps60
    go_wp2_with fail
    with_reducible (refine (C.out _ (HU.out.below HA.out) (HV.out.below HA.out)).mono ?_)
    rintro e w' ⟨rfl, k, rfl⟩
    go_wp2_with fail
    go_ret
    exact ⟨rfl, bdrewN HA.out k⟩
  · obtain rfl : m = 0 := by
      rcases h with h | h
      · have := hn.2 h; omega
      · exact hm.2 h
    have t1 : ((n : Int) == 0) = false := by simp; omega
    clear hu hv h hr hn hm
    unfold xv xbox at *
    go_enter Tryz.func60, Tryz.ntmps60
    go_wp2_with fail
    with_reducible (refine (C.out _ (HU.out.below HA.out) (HV.out.below HA.out)).mono ?_)
    rintro e w' ⟨rfl, k, rfl⟩
    go_wp2_with fail
    go_ret
    exact ⟨rfl, bdrewN HA.out k⟩

/-- a block that is an api.Exact -/
def Bx (w : World) (g : Nat) (neg : Bool) (v : Value) (s f : Int) : Prop :=
  w.cell? { block := g, off := 0 } = some (.bool neg) ∧ w.cell? { block := g, off := 1 } = some v ∧ w.cell? { block := g, off := 2 } = some (.int .i64 s) ∧ w.cell? { block := g, off := 3 } = some (.int .i64 f)
theorem Bx.made (w : World) (neg : Bool) (v : Value) (s f : Int) : Bx (w.alloc (xbox neg v s f)) w.heap.size neg v s f := by
  unfold xbox
  refine ⟨?_, ?_, ?_, ?_⟩ <;> simp [go_sem]
theorem Bx.below {w w' : World} {g : Nat} {neg : Bool} {v : Value} {s f : Int} (h : Bx w g neg v s f) (hb : Below w.heap.size w w') : Bx w' g neg v s f := by
  obtain ⟨a, b, c, d⟩ := h
  have hg : g < w.heap.size := World.block_lt_of_cell? w _ a
  exact ⟨(hb.cell hg).trans a, (hb.cell hg).trans b, (hb.cell hg).trans c, (hb.cell hg).trans d⟩
theorem hbthen {w a b : World} (h : Hid (Below w.heap.size w a)) (k : Below a.heap.size a b) : Hid (Below w.heap.size w b) := Lib.hid (bthen h.out k)

structure XOk (w : World) (v : Value) (M : Nat) (s f : Int) : Prop where
  isn : IsN w v M
  bits : bitsN M ≤ 100000
  s1 : -10000 ≤ s
  s2 : s ≤ 10000
  f1 : -10000 ≤ f
  f2 : f ≤ 10000
theorem XOk.below {w w' : World} {v : Value} {M : Nat} {s f : Int} (h : XOk w v M s f) (hb : Below w.heap.size w w') : XOk w' v M s f := ⟨h.isn.below hb, h.bits, h.s1, h.s2, h.f1, h.f2⟩
theorem size_X (neg : Bool) (v : Value) (s f : Int) (M : Nat) (w : World) (h : XOk w v M s f) :
    Calls Tryz.prog 59 #[xv neg v s f] w fun e w' => e = .returned (.int .i64 ((bitsN M : Int) + s + d5 f)) ∧ Below w.heap.size w w' :=
  (size_N neg v s f M _ _ w h.isn rfl (by have := h.bits; omega) ⟨by have := h.s1; omega, by have := h.s2; omega⟩ ⟨by have := h.f1; omega, by have := h.f2; omega⟩ rfl).mono fun e w' ⟨he, k, hk⟩ => ⟨he, by rw [hk]; exact bdrewN (bgrow (Below.refl _ _) _) k⟩
theorem cmp_some (na nb : Bool) (u v : Value) (sa fa sb fb : Int) (M N : Nat) (r : Int) (w : World) (hu : XOk w u M sa fa) (hv : XOk w v N sb fb) (hM : 0 < M) (hN : 0 < N) (hr : xcmp M sa fa N sb fb = r) :
    Calls Tryz.prog 60 #[xv na u sa fa, xv nb v sb fb] w fun e w' => e = .returned (.int .i64 r) ∧ Below w.heap.size w w' := by
  obtain ⟨A, n, c, rfl, hn⟩ := nlen hu.isn
  obtain ⟨B, m, d, rfl, hm⟩ := nlen hv.isn
  have t1 : ((n : Int) == 0) = false := by simp; omega
  have t2 : ((m : Int) == 0) = false := by simp; omega
  have HU := Lib.hid hu
  have HV := Lib.hid hv
  have HA := Lib.hid ((bgrow (bgrow (Below.refl w.heap.size w) (xbox na (.slice A n c) sa fa)) (xbox nb (.slice B m d) sb fb)))
  have HR := Lib.hid hr
  have HMN := Lib.hid (And.intro hM hN)
  have Z1 := Lib.hid (fun w h => size_X na (.slice A n c) sa fa M w h)
  have Z2 := Lib.hid (fun w h => size_X nb (.slice B m d) sb fb N w h)
  obtain ⟨x, hx⟩ : ∃ x, (bitsN M : Int) + sa + d5 fa = x := ⟨_, rfl⟩
  obtain ⟨y, hy⟩ : ∃ y, (bitsN N : Int) + sb + d5 fb = y := ⟨_, rfl⟩
  rw [hx] at Z1
  rw [hy] at Z2
  have ax := d5_range (f := fa) ⟨by have := hu.f1; omega, by have := hu.f2; omega⟩
  have ay := d5_range (f := fb) ⟨by have := hv.f1; omega, by have := hv.f2; omega⟩
  have hx1 : -90000 ≤ x ∧ x ≤ 200000 := by have := hu.bits; have := hu.s1; have := hu.s2; omega
  have hy1 : -90000 ≤ y ∧ y ≤ 200000 := by have := hv.bits; have := hv.s1; have := hv.s2; omega
  have hxw : IntKind.i64.wrap (x - y) = x - y := IntWalk.i64_in _ (by omega)
  have HX := Lib.hid (And.intro hx hy)
  obtain ⟨a1, a2⟩ := hx1
  obtain ⟨b1, b2⟩ := hy1
  clear hu hv hr hn hm hM hN hx hy ax ay
  unfold xv xbox at *
  go_enter Tryz.func60, Tryz.ntmps60
  go_wp2_with fail
  generalize hW : (w.alloc (Obj.cells #[Value.bool na, Value.slice A n c, Value.int IntKind.i64 sa, Value.int IntKind.i64 fa] 41)).alloc (Obj.cells #[Value.bool nb, Value.slice B m d, Value.int IntKind.i64 sb, Value.int IntKind.i64 fb] 41) = WB at HA ⊢
  have BA : Bx WB w.heap.size na (.slice A n c) sa fa := by
    rw [← hW]; exact (Bx.made w na (.slice A n c) sa fa).below (bgrow (Below.refl _ _) _)
  have BB : Bx WB (w.heap.size + 1) nb (.slice B m d) sb fb := by
    rw [← hW]
    have := Bx.made (w.alloc (xbox na (.slice A n c) sa fa)) nb (.slice B m d) sb fb
    simpa [xbox] using this
  have K0 := Lib.hid (fun w' (h : Hid (Below WB.heap.size WB w')) => And.intro h (And.intro (BA.below h.out) (BB.below h.out)))
  unfold Bx at K0
  have KS := Lib.hid (fun w1 w2 (h : Hid (Below WB.heap.size WB w1)) (b : Below w1.heap.size w1 w2) => K0.out w2 (hbthen h b))
  clear BA BB hW
  go_region_held3 (fun w' => Hid (Below WB.heap.size WB w') ∧ (w'.cell? { block := w.heap.size, off := 0 } = some (.bool na) ∧ w'.cell? { block := w.heap.size, off := 1 } = some (.slice A n c) ∧ w'.cell? { block := w.heap.size, off := 2 } = some (.int .i64 sa) ∧ w'.cell? { block := w.heap.size, off := 3 } = some (.int .i64 fa)) ∧ (w'.cell? { block := w.heap.size + 1, off := 0 } = some (.bool nb) ∧ w'.cell? { block := w.heap.size + 1, off := 1 } = some (.slice B m d) ∧ w'.cell? { block := w.heap.size + 1, off := 2 } = some (.int .i64 sb) ∧ w'.cell? { block := w.heap.size + 1, off := 3 } = some (.int .i64 fb)))
    (first | exact K0.out _ (Lib.hid (bdrewN (Below.refl _ _) 1)) | exact KS.out _ _ (And.left (by assumption)) (by assumption))
    (first | ((go_at_call 59); (with_reducible (refine (Z1.out _ ((HU.out.below HA.out).below (Hid.out (And.left (by assumption))))).mono ?_)); (rintro e w1 ⟨rfl, b1⟩))
           | ((go_at_call 59); (with_reducible (refine (Z2.out _ ((HV.out.below HA.out).below (Hid.out (And.left (by assumption))))).mono ?_)); (rintro e w1 ⟨rfl, b1⟩)))
  rename_i hS
  have HW := Lib.hid (bthen HA.out hS.1.out)
  clear Z1 Z2 t1 t2
  by_cases g1 : 6 < x - y
  · have g1' : decide (6 < x - y) = true := decide_eq_true g1
    have hr1 : r = 1 := by
      rw [← HR.out]
      exact far_more HMN.out.1 HMN.out.2 ⟨HU.out.s1, HU.out.s2⟩ ⟨HU.out.f1, HU.out.f2⟩ ⟨HV.out.s1, HV.out.s2⟩ ⟨HV.out.f1, HV.out.f2⟩ (by rw [HX.out.1, HX.out.2]; exact g1)
    subst hr1
    clear g1 hS
    go_wp2_with fail
    go_ret
    exact ⟨rfl, HW.out⟩
  · have g1' : decide (6 < x - y) = false := decide_eq_false g1
    by_cases g2 : x - y < -6
    · have g2' : decide (x - y < -6) = true := decide_eq_true g2
      have hr1 : r = -1 := by
        rw [← HR.out]
        exact far_less HMN.out.1 HMN.out.2 ⟨HU.out.s1, HU.out.s2⟩ ⟨HU.out.f1, HU.out.f2⟩ ⟨HV.out.s1, HV.out.s2⟩ ⟨HV.out.f1, HV.out.f2⟩ (by rw [HX.out.1, HX.out.2]; exact g2)
      subst hr1
      clear g1 g2 hS
      go_wp2_with fail
      go_ret
      exact ⟨rfl, HW.out⟩
    · have g2' : decide (x - y < -6) = false := decide_eq_false g2
      clear g1 g2
      have e1 : IntKind.i64.wrap (sa - sb) = sa - sb := IntWalk.i64_in _ (by have := HU.out.s1; have := HU.out.s2; have := HV.out.s1; have := HV.out.s2; omega)
      have e2 : IntKind.i64.wrap (fa - fb) = fa - fb := IntWalk.i64_in _ (by have := HU.out.f1; have := HU.out.f2; have := HV.out.f1; have := HV.out.f2; omega)
      have e3 : IntKind.i64.wrap (-(sa - sb)) = sb - sa := by rw [IntWalk.i64_in _ (by have := HU.out.s1; have := HU.out.s2; have := HV.out.s1; have := HV.out.s2; omega)]; omega
      have e4 : IntKind.i64.wrap (-(fa - fb)) = fb - fa := by rw [IntWalk.i64_in _ (by have := HU.out.f1; have := HU.out.f2; have := HV.out.f1; have := HV.out.f2; omega)]; omega
      have P1 := Lib.hid (fun w' (h : Hid (Below WB.heap.size WB w')) => scaled_N (.slice A n c) M (bitsN M) (sa - sb) (fa - fb) (sa - sb).toNat (fa - fb).toNat w' ((HU.out.below HA.out).below h.out).isn (bitsN_low HMN.out.1).2.1 (by have := HU.out.bits; omega) (by omega) (by have := HU.out.f1; have := HU.out.f2; have := HV.out.f1; have := HV.out.f2; omega) (by omega) (by have := HU.out.s1; have := HU.out.s2; have := HV.out.s1; have := HV.out.s2; omega))
      have P2 := Lib.hid (fun w' (h : Hid (Below WB.heap.size WB w')) => scaled_N (.slice B m d) N (bitsN N) (sb - sa) (fb - fa) (sb - sa).toNat (fb - fa).toNat w' ((HV.out.below HA.out).below h.out).isn (bitsN_low HMN.out.2).2.1 (by have := HV.out.bits; omega) (by omega) (by have := HU.out.f1; have := HU.out.f2; have := HV.out.f1; have := HV.out.f2; omega) (by omega) (by have := HU.out.s1; have := HU.out.s2; have := HV.out.s1; have := HV.out.s2; omega))
      have hcr : cmpN (M * 5 ^ (fa - fb).toNat * 2 ^ (sa - sb).toNat) (N * 5 ^ (fb - fa).toNat * 2 ^ (sb - sa).toNat) = r := by
        rw [← HR.out]
        exact (xcmp_cross M N sa fa sb fb (by have := HU.out.s1; omega) (by have := HU.out.f1; omega) (by have := HV.out.s1; omega) (by have := HV.out.f1; omega)).symm
      have C3 := Lib.hid (fun u v w' h1 h2 => cmp_N u v _ _ r w' h1 h2 hcr)
      clear hcr
      obtain ⟨hS0, ⟨ca0, ca1, ca2, ca3⟩, cb0, cb1, cb2, cb3⟩ := hS
      go_wp2_with fail
      go_quiet (fail)
      go_wp2_with fail
      clear ca0 ca1 ca2 ca3 cb0 cb1 cb2 cb3
      have hS2 := Lib.hid (bdrewN hS0.out nq)
      generalize w1.drewN nq = w2 at hS2 ⊢
      go_region_held3 (fun w' => Hid (Below WB.heap.size WB w') ∧ (w'.cell? { block := w.heap.size, off := 0 } = some (.bool na) ∧ w'.cell? { block := w.heap.size, off := 1 } = some (.slice A n c) ∧ w'.cell? { block := w.heap.size, off := 2 } = some (.int .i64 sa) ∧ w'.cell? { block := w.heap.size, off := 3 } = some (.int .i64 fa)) ∧ (w'.cell? { block := w.heap.size + 1, off := 0 } = some (.bool nb) ∧ w'.cell? { block := w.heap.size + 1, off := 1 } = some (.slice B m d) ∧ w'.cell? { block := w.heap.size + 1, off := 2 } = some (.int .i64 sb) ∧ w'.cell? { block := w.heap.size + 1, off := 3 } = some (.int .i64 fb)))
        (first | exact K0.out _ (Lib.hid (bdrewN hS2.out 1)) | exact KS.out _ _ (And.left (by assumption)) (by assumption) | exact KS.out _ _ (And.left (by assumption)) (bdrewN (Below.refl _ _) _))
        (first | ((go_at_call 86); (with_reducible (refine (P1.out _ (And.left (by assumption))).mono ?_)); (rintro e w1 ⟨⟨r1, rfl, i1⟩, b1⟩))
               | ((go_at_call 86); (with_reducible (refine (P2.out _ (And.left (by assumption))).mono ?_)); (rintro e w1 ⟨⟨r2, rfl, i2⟩, b2⟩))
               | ((go_at_call 85); (with_reducible (refine (C3.out _ _ _ (IsN.below (by assumption) (by assumption)) (by assumption)).mono ?_)); (rintro e w1 ⟨rfl, k3, rfl⟩)))
      go_wp2_with fail
      go_ret
      rename_i hT
      exact ⟨rfl, bthen HA.out hT.1.out⟩
end Go.Proofs.YtlmeobokpibifaaGreatDoor
end

section
set_option linter.unusedSimpArgs false
set_option linter.unusedVariables false
set_option linter.unusedVariables false
namespace Go.Proofs.YtlmeobokpibifaaGreatDoor
open Go.RowKit

theorem isN_none (w : World) : IsN w (.slice none 0 0) 0 := ⟨none, 0, 0, fun _ => 0, rfl, Rd.nil _ _, Or.inl rfl, rfl⟩
theorem xok_none (w : World) : XOk w (.slice none 0 0) 0 0 0 := ⟨isN_none w, by decide, by decide, by decide, by decide, by decide⟩
theorem cmp_X (na nb : Bool) (u v : Value) (sa fa sb fb : Int) (M N : Nat) (r : Int) (w : World) (hu : XOk w u M sa fa) (hv : XOk w v N sb fb) (hr : xcmp M sa fa N sb fb = r) :
    Calls Tryz.prog 60 #[xv na u sa fa, xv nb v sb fb] w fun e w' => e = .returned (.int .i64 r) ∧ Below w.heap.size w w' := by
  by_cases h : M = 0 ∨ N = 0
  · exact cmp_none na nb u v sa fa sb fb M N r w hu.isn hv.isn h (by rw [← hr, xcmp_none _ _ _ _ _ _ h])
  · exact cmp_some na nb u v sa fa sb fb M N r w hu hv (by omega) (by omega) hr
theorem cmp_0 (na : Bool) (u : Value) (sa fa : Int) (M : Nat) (r : Int) (w : World) (hu : XOk w u M sa fa) (hr : cmpN M 0 = r) :
    Calls Tryz.prog 60 #[xv na u sa fa, xv false (.slice none 0 0) 0 0] w fun e w' => e = .returned (.int .i64 r) ∧ Below w.heap.size w w' :=
  cmp_none na false u _ sa fa 0 0 M 0 r w hu.isn (isN_none w) (Or.inr rfl) hr

end Go.Proofs.YtlmeobokpibifaaGreatDoor
end

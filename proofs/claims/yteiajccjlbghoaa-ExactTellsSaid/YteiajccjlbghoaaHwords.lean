/- package caliperref01's Words, Halves. Conditions: as each theorem names them. -/
import Derived.Test.YteiajccjlbghoaaHplus
import Derived.Deep.RegionHeld3
import Derived.Deep.AppendLies
set_option linter.unusedVariables false
namespace Go.Proofs.Yteiajccjlbghoaa
open Go.RowKit

theorem cellsF_next (k : Nat) (O : Nat → Nat) : cellsF k O ++ [.int .u64 (O k)] = cellsF (k + 1) O := by
  unfold cellsF
  rw [List.range_succ, List.map_append]
  rfl
theorem cellsF_next2 (k : Nat) (O : Nat → Nat) : cellsF k O ++ [.int .u64 (O k), .int .u64 (O (k + 1))] = cellsF (k + 2) O := by
  rw [← cellsF_next (k + 1), ← cellsF_next k, List.append_assoc]
  rfl
theorem grown_below {B k : Nat} {O : Nat → Nat} {w wr w1 : World} {v : Value} {o : Obj} (hB : w.heap.size ≤ B) (hown : OwnU wr B v k O) (hb : Below w.heap.size w wr) (hg : (wr.alloc o).grownBy w1 v.ownBlock) : Below w.heap.size w w1 :=
  (hb.alloc hb.size o).grown hg (by have := hb.size; simp; omega) (fun j hj => by have := hown.lt j hj; omega)
theorem grown_belowD {B k : Nat} {O : Nat → Nat} {w wr w1 : World} {v : Value} {o : Obj} (hB : w.heap.size ≤ B) (hown : OwnU wr B v k O) (hb : Below w.heap.size w wr) (hg : (wr.alloc o).drew.grownBy w1 v.ownBlock) : Below w.heap.size w w1 :=
  (hb.alloc hb.size o).drew.grown hg (by have := hb.size; simp; omega) (fun j hj => by have := hown.lt j hj; omega)
theorem two_news (w : World) (x y : Nat) : ∀ j u, ([Value.int .u64 x, .int .u64 y] : List Value)[j]? = some u → (w.alloc (.cells #[.int .u64 x, .int .u64 y] 35)).cell? ((⟨w.heap.size, 0, none⟩ : Addr).add j) = some u := by
  intro j u hj
  rcases j with _ | _ | j
  · simp at hj
    subst hj
    simp [Addr.add]
  · simp at hj
    subst hj
    simp [Addr.add]
  · simp at hj
theorem two_cell (x y : Nat) : ∀ u ∈ ([Value.int .u64 x, .int .u64 y] : List Value), u.oneCell' = true := by
  intro u hu; simp at hu; rcases hu with rfl | rfl <;> rfl
theorem own_wd {w : World} {B k : Nat} {v : Value} {O : Nat → Nat} (h : OwnU w B v k O) (hk : k ≤ 17592186044416) (hO : ∀ i, i < k → O i < Wd) : ∃ A c, v = .slice A k c ∧ Rd w A k c O := by
  obtain ⟨A, c, e, hr, _⟩ := rd_own h hk hO
  exact ⟨A, c, e, hr⟩
theorem trimN {w : World} {A : Option Addr} {n c m N : Nat} {F : Nat → Nat} (h : Rd w A n c F) (hm : Trim n F m) (hN : S F n = N) : IsN w (.slice A m c) N :=
  ⟨A, m, c, F, rfl, h.keepcap hm.le, hm.nm, by rw [hm.sum, hN]⟩

theorem far_keep {wr w1 : World} {o : Obj} {v x : Value} {a : Addr} {j : Nat} (hg : (wr.alloc o).drew.grownBy w1 v.ownBlock) (h1 : some a.block ≠ v.ownBlock) (h2 : a.block < wr.heap.size) (hc : wr.cell? (a.add j) = some x) : w1.cell? (a.add j) = some x := by
  have h3 : (a.add j).block < wr.heap.size := by rw [block_add]; exact h2
  refine (World.grownBy.cell_far hg (a.add j) ?_ ?_).trans ((((Below.refl wr.heap.size wr).alloc (Nat.le_refl _) o).cell h3).trans hc)
  · rw [block_add]; simp; omega
  · rw [block_add]; exact h1
theorem addr_next (a : Addr) (t : Nat) : a.add (t + 1) = ⟨a.block, a.off + (t + 1), none⟩ := by
  unfold Addr.add
  rw [if_neg (by omega)]
theorem words_any (A : Option Addr) (n c : Nat) (F : Nat → Nat) (w : World) (hA : Rd w A n c F) (hF : ∀ i, i < n → F i < Hd) (hn : n ≤ 4194304) :
    Calls Try.prog 44 #[.slice A n c] w fun e w' => (∃ r, e = .returned r ∧ IsN w' r (T F n)) ∧ Below w.heap.size w w' := by
  obtain ⟨i0, hi, hz0, hz1, hz2⟩ := info_parts infoU
  have HI := Lib.hid (And.intro hi (And.intro hz0 (And.intro hz1 hz2)))
  have HA := Lib.hid hA
  have HF := Lib.hid hF
  clear hA hF hi hz0 hz1 hz2
  go_enter Try.func44, Try.ntmps44
  go_wp2_with fail
  go_loopw [3, 4] (fun v i wr => ∃ (j t : Nat) (V : Value), V = v ∧ 2 * j = t ∧ t ≤ n + 1 ∧ i = .int .i64 t ∧ Hid (OwnU wr w.heap.size V j (wv n F)) ∧ Hid (Below w.heap.size w wr)) (fun _ i _ => n + 1 - (intOf i).toNat)
  case atStart => exact ⟨0, 0, _, rfl, rfl, Nat.zero_le _, rfl, Lib.hid (own_start w _), Lib.hid ((Below.refl _ _).alloc (Nat.le_refl _) _)⟩
  case round =>
    obtain ⟨j, t, v, rfl, hjt, htn, rfl, hown, hBel⟩ := hrel
    by_cases hgo : t < n
    · have u1 : decide (t < n) = true := decide_eq_true hgo
      have rA := HA.out.below hBel.out
      obtain ⟨ad, rfl, hb, hcx⟩ := rA.at_ t hgo
      have hx : F t < 4294967296 := HF.out t hgo
      have hw := wv_lt HF.out j
      have he : wv n F j = F t + ext n F (t + 1) * 4294967296 := by unfold wv; rw [hjt, ext_in F hgo]
      obtain ⟨x, hxe⟩ : ∃ x, wv n F j = x := ⟨_, rfl⟩
      have HOW := Lib.hid (World.ownsRow.alloc hown.out (.cells #[.int .u64 x] 35))
      have HBS := Lib.hid (show w.heap.size ≤ (wr.alloc (.cells #[.int .u64 x] 35)).heap.size from by have := hBel.out.size; simp; omega)
      have HN := Lib.hid (And.intro hgo (And.intro hjt hxe))
      rw [hxe] at he hw
      by_cases h2 : t + 1 < n
      · have u2 : decide ((t : Int) + 1 < (n : Int)) = true := decide_eq_true (by omega)
        have u2' : decide (t + 1 < n) = true := decide_eq_true h2
        obtain ⟨ad2, hh, hb2, hcy⟩ := rA.at_ (t + 1) h2
        cases hh
        rw [addr_next] at hcy
        have hy : F (t + 1) < 4294967296 := HF.out (t + 1) h2
        rw [ext_in F h2] at he
        obtain ⟨a, ha⟩ : ∃ a, F t = a := ⟨_, rfl⟩
        obtain ⟨b, hb'⟩ : ∃ b, F (t + 1) = b := ⟨_, rfl⟩
        rw [ha] at hcx hx he
        rw [hb'] at hcy hy he
        have hsh : IntKind.u64.wrap ((b : Int) * 4294967296) = ((b * 4294967296 : Nat) : Int) := by
          rw [IntWalk.u64_in _ (by omega)]; simp
        have hsum : (a : Int) + ((b * 4294967296 : Nat) : Int) = (x : Int) := by omega
        have hsum2 : (a : Int) + (b : Int) * 4294967296 = (x : Int) := by omega
        clear rA ha hb' he hxe hjt
        go_wp2_with (at_builtin; refine wpList_append_own_at (_ : World) rfl (.tmp 30) (.tmp 32) 22 rfl w.heap.size 35 i0 (.int .u64 0) 1 8 Try.underlying22 HI.out.1 HI.out.2.1 HI.out.2.2.1 HI.out.2.2.2 rfl (by decide) _ j (cellsF j (wv n F)) rfl HOW.out ⟨_, 0, none⟩ 1 1 [.int .u64 x] rfl rfl (one_news _ x) (one_cell x) (by have := HN.out.2.1; unfold maxLen; omega) (by have := HN.out.2.1; omega) HBS.out ?_)
        intro v' w1 hown' hgrow _ _
        have HP := Lib.hid (grown_below (Nat.le_refl _) hown.out hBel.out hgrow)
        have HO2 : Hid (OwnU w1 w.heap.size v' (j + 1) (wv n F)) := Lib.hid (by rw [← HN.out.2.2, cellsF_next] at hown'; exact hown')
        clear hown' hgrow hown hBel
        go_wp2_with fail
        go_roundw
        case rel => exact ⟨j + 1, t + 2, _, rfl, by have := HN.out.2.1; omega, by have := HN.out.1; omega, by go_num, HO2, HP⟩
        case measure => have := HN.out.1; simp [intOf]; omega
      · have u2 : decide ((t : Int) + 1 < (n : Int)) = false := decide_eq_false (by omega)
        have u2' : decide (t + 1 < n) = false := decide_eq_false h2
        rw [ext_out F (show n ≤ t + 1 by omega), Nat.zero_mul, Nat.add_zero] at he
        rw [← he] at hcx
        clear rA he hxe hjt h2
        go_wp2_with (at_builtin; refine wpList_append_own_at (_ : World) rfl (.tmp 30) (.tmp 32) 22 rfl w.heap.size 35 i0 (.int .u64 0) 1 8 Try.underlying22 HI.out.1 HI.out.2.1 HI.out.2.2.1 HI.out.2.2.2 rfl (by decide) _ j (cellsF j (wv n F)) rfl HOW.out ⟨_, 0, none⟩ 1 1 [.int .u64 x] rfl rfl (one_news _ x) (one_cell x) (by have := HN.out.2.1; unfold maxLen; omega) (by have := HN.out.2.1; omega) HBS.out ?_)
        intro v' w1 hown' hgrow _ _
        have HP := Lib.hid (grown_below (Nat.le_refl _) hown.out hBel.out hgrow)
        have HO2 : Hid (OwnU w1 w.heap.size v' (j + 1) (wv n F)) := Lib.hid (by rw [← HN.out.2.2, cellsF_next] at hown'; exact hown')
        clear hown' hgrow hown hBel
        go_wp2_with fail
        go_roundw
        case rel => exact ⟨j + 1, t + 2, _, rfl, by have := HN.out.2.1; omega, by have := HN.out.1; omega, by go_num, HO2, HP⟩
        case measure => have := HN.out.1; simp [intOf]; omega
    · have u1 : decide (t < n) = false := decide_eq_false hgo
      have hsum : S (wv n F) j = T F n := by rw [S_wv, T_ext F (by omega)]
      obtain ⟨A', c', rfl, hr⟩ := own_wd hown.out (by omega) (fun i _ => wv_lt HF.out i)
      have HR := Lib.hid hr
      have HSM := Lib.hid hsum
      clear hr hgo hsum hjt
      go_wp2_with fail
      with_reducible (refine (rtrim_any _ j c' _ _ HR.out).mono ?_)
      rintro e w' ⟨⟨x, hx, rfl⟩, rfl⟩
      have HX := Lib.hid hx
      clear hx
      go_wp2_with fail
      go_ret
      exact ⟨⟨_, rfl, trimN HR.out HX.out HSM.out⟩, hBel.out⟩
theorem words_H (u : Value) (M a : Nat) (w : World) (hu : IsH w u M) (hM : M < 2 ^ a) (ha : a ≤ 1048576) :
    Calls Try.prog 44 #[u] w fun e w' => (∃ r, e = .returned r ∧ IsN w' r M) ∧ Below w.heap.size w w' := by
  obtain ⟨A, n, c, F, rfl, hA, hF, hn, rfl⟩ := hu
  have h1 := len_of_half hn rfl hM ha
  exact words_any A n c F w hA hF (by omega)

theorem halves_any (A : Option Addr) (n c : Nat) (F : Nat → Nat) (w : World) (hA : Rd w A n c F) (hn : n ≤ 2097152) :
    Calls Try.prog 18 #[.slice A n c] w fun e w' => (∃ r, e = .returned r ∧ IsH w' r (S F n)) ∧ Below w.heap.size w w' := by
  obtain ⟨i0, hi, hz0, hz1, hz2⟩ := info_parts infoU
  have HI := Lib.hid (And.intro hi (And.intro hz0 (And.intro hz1 hz2)))
  have HA := Lib.hid hA
  clear hA hi hz0 hz1 hz2
  go_enter Try.func18, Try.ntmps18
  go_wp2_with fail
  go_loopw [3, 4] (fun v i wr => ∃ (j t : Nat) (V : Value), V = v ∧ 2 * j = t ∧ j ≤ n ∧ i = .int .i64 j ∧ Hid (OwnU wr w.heap.size V t (hv F)) ∧ Hid (Below w.heap.size w wr)) (fun _ i _ => n - (intOf i).toNat)
  case atStart => exact ⟨0, 0, _, rfl, rfl, Nat.zero_le _, rfl, Lib.hid (own_start w _), Lib.hid ((Below.refl _ _).alloc (Nat.le_refl _) _)⟩
  case round =>
    obtain ⟨j, t, v, rfl, hjt, htn, rfl, hown, hBel⟩ := hrel
    by_cases hgo : j < n
    · have u1 : decide (j < n) = true := decide_eq_true hgo
      have rA := HA.out.below hBel.out
      obtain ⟨ad, rfl, hb, hcx⟩ := rA.at_ j hgo
      have hx := rA.word' j hgo
      have e1 := hv_even F j
      have e2 := hv_odd F j
      rw [hjt] at e1 e2
      obtain ⟨p, hp⟩ : ∃ p, hv F t = p := ⟨_, rfl⟩
      obtain ⟨q, hq⟩ : ∃ q, hv F (t + 1) = q := ⟨_, rfl⟩
      have HN := Lib.hid (And.intro hgo (And.intro hjt (And.intro hp hq)))
      rw [hp] at e1
      rw [hq] at e2
      obtain ⟨x, hxe⟩ : ∃ x, F j = x := ⟨_, rfl⟩
      rw [hxe] at hcx hx e1 e2
      have hpi : (x : Int) % 4294967296 = (p : Int) := by omega
      have hpt : (x : Int).tmod 4294967296 = (p : Int) := by rw [Int.tmod_eq_emod_of_nonneg (by omega)]; exact hpi
      have hqi : (x : Int) / 4294967296 = (q : Int) := by omega
      have HOW := Lib.hid (World.ownsRow.alloc hown.out (.cells #[.int .u64 p, .int .u64 q] 35))
      have HBS := Lib.hid (show w.heap.size ≤ (wr.alloc (.cells #[.int .u64 p, .int .u64 q] 35)).heap.size from by have := hBel.out.size; simp; omega)
      have hne : some ad.block ≠ v.ownBlock := fun h => by
        have h1 := hown.out.lt _ h.symm
        obtain ⟨ad', h2, h3, _⟩ := HA.out.at_ j hgo
        cases h2
        omega
      have HNE := Lib.hid (And.intro hne hb)
      have HC := Lib.hid hcx
      have h0 : (0 : Int) ≤ (j : Int) := Int.natCast_nonneg _
      have h0' : (j : Int) < (n : Int) := by omega
      clear rA e1 e2 hxe hjt hp hq hne
      go_wp2_with fail
      go_region_held3 (fun w' => w'.cell? (ad.add j) = some (.int .u64 x))
        (first
          | go_keep
          | exact far_keep hgrow HNE.out.1 HNE.out.2 HC.out)
        ((refine step_append_lies _ (by rfl) _ _ _ (by rfl) w.heap.size 35 i0 _ 1 8 Try.underlying22 HI.out.1 HI.out.2.1 HI.out.2.2.1 HI.out.2.2.2 rfl (by omega) v t (cellsF t (hv F)) (by rfl) HOW.out
            ⟨wr.heap.size, 0, none⟩ 2 2 [.int .u64 p, .int .u64 q] (by rfl) (by rfl) (two_news wr p q) (two_cell p q)
            (by omega) (by have := HN.out.2.1; unfold maxLen; omega) (by have := HN.out.2.1; omega) HBS.out (wr.heap.size + 1) (by simp) ?_; intro gg cap w1 hown' hgrow hat hlt))
      have HP := Lib.hid (grown_belowD (Nat.le_refl _) hown.out hBel.out hgrow)
      have HO2 : Hid (OwnU w1 w.heap.size (.slice (some ⟨gg, 0, none⟩) (t + 2) cap) (t + 2) (hv F)) := Lib.hid (by
        obtain ⟨h1, h2, h3, h4⟩ := HN.out
        rw [← h3, ← h4, cellsF_next2] at hown'
        exact hown')
      clear hown' hgrow hown hBel
      go_wp2_with fail
      go_roundw
      case rel => exact ⟨j + 1, t + 2, _, rfl, by have := HN.out.2.1; omega, by have := HN.out.1; omega, by go_num, HO2, HP⟩
      case measure => have := HN.out.1; simp [intOf]; omega
    · obtain rfl : j = n := by omega
      have u1 : decide (j < j) = false := by simp
      have hsum : T (hv F) t = S F j := by rw [← hjt, T_hv]
      have hlt := hv_lt F j HA.out.word
      rw [hjt] at hlt
      obtain ⟨A', c', rfl, hr⟩ := own_rd hown.out (by omega) hlt
      have HR := Lib.hid hr
      have HSM := Lib.hid hsum
      have HLT := Lib.hid hlt
      clear hr hgo hsum hjt hlt
      go_wp2_with fail
      with_reducible (refine (rtrim_any _ t c' _ _ HR.out).mono ?_)
      rintro e w' ⟨⟨x, hx, rfl⟩, rfl⟩
      have HX := Lib.hid hx
      clear hx
      go_wp2_with fail
      go_ret
      exact ⟨⟨_, rfl, trimH HR.out HLT.out HX.out HSM.out⟩, hBel.out⟩
theorem halves_N (u : Value) (M a : Nat) (w : World) (hu : IsN w u M) (hM : M < 2 ^ a) (ha : a ≤ 1048576) :
    Calls Try.prog 18 #[u] w fun e w' => (∃ r, e = .returned r ∧ IsH w' r M) ∧ Below w.heap.size w w' := by
  obtain ⟨A, n, c, F, rfl, hA, hn, rfl⟩ := hu
  have h1 := len_of_bits hn rfl hM ha
  exact halves_any A n c F w hA (by omega)
end Go.Proofs.Yteiajccjlbghoaa

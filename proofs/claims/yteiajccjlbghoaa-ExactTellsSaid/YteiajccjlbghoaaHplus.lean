/- package caliperref01's Plus. Conditions: as each theorem names them. -/
import Derived.Test.YteiajccjlbghoaaHrd
set_option linter.unusedVariables false
namespace Go.Proofs.Yteiajccjlbghoaa
open Go.RowKit

abbrev OwnU (w : World) (B : Nat) (v : Value) (k : Nat) (O : Nat → Nat) : Prop := w.ownsRow B 35 1 v k (cellsF k O)
theorem cellsF_push (k x : Nat) (O : Nat → Nat) : cellsF k O ++ [.int .u64 x] = cellsF (k + 1) (upd O k x) := by
  unfold cellsF
  rw [List.range_succ, List.map_append]
  congr 1
  · apply List.map_congr_left
    intro i hi
    rw [upd_ne _ _ (by have := List.mem_range.1 hi; omega)]
  · simp [upd_at]
theorem own_push {B k x : Nat} {O : Nat → Nat} {w wr w1 : World} {v v' : Value} {o : Obj} (hB : w.heap.size ≤ B) (hown : OwnU wr B v k O) (hb : Below w.heap.size w wr)
    (hown' : w1.ownsRow B 35 1 v' (k + 1) (cellsF k O ++ [.int .u64 x])) (hg : (wr.alloc o).grownBy w1 v.ownBlock) : OwnU w1 B v' (k + 1) (upd O k x) ∧ Below w.heap.size w w1 := by
  refine ⟨by rw [cellsF_push] at hown'; exact hown', (hb.alloc hb.size o).grown hg (by have := hb.size; simp; omega) (fun j hj => ?_)⟩
  have := hown.lt j hj
  omega
theorem one_news (w : World) (x : Nat) : ∀ j u, ([Value.int .u64 x] : List Value)[j]? = some u → (w.alloc (.cells #[.int .u64 x] 35)).cell? ((⟨w.heap.size, 0, none⟩ : Addr).add j) = some u := by
  intro j u hj
  rcases j with _ | j
  · simp at hj
    subst hj
    simp [Addr.add]
  · simp at hj
theorem one_cell (x : Nat) : ∀ u ∈ ([Value.int .u64 x] : List Value), u.oneCell' = true := by
  intro u hu; simp at hu; subst hu; rfl
theorem own_start (w : World) (O : Nat → Nat) : OwnU (w.alloc (.cells #[] 35)) w.heap.size (.slice (some ⟨w.heap.size, 0, none⟩) 0 0) 0 O :=
  ⟨rfl, Or.inr ⟨w.heap.size, 0, #[], rfl, Nat.le_refl _, Deep.blk_alloc_new _ _, Nat.le_refl _, by decide, rfl, rfl⟩⟩
theorem own_rd {w : World} {B k : Nat} {v : Value} {O : Nat → Nat} (h : OwnU w B v k O) (hk : k ≤ 17592186044416) (hO : ∀ i, i < k → O i < Hd) : ∃ A c, v = .slice A k c ∧ Rd w A k c O := by
  obtain ⟨A, c, e, hr, _⟩ := rd_own h hk (fun i hi => Nat.lt_trans (hO i hi) (by decide))
  exact ⟨A, c, e, hr⟩
/-- a slice whose half words lie at block B or later -/
def Lies (B : Nat) (v : Value) : Prop := ∃ A n c, v = .slice A n c ∧ (0 < n → ∃ g, A = some ⟨g, 0, none⟩ ∧ B ≤ g)
theorem own_rdF {w : World} {B k : Nat} {v : Value} {O : Nat → Nat} (h : OwnU w B v k O) (hk : k ≤ 17592186044416) (hO : ∀ i, i < k → O i < Hd) : ∃ A c, v = .slice A k c ∧ Rd w A k c O ∧ (0 < k → ∃ g, A = some ⟨g, 0, none⟩ ∧ B ≤ g) := by
  obtain ⟨A, c, e, hr, hf⟩ := rd_own h hk (fun i hi => Nat.lt_trans (hO i hi) (by decide))
  exact ⟨A, c, e, hr, fun h0 => by obtain ⟨g, a, b, _⟩ := hf h0; exact ⟨g, a, b⟩⟩
theorem IsH.setR {B : Nat} {w : World} {v : Value} {N : Nat} (h : IsH w v N) (hl : Lies B v) (p : Addr) (x : Value) (hp : p.block < B) : IsH (w.setCell p x) v N := by
  obtain ⟨A, n, c, F, rfl, hr, hh, hn, hs⟩ := h
  obtain ⟨A', n', c', e, hf⟩ := hl
  cases e
  refine ⟨A, n, c, F, rfl, ?_, hh, hn, hs⟩
  refine ⟨hr.1, hr.2.1, hr.2.2.1, hr.2.2.2.1, fun h0 => ?_⟩
  obtain ⟨ad, ha, hb, hc⟩ := hr.2.2.2.2 h0
  obtain ⟨g, hg, hB⟩ := hf h0
  rw [ha] at hg
  cases hg
  refine ⟨_, ha, by simpa using hb, fun i hi => ?_⟩
  rw [← hc i hi]
  have hne : g ≠ p.block := by omega
  have hblk := Deep.blk_setCell_other w p x g hne
  unfold World.cell?
  rw [block_add]
  simp only [hblk]
theorem upd_h {O : Nat → Nat} {k x : Nat} (h : ∀ i, i < k → O i < Hd) (hx : x < 4294967296) : ∀ i, i < k + 1 → upd O k x i < Hd := by
  intro i hi
  by_cases e : i = k
  · rw [e, upd_at]; exact hx
  · rw [upd_ne _ _ e]; exact h i (by omega)

theorem plus_step {F G O : Nat → Nat} {j c s k : Nat} (hs : (F j + G j + c) % 4294967296 = s) (hk : (F j + G j + c) / 4294967296 = k) (h : T O j + c * Hd ^ j = T F j + T G j) :
    T (upd O j s) (j + 1) + k * Hd ^ (j + 1) = T F (j + 1) + T G (j + 1) := by
  have e : s + k * Hd = F j + G j + c := by rw [← hs, ← hk, Hd_eq]; omega
  rw [T_succ, T_succ, T_succ, upd_at, upd_T _ _ _ _ (Nat.le_refl _), Hp_succ, Nat.mul_left_comm, Nat.mul_comm (Hd ^ j) _]
  have : (s + k * Hd) * Hd ^ j = (F j + G j + c) * Hd ^ j := by rw [e]
  simp only [Nat.add_mul] at this
  omega

theorem plus_any (A B : Option Addr) (n c m d : Nat) (F G : Nat → Nat) (w : World) (hA : Rd w A n c F) (hB : Rd w B m d G) (hF : ∀ i, i < n → F i < Hd) (hG : ∀ i, i < m → G i < Hd) (hn : n ≤ 2097152) (hm : m ≤ 2097152) :
    Calls Try.prog 43 #[.slice A n c, .slice B m d] w fun e w' => (∃ r, e = .returned r ∧ IsH w' r (T F n + T G m)) ∧ Below w.heap.size w w' := by
  obtain ⟨L, hL⟩ : ∃ L, max n m = L := ⟨_, rfl⟩
  obtain ⟨i0, hi, hz0, hz1, hz2⟩ := info_parts infoU
  have HI := Lib.hid (And.intro hi (And.intro hz0 (And.intro hz1 hz2)))
  have HA := Lib.hid hA
  have HB := Lib.hid hB
  have HF := Lib.hid hF
  have HG := Lib.hid hG
  have HL := Lib.hid hL
  clear hA hB hF hG hi hz0 hz1 hz2
  go_enter Try.func43, Try.ntmps43
  go_wp2_with fail
  go_loopw [5, 6, 7] (fun v cr i wr => ∃ (j k : Nat) (O : Nat → Nat) (V : Value), V = v ∧ j ≤ L + 1 ∧ cr = .int .u64 k ∧ i = .int .i64 j ∧ k ≤ 1 ∧ Hid (L < j → k = 0) ∧ Hid (OwnU wr w.heap.size V j O) ∧ Hid (∀ i, i < j → O i < Hd) ∧ Hid (T O j + k * Hd ^ j = T (ext n F) j + T (ext m G) j) ∧ Hid (Below w.heap.size w wr)) (fun _ _ i _ => L + 1 - (intOf i).toNat)
  case atStart => exact ⟨0, 0, fun _ => 0, _, rfl, Nat.zero_le _, rfl, rfl, by decide, Lib.hid (fun _ => rfl), Lib.hid (own_start w _), Lib.hid (fun i hi => absurd hi (Nat.not_lt_zero _)), Lib.hid (by simp [T_zero]), Lib.hid ((Below.refl _ _).alloc (Nat.le_refl _) _)⟩
  case round =>
    obtain ⟨j, k, O, v, rfl, hj, rfl, rfl, hk, hk0, hown, hO, hS, hBel⟩ := hrel
    by_cases hgo : j < n ∨ j < m ∨ 0 < k
    · have hjL : j ≤ L := by
        rcases Nat.lt_or_ge L j with h | h
        · have := hk0.out h; have := HL.out; omega
        · exact h
      have hlast := hL ▸ hjL
      have a1 := Lib.hid (fun w' (h : Rd w' A n c F) => get_any A n c F j w' h)
      have a2 := Lib.hid (fun w' (h : Rd w' B m d G) => get_any B m d G j w' h)
      have rA := Lib.hid (HA.out.below hBel.out)
      have rB := Lib.hid (HB.out.below hBel.out)
      have hx := ext_h HF.out j
      have hy := ext_h HG.out j
      obtain ⟨t, ht⟩ : ∃ t, ext n F j + ext m G j + k = t := ⟨_, rfl⟩
      obtain ⟨s, hs⟩ : ∃ s, t % 4294967296 = s := ⟨_, rfl⟩
      obtain ⟨k', hk'⟩ : ∃ k', t / 4294967296 = k' := ⟨_, rfl⟩
      have hst := plus_step (F := ext n F) (G := ext m G) (O := O) (j := j) (c := k) (s := s) (k := k') (by rw [ht]; exact hs) (by rw [ht]; exact hk') hS.out
      have hkk : L < j + 1 → k' = 0 := by
        intro h
        have e1 := ext_out (n := n) (i := j) F (by omega)
        have e2 := ext_out (n := m) (i := j) G (by omega)
        omega
      have HST := Lib.hid (And.intro hst hkk)
      generalize ext n F j = x at a1 hx ht
      generalize ext m G j = y at a2 hy ht
      have hti : (x : Int) + (y : Int) + (k : Int) = (t : Int) := by omega
      have hsi : (t : Int) % 4294967296 = (s : Int) := by omega
      have hki : (t : Int) / 4294967296 = (k' : Int) := by omega
      have hs64 : s < 4294967296 := by omega
      have hk1 : k' ≤ 1 := by omega
      have HN := Lib.hid (And.intro hs64 (And.intro hjL HL.out))
      have HOW := Lib.hid (World.ownsRow.alloc hown.out (.cells #[.int .u64 s] 35))
      have HBS := Lib.hid (show w.heap.size ≤ (wr.alloc (.cells #[.int .u64 s] 35)).heap.size from by have := hBel.out.size; simp; omega)
      have HN := Lib.hid (And.intro hs64 hjL)
      clear hst hkk hlast ht hs hk'
      rcases (show j < n ∨ (¬ j < n ∧ j < m) ∨ (¬ j < n ∧ ¬ j < m ∧ 0 < k) from by omega) with h1 | ⟨h1, h2⟩ | ⟨h1, h2, h3⟩
      · have u1 : decide (j < n) = true := decide_eq_true h1
        clear hgo h1
        go_wp2_with fail
        with_reducible (refine (a1.out _ rA.out).mono ?_)
        rintro e w' ⟨rfl, rfl⟩
        go_wp2_with fail
        with_reducible (refine (a2.out _ rB.out).mono ?_)
        rintro e w' ⟨rfl, rfl⟩
        go_wp2_with (at_builtin; refine wpList_append_own_at (_ : World) rfl (.tmp 35) (.tmp 38) 22 rfl w.heap.size 35 i0 (.int .u64 0) 1 8 Try.underlying22 HI.out.1 HI.out.2.1 HI.out.2.2.1 HI.out.2.2.2 rfl (by decide) _ j (cellsF j O) rfl HOW.out ⟨_, 0, none⟩ 1 1 [.int .u64 s] rfl rfl (one_news _ s) (one_cell s) (by unfold maxLen; omega) (by omega) HBS.out ?_)
        intro v' w1 hown' hgrow _ _
        have HP := Lib.hid (own_push (Nat.le_refl _) hown.out hBel.out hown' hgrow)
        clear hown' hgrow hown hBel
        go_wp2_with fail
        go_roundw
        case rel => exact ⟨j + 1, k', upd O j s, _, rfl, by have := HN.out.2; omega, rfl, by go_num, hk1, Lib.hid HST.out.2, Lib.hid HP.out.1, Lib.hid (upd_h hO.out HN.out.1), Lib.hid HST.out.1, Lib.hid HP.out.2⟩
        case measure => have := HN.out.2; simp [intOf]; omega
      · have u1 : decide (j < n) = false := decide_eq_false h1
        have u2 : decide (j < m) = true := decide_eq_true h2
        clear hgo h1 h2
        go_wp2_with fail
        with_reducible (refine (a1.out _ rA.out).mono ?_)
        rintro e w' ⟨rfl, rfl⟩
        go_wp2_with fail
        with_reducible (refine (a2.out _ rB.out).mono ?_)
        rintro e w' ⟨rfl, rfl⟩
        go_wp2_with (at_builtin; refine wpList_append_own_at (_ : World) rfl (.tmp 35) (.tmp 38) 22 rfl w.heap.size 35 i0 (.int .u64 0) 1 8 Try.underlying22 HI.out.1 HI.out.2.1 HI.out.2.2.1 HI.out.2.2.2 rfl (by decide) _ j (cellsF j O) rfl HOW.out ⟨_, 0, none⟩ 1 1 [.int .u64 s] rfl rfl (one_news _ s) (one_cell s) (by unfold maxLen; omega) (by omega) HBS.out ?_)
        intro v' w1 hown' hgrow _ _
        have HP := Lib.hid (own_push (Nat.le_refl _) hown.out hBel.out hown' hgrow)
        clear hown' hgrow hown hBel
        go_wp2_with fail
        go_roundw
        case rel => exact ⟨j + 1, k', upd O j s, _, rfl, by have := HN.out.2; omega, rfl, by go_num, hk1, Lib.hid HST.out.2, Lib.hid HP.out.1, Lib.hid (upd_h hO.out HN.out.1), Lib.hid HST.out.1, Lib.hid HP.out.2⟩
        case measure => have := HN.out.2; simp [intOf]; omega
      · have u1 : decide (j < n) = false := decide_eq_false h1
        have u2 : decide (j < m) = false := decide_eq_false h2
        have u3 : decide ((0 : Int) < (k : Int)) = true := decide_eq_true (by omega)
        have u3' : decide (0 < k) = true := decide_eq_true h3
        clear hgo h1 h2 h3
        go_wp2_with fail
        with_reducible (refine (a1.out _ rA.out).mono ?_)
        rintro e w' ⟨rfl, rfl⟩
        go_wp2_with fail
        with_reducible (refine (a2.out _ rB.out).mono ?_)
        rintro e w' ⟨rfl, rfl⟩
        go_wp2_with (at_builtin; refine wpList_append_own_at (_ : World) rfl (.tmp 35) (.tmp 38) 22 rfl w.heap.size 35 i0 (.int .u64 0) 1 8 Try.underlying22 HI.out.1 HI.out.2.1 HI.out.2.2.1 HI.out.2.2.2 rfl (by decide) _ j (cellsF j O) rfl HOW.out ⟨_, 0, none⟩ 1 1 [.int .u64 s] rfl rfl (one_news _ s) (one_cell s) (by unfold maxLen; omega) (by omega) HBS.out ?_)
        intro v' w1 hown' hgrow _ _
        have HP := Lib.hid (own_push (Nat.le_refl _) hown.out hBel.out hown' hgrow)
        clear hown' hgrow hown hBel
        go_wp2_with fail
        go_roundw
        case rel => exact ⟨j + 1, k', upd O j s, _, rfl, by have := HN.out.2; omega, rfl, by go_num, hk1, Lib.hid HST.out.2, Lib.hid HP.out.1, Lib.hid (upd_h hO.out HN.out.1), Lib.hid HST.out.1, Lib.hid HP.out.2⟩
        case measure => have := HN.out.2; simp [intOf]; omega
    · obtain rfl : k = 0 := by omega
      have u1 : decide (j < n) = false := decide_eq_false (by omega)
      have u2 : decide (j < m) = false := decide_eq_false (by omega)
      have u3 : decide ((0 : Int) < ((0 : Nat) : Int)) = false := by decide
      have hjn : n ≤ j ∧ m ≤ j := by omega
      have hjs : j ≤ 17592186044416 := by have := HL.out; omega
      have hsum : T O j = T F n + T G m := by
        have e1 := hS.out
        rw [T_ext F hjn.1, T_ext G hjn.2] at e1
        omega
      obtain ⟨A', c', rfl, hr⟩ := own_rd hown.out hjs hO.out
      have HR := Lib.hid hr
      have HSM := Lib.hid hsum
      clear hr hgo hjn hsum
      go_wp2_with fail
      with_reducible (refine (rtrim_any _ j c' O _ HR.out).mono ?_)
      rintro e w' ⟨⟨x, hx, rfl⟩, rfl⟩
      have HX := Lib.hid hx
      clear hx
      go_wp2_with fail
      go_ret
      exact ⟨⟨_, rfl, trimH HR.out hO.out HX.out HSM.out⟩, hBel.out⟩
theorem plus_H (u v : Value) (M N a : Nat) (w : World) (hu : IsH w u M) (hv : IsH w v N) (hM : M < 2 ^ a) (hN : N < 2 ^ a) (ha : a ≤ 1048576) :
    Calls Try.prog 43 #[u, v] w fun e w' => (∃ r, e = .returned r ∧ IsH w' r (M + N)) ∧ Below w.heap.size w w' := by
  obtain ⟨A, n, c, F, rfl, hA, hF, hn, rfl⟩ := hu
  obtain ⟨B, m, d, G, rfl, hB, hG, hm, rfl⟩ := hv
  have h1 := len_of_half hn rfl hM ha
  have h2 := len_of_half hm rfl hN ha
  exact plus_any A B n c m d F G w hA hB hF hG (by omega) (by omega)
end Go.Proofs.Yteiajccjlbghoaa

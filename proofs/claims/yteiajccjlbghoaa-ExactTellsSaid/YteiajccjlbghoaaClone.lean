/- package slices' Clone at Nat; package nat's Norm, Of. Conditions: as each theorem names them. -/
import Derived.Test.YteiajccjlbghoaaMem
import Derived.Maps.AppendAt
import Derived.OwnWalk
import Derived.Lib.SliceRun
set_option linter.unusedVariables false
namespace Go.Proofs.Yteiajccjlbghoaa
open Go.RowKit

theorem infoU : (Try.prog.info? 35).map (fun i => (i.zero, i.size, i.bytes)) = some (some (.int .u64 0), 1, 8) := by kernel_rfl

/-- words as cells -/
def cellsF (n : Nat) (F : Nat → Nat) : List Value := (List.range n).map fun i => Value.int .u64 (F i)
theorem cellsF_len (n : Nat) (F : Nat → Nat) : (cellsF n F).length = n := by simp [cellsF]
theorem cellsF_get (n : Nat) (F : Nat → Nat) (i : Nat) (h : i < n) : (cellsF n F)[i]? = some (.int .u64 (F i)) := by simp [cellsF, h]
theorem cellsF_one (n : Nat) (F : Nat → Nat) : ∀ u ∈ cellsF n F, u.oneCell' = true := by
  intro u hu
  simp only [cellsF, List.mem_map] at hu
  obtain ⟨i, _, rfl⟩ := hu
  rfl

/-- what an owned row reads as -/
theorem rd_own {w : World} {base n : Nat} {v : Value} {F : Nat → Nat} (h : w.ownsRow base 35 1 v n (cellsF n F)) (hn : n ≤ 17592186044416) (hF : ∀ i, i < n → F i < Wd) : ∃ A c, v = .slice A n c ∧ Rd w A n c F ∧ (0 < n → ∃ g, A = some ⟨g, 0, none⟩ ∧ base ≤ g ∧ c ≤ maxLen) := by
  rcases h.2 with ⟨rfl, rfl⟩ | ⟨g, cap, cur, rfl, hg, hh, hnc, hm, hsz, hcs⟩
  · exact ⟨none, 0, rfl, Rd.nil _ _, fun h => absurd h (Nat.lt_irrefl _)⟩
  · refine ⟨_, _, rfl, ⟨hnc, hn, fun h => by simp at h, hF, fun hn0 => ⟨_, rfl, ?_, fun i hi => ?_⟩⟩, fun _ => ⟨g, rfl, hg, hm⟩⟩
    · rcases Nat.lt_or_ge g w.heap.size with hlt | hge
      · exact hlt
      · rw [Array.getElem?_eq_none hge] at hh; cases hh
    · have e : (⟨g, 0, none⟩ : Addr).add i = ⟨g, i, none⟩ := by unfold Addr.add; split <;> simp_all
      rw [e]
      have hx := cellsF_get n F i hi
      rw [← hcs, List.getElem?_take, if_pos (by omega), Array.getElem?_toList] at hx
      simp [World.cell?, hh, hx]

theorem clone_any (A : Option Addr) (n c : Nat) (F : Nat → Nat) (w : World) (h : Rd w A n c F) :
    Calls Try.prog 54 #[.slice A n c] w fun e w' => (∃ A' c', Rd w' A' n c' F ∧ e = .returned (.slice A' n c') ∧ (0 < n → ∃ g, A' = some ⟨g, 0, none⟩ ∧ w.heap.size ≤ g)) ∧ Below w.heap.size w w' := by
  rcases A with _ | ad
  · obtain rfl : c = 0 := h.2.2.1 rfl
    obtain rfl : n = 0 := by have := h.len; omega
    clear h
    have he := Lib.run_eql_slice_nil (P := Try.prog) w 23 35 none 0 0 0 0 Try.underlying23
    go_enter Try.func54, Try.ntmps54
    go_wp2_with fail
    go_ret
    exact ⟨⟨none, 0, Rd.nil _ _, rfl, fun h => absurd h (Nat.lt_irrefl _)⟩, Below.refl _ _⟩
  · have he := Lib.run_eql_slice_nil (P := Try.prog) w 23 35 (some ad) n c 0 0 Try.underlying23
    have hn := h.small
    have ha := (h.alloc (.cells #[] 35))
    have hown : (w.alloc (.cells #[] 35)).ownsRow w.heap.size 35 1 (.slice (some ⟨w.heap.size, 0, none⟩) 0 0) 0 [] :=
      ⟨rfl, Or.inr ⟨w.heap.size, 0, #[], rfl, Nat.le_refl _, Deep.blk_alloc_new _ _, Nat.le_refl _, by decide, rfl, rfl⟩⟩
    have hnews : ∀ j u, (cellsF n F)[j]? = some u → (w.alloc (.cells #[] 35)).cell? (ad.add j) = some u := by
      intro j u hj
      have hlt : j < n := by
        have := (List.getElem?_eq_some_iff.1 hj).1
        rwa [cellsF_len] at this
      rw [cellsF_get n F j hlt] at hj
      obtain ⟨ad', e, _, hx⟩ := ha.at_ j hlt
      cases e
      rw [hx, ← hj]
    obtain ⟨i0, hi, hz0, hz1, hz2⟩ := info_parts infoU
    have h' := Lib.hid h
    have HA := Lib.hid ha
    have HO := Lib.hid hown
    have HNW := Lib.hid hnews
    have HI := Lib.hid (And.intro hi (And.intro hz0 (And.intro hz1 hz2)))
    clear h ha hown hnews hi hz0 hz1 hz2
    go_enter Try.func54, Try.ntmps54
    go_wp2_with (at_builtin; refine wpList_append_own_at (w.alloc (.cells #[] 35)) rfl (.tmp 5) (.tmp 6) 23 rfl w.heap.size 35 i0 (.int .u64 0) 1 8 Try.underlying23 HI.out.1 HI.out.2.1 HI.out.2.2.1 HI.out.2.2.2 rfl (by decide) _ 0 [] rfl HO.out ad n c (cellsF n F) rfl (by rw [cellsF_len, Nat.mul_one]) HNW.out (cellsF_one n F) (by unfold maxLen; omega) (by omega) (by simp) ?_)
    intro v' w' hown' hgrow _ _
    obtain ⟨A', c', rfl, hrd, hfr⟩ := rd_own hown' hn h'.out.word
    have HR := Lib.hid hrd
    have HG := Lib.hid hgrow
    have HF := Lib.hid hfr
    clear hown' hgrow hrd hfr
    go_wp2_with fail
    go_ret
    exact ⟨⟨A', c', HR.out, rfl, fun h0 => by obtain ⟨g, a, b, _⟩ := HF.out h0; exact ⟨g, a, b⟩⟩, ((Below.refl _ _).alloc (Nat.le_refl _) _).grown HG.out (by simp) (by simp [Value.ownBlock])⟩

theorem norm_any (A : Option Addr) (n c : Nat) (F : Nat → Nat) (w : World) (h : Rd w A n c F) :
    Calls Try.prog 30 #[.slice A n c] w fun e w' => (∃ A' c' m, Trim n F m ∧ Rd w' A' m c' F ∧ e = .returned (.slice A' m c') ∧ (0 < m → ∃ g, A' = some ⟨g, 0, none⟩ ∧ w.heap.size ≤ g)) ∧ Below w.heap.size w w' := by
  have h' := Lib.hid h
  clear h
  go_enter Try.func30, Try.ntmps30
  go_wp2_with fail
  with_reducible (refine (trim_any A n c F _ h'.out).mono ?_)
  rintro e w' ⟨⟨m, hm, rfl⟩, rfl⟩
  have HM := Lib.hid hm
  clear hm
  go_wp2_with fail
  with_reducible (refine (clone_any A m m F _ (h'.out.cut HM.out.le)).mono ?_)
  rintro e w' ⟨⟨A', c', hr, rfl, hf⟩, hb⟩
  have HR := Lib.hid hr
  have HF := Lib.hid hf
  have HB := Lib.hid hb
  clear hr hf hb
  go_wp2_with fail
  go_ret
  exact ⟨⟨A', c', m, HM.out, HR.out, rfl, HF.out⟩, HB.out⟩

theorem one_row (w : World) (v : Value) (t : TypeId) : (w.alloc (.cells #[v] t)).rowIs w.heap.size t 1 (fun _ => v) :=
  World.rowIs_alloc w #[v] t (fun _ => v) (by
    intro i hi
    obtain rfl : i = 0 := by simpa using hi
    rfl)
theorem of_any (x : Nat) (hx : x < 18446744073709551616) (w : World) :
    Calls Try.prog 38 #[.int .u64 x] w fun e w' => (∃ A' c' m, Trim 1 (fun _ => x) m ∧ Rd w' A' m c' (fun _ => x) ∧ e = .returned (.slice A' m c')) ∧ Below w.heap.size w w' := by
  have hr : Rd (w.alloc (.cells #[.int .u64 x] 35)) (some ⟨w.heap.size, 0, none⟩) 1 1 (fun _ => x) :=
    Rd.row (one_row w _ 35) (by decide) (fun _ _ => hx)
  have H := Lib.hid hr
  clear hr
  go_enter Try.func38, Try.ntmps38
  go_wp2_with fail
  with_reducible (refine (norm_any _ 1 1 (fun _ => x) _ H.out).mono ?_)
  rintro e w' ⟨⟨A', c', m, hm, hr, rfl, hf⟩, hb⟩
  have HM := Lib.hid hm
  have HR := Lib.hid hr
  have HB := Lib.hid hb
  clear hr hm hf hb
  go_wp2_with fail
  go_ret
  exact ⟨⟨A', c', m, HM.out, HR.out, rfl⟩, ((Below.refl _ _).alloc (Nat.le_refl _) _).trans (HB.out.mono (by simp))⟩
end Go.Proofs.Yteiajccjlbghoaa

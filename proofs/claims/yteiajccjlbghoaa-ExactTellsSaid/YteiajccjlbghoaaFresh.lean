/- A slice that is a natural number and lies in new memory; package nat's Norm, Of in these words. Conditions: as each theorem names them. -/
import Derived.Test.YteiajccjlbghoaaIsn
set_option linter.unusedVariables false
namespace Go.Proofs.Yteiajccjlbghoaa
open Go.RowKit

/-- .. of whatever length an int has -/
def RdW (w : World) (A : Option Addr) (n c : Nat) (F : Nat → Nat) : Prop :=
  n ≤ c ∧ n ≤ 9223372036854775807 ∧ (A = none → c = 0) ∧ (∀ i, i < n → F i < Wd) ∧ (0 < n → ∃ ad, A = some ad ∧ ad.block < w.heap.size ∧ ∀ i, i < n → w.cell? (ad.add i) = some (.int .u64 (F i)))
section
variable {w w' : World} {A : Option Addr} {n c : Nat} {F : Nat → Nat}
theorem Rd.wide (h : Rd w A n c F) : RdW w A n c F := ⟨h.1, Nat.le_trans h.2.1 (by decide), h.2.2.1, h.2.2.2.1, h.2.2.2.2⟩
theorem RdW.len (h : RdW w A n c F) : n ≤ c := h.1
theorem RdW.small (h : RdW w A n c F) : n ≤ 9223372036854775807 := h.2.1
theorem RdW.word (h : RdW w A n c F) : ∀ i, i < n → F i < Wd := h.2.2.2.1
theorem RdW.word' (h : RdW w A n c F) : ∀ i, i < n → F i < 18446744073709551616 := h.2.2.2.1
theorem RdW.at_ (h : RdW w A n c F) (k : Nat) (hk : k < n) : ∃ ad, A = some ad ∧ ad.block < w.heap.size ∧ w.cell? (ad.add k) = some (.int .u64 (F k)) := by
  obtain ⟨ad, e, b, hc⟩ := h.2.2.2.2 (by omega)
  exact ⟨ad, e, b, hc k hk⟩
theorem RdW.below (h : RdW w A n c F) (hb : Below w.heap.size w w') : RdW w' A n c F := by
  obtain ⟨a, b, d, e, f⟩ := h
  refine ⟨a, b, d, e, fun hn => ?_⟩
  obtain ⟨ad, rfl, h1, hc⟩ := f hn
  exact ⟨ad, rfl, Nat.lt_of_lt_of_le h1 hb.size, fun i hi => (hb.cell (by rw [block_add]; exact h1)).trans (hc i hi)⟩
theorem RdW.alloc (h : RdW w A n c F) (o : Obj) : RdW (w.alloc o) A n c F := h.below ((Below.refl _ _).alloc (Nat.le_refl _) _)
/-- the first words, with all the room -/
theorem RdW.first (h : RdW w A n c F) {m : Nat} (hm : m ≤ n) (hs : m ≤ 17592186044416) : Rd w A m c F := by
  obtain ⟨a, b, d, e, f⟩ := h
  refine ⟨by omega, hs, d, fun i hi => e i (by omega), fun hn => ?_⟩
  obtain ⟨ad, hA, hb, hc⟩ := f (by omega)
  exact ⟨ad, hA, hb, fun i hi => hc i (by omega)⟩
end
/-- .. its words lie at block B or later -/
def IsF (B : Nat) (w : World) (v : Value) (N : Nat) : Prop := ∃ A n c F, v = .slice A n c ∧ Rd w A n c F ∧ Nm n F ∧ S F n = N ∧ (0 < n → ∃ g, A = some ⟨g, 0, none⟩ ∧ B ≤ g)
theorem IsF.isn {B : Nat} {w : World} {v : Value} {N : Nat} (h : IsF B w v N) : IsN w v N := by
  obtain ⟨A, n, c, F, e, hr, hn, hs, _⟩ := h
  exact ⟨A, n, c, F, e, hr, hn, hs⟩
theorem IsF.below {B : Nat} {w w' : World} {v : Value} {N : Nat} (h : IsF B w v N) (hb : Below w.heap.size w w') : IsF B w' v N := by
  obtain ⟨A, n, c, F, e, hr, hn, hs, hf⟩ := h
  exact ⟨A, n, c, F, e, hr.below hb, hn, hs, hf⟩
theorem IsF.mono {B C : Nat} {w : World} {v : Value} {N : Nat} (h : IsF B w v N) (hc : C ≤ B) : IsF C w v N := by
  obtain ⟨A, n, c, F, e, hr, hn, hs, hf⟩ := h
  exact ⟨A, n, c, F, e, hr, hn, hs, fun h => by obtain ⟨g, a, b⟩ := hf h; exact ⟨g, a, by omega⟩⟩
theorem IsF.set {B : Nat} {w : World} {v : Value} {N : Nat} (h : IsF B w v N) (p : Addr) (x : Value) (hp : p.block < B) : IsF B (w.setCell p x) v N := by
  obtain ⟨A, n, c, F, e, hr, hn, hs, hf⟩ := h
  refine ⟨A, n, c, F, e, ?_, hn, hs, hf⟩
  refine ⟨hr.1, hr.2.1, hr.2.2.1, hr.2.2.2.1, fun h0 => ?_⟩
  obtain ⟨ad, ha, hb, hc⟩ := hr.2.2.2.2 h0
  obtain ⟨g, hg, hB⟩ := hf h0
  rw [ha] at hg
  cases hg
  refine ⟨_, ha, by simpa using hb, fun i hi => ?_⟩
  rw [← hc i hi]
  have hne : g ≠ p.block := by omega
  have hblk := Deep.blk_setCell_other w p x g hne
  unfold World.cell?
  rw [block_add]
  simp only [hblk]
/-- a number that is handed back, as the slice that it is -/
theorem shaped {e : Ending} {w : World} {M : Nat} (h : ∃ r, e = .returned r ∧ IsN w r M) : ∃ A n c, e = .returned (.slice A n c) ∧ IsN w (.slice A n c) M := by
  obtain ⟨r, rfl, A, n, c, F, rfl, h⟩ := h
  exact ⟨A, n, c, rfl, A, n, c, F, rfl, h⟩
theorem shapedF {B : Nat} {e : Ending} {w : World} {M : Nat} (h : ∃ r, e = .returned r ∧ IsF B w r M) : ∃ A n c, e = .returned (.slice A n c) ∧ IsF B w (.slice A n c) M := by
  obtain ⟨r, rfl, A, n, c, F, rfl, h⟩ := h
  exact ⟨A, n, c, rfl, A, n, c, F, rfl, h⟩
theorem norm_F (A : Option Addr) (n c : Nat) (F : Nat → Nat) (w : World) (h : Rd w A n c F) :
    Calls Try.prog 30 #[.slice A n c] w fun e w' => (∃ A n' c', e = .returned (.slice A n' c') ∧ IsF w.heap.size w' (.slice A n' c') (S F n)) ∧ Below w.heap.size w w' := by
  refine (norm_any A n c F w h).mono ?_
  rintro e w' ⟨⟨A', c', m, hm, hr, rfl, hf⟩, hb⟩
  exact ⟨⟨_, _, _, rfl, A', m, c', _, rfl, hr, hm.nm, hm.sum, hf⟩, hb⟩
theorem of_F (x : Nat) (hx : x < 18446744073709551616) (w : World) :
    Calls Try.prog 38 #[.int .u64 x] w fun e w' => (∃ A n c, e = .returned (.slice A n c) ∧ IsF w.heap.size w' (.slice A n c) x) ∧ Below w.heap.size w w' := by
  have hr : Rd (w.alloc (.cells #[.int .u64 x] 35)) (some ⟨w.heap.size, 0, none⟩) 1 1 (fun _ => x) :=
    Rd.row (one_row w _ 35) (by decide) (fun _ _ => hx)
  have H := Lib.hid hr
  clear hr
  go_enter Try.func38, Try.ntmps38
  go_wp2_with fail
  with_reducible (refine (norm_F _ 1 1 (fun _ => x) _ H.out).mono ?_)
  rintro e w' ⟨⟨A', m, c', rfl, hf⟩, hb⟩
  have HF := Lib.hid hf
  have HB := Lib.hid hb
  clear hf hb
  go_wp2_with fail
  go_ret
  have hs : S (fun _ => x) 1 = x := by rw [S_succ, S_zero]; simp
  exact ⟨⟨_, _, _, rfl, (hs ▸ HF.out).mono (by simp)⟩, ((Below.refl _ _).alloc (Nat.le_refl _) _).trans (HB.out.mono (by simp))⟩
theorem of_one_F (w : World) :
    Calls Try.prog 38 #[.int .u64 1] w fun e w' => (∃ A n c, e = .returned (.slice A n c) ∧ IsF w.heap.size w' (.slice A n c) 1) ∧ Below w.heap.size w w' := of_F 1 (by decide) w
end Go.Proofs.Yteiajccjlbghoaa

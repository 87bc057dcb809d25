/- A slice that is a natural number and lies in new memory; package nat's Norm, Of in these words. Conditions: as each theorem names them. package exact's in, Right, Of, Dec; package nat's Word, Bit. Conditions: as each theorem names them. package exact's Of, Dec; package nat's Word, Bit. Conditions: as each theorem names them. package exact's Dec; package nat's Word, Bit. Conditions: as each theorem names them. package exact's Floor walked. Conditions: as each theorem names them. -/
import Derived.Test.YtlmeobokpibifaaGreatDoorG03
import Derived.Test.YtlmeobokpibifaaGreatDoorG07
section
set_option linter.unusedSimpArgs false
set_option linter.unusedVariables false
set_option linter.unusedVariables false
namespace Go.Proofs.YtlmeobokpibifaaGreatDoor
open Go.RowKit

/-- .. of whatever length an int has -/
def RdW (w : World) (A : Option Addr) (n c : Nat) (F : Nat → Nat) : Prop :=
  n ≤ c ∧ n ≤ 9223372036854775807 ∧ (A = none → c = 0) ∧ (∀ i, i < n → F i < Wd) ∧ (0 < n → ∃ ad, A = some ad ∧ ad.block < w.heap.size ∧ ∀ i, i < n → w.cell? (ad.add i) = some (.int .u64 (F i)))
section
variable {w w' : World} {A : Option Addr} {n c : Nat} {F : Nat → Nat}
theorem Rd.wide (h : Rd w A n c F) : RdW w A n c F := ⟨h.1, Nat.le_trans h.2.1 (by decide), h.2.2.1, h.2.2.2.1, h.2.2.2.2⟩
theorem RdW.len (h : RdW w A n c F) : n ≤ c := h.1
theorem RdW.small (h : RdW w A n c F) : n ≤ 9223372036854775807 := h.2.1
theorem RdW.word (h : RdW w A n c F) : ∀ i, i < n → F i < Wd := h.2.2.2.1
theorem RdW.word' (h : RdW w A n c F) : ∀ i, i < n → F i < 18446744073709551616 := h.2.2.2.1
theorem RdW.at_ (h : RdW w A n c F) (k : Nat) (hk : k < n) : ∃ ad, A = some ad ∧ ad.block < w.heap.size ∧ w.cell? (ad.add k) = some (.int .u64 (F k)) := by
  obtain ⟨ad, e, b, hc⟩ := h.2.2.2.2 (by omega)
  exact ⟨ad, e, b, hc k hk⟩
theorem RdW.below (h : RdW w A n c F) (hb : Below w.heap.size w w') : RdW w' A n c F := by
  obtain ⟨a, b, d, e, f⟩ := h
  refine ⟨a, b, d, e, fun hn => ?_⟩
  obtain ⟨ad, rfl, h1, hc⟩ := f hn
  exact ⟨ad, rfl, Nat.lt_of_lt_of_le h1 hb.size, fun i hi => (hb.cell (by rw [block_add]; exact h1)).trans (hc i hi)⟩
theorem RdW.alloc (h : RdW w A n c F) (o : Obj) : RdW (w.alloc o) A n c F := h.below ((Below.refl _ _).alloc (Nat.le_refl _) _)
/-- the first words, with all the room -/
theorem RdW.first (h : RdW w A n c F) {m : Nat} (hm : m ≤ n) (hs : m ≤ 17592186044416) : Rd w A m c F := by
  obtain ⟨a, b, d, e, f⟩ := h
  refine ⟨by omega, hs, d, fun i hi => e i (by omega), fun hn => ?_⟩
  obtain ⟨ad, hA, hb, hc⟩ := f (by omega)
  exact ⟨ad, hA, hb, fun i hi => hc i (by omega)⟩
end
/-- .. its words lie at block B or later -/
def IsF (B : Nat) (w : World) (v : Value) (N : Nat) : Prop := ∃ A n c F, v = .slice A n c ∧ Rd w A n c F ∧ Nm n F ∧ S F n = N ∧ (0 < n → ∃ g, A = some ⟨g, 0, none⟩ ∧ B ≤ g)
theorem IsF.isn {B : Nat} {w : World} {v : Value} {N : Nat} (h : IsF B w v N) : IsN w v N := by
  obtain ⟨A, n, c, F, e, hr, hn, hs, _⟩ := h
  exact ⟨A, n, c, F, e, hr, hn, hs⟩
theorem IsF.below {B : Nat} {w w' : World} {v : Value} {N : Nat} (h : IsF B w v N) (hb : Below w.heap.size w w') : IsF B w' v N := by
  obtain ⟨A, n, c, F, e, hr, hn, hs, hf⟩ := h
  exact ⟨A, n, c, F, e, hr.below hb, hn, hs, hf⟩
theorem IsF.mono {B C : Nat} {w : World} {v : Value} {N : Nat} (h : IsF B w v N) (hc : C ≤ B) : IsF C w v N := by
  obtain ⟨A, n, c, F, e, hr, hn, hs, hf⟩ := h
  exact ⟨A, n, c, F, e, hr, hn, hs, fun h => by obtain ⟨g, a, b⟩ := hf h; exact ⟨g, a, by omega⟩⟩
theorem IsF.set {B : Nat} {w : World} {v : Value} {N : Nat} (h : IsF B w v N) (p : Addr) (x : Value) (hp : p.block < B) : IsF B (w.setCell p x) v N := by
  obtain ⟨A, n, c, F, e, hr, hn, hs, hf⟩ := h
  refine ⟨A, n, c, F, e, ?_, hn, hs, hf⟩
  refine ⟨hr.1, hr.2.1, hr.2.2.1, hr.2.2.2.1, fun h0 => ?_⟩
  obtain ⟨ad, ha, hb, hc⟩ := hr.2.2.2.2 h0
  obtain ⟨g, hg, hB⟩ := hf h0
  rw [ha] at hg
  cases hg
  refine ⟨_, ha, by simpa using hb, fun i hi => ?_⟩
  rw [← hc i hi]
  have hne : g ≠ p.block := by omega
  have hblk := Deep.blk_setCell_other w p x g hne
  unfold World.cell?
  rw [block_add]
  simp only [hblk]
/-- a number that is handed back, as the slice that it is -/
theorem shaped {e : Ending} {w : World} {M : Nat} (h : ∃ r, e = .returned r ∧ IsN w r M) : ∃ A n c, e = .returned (.slice A n c) ∧ IsN w (.slice A n c) M := by
  obtain ⟨r, rfl, A, n, c, F, rfl, h⟩ := h
  exact ⟨A, n, c, rfl, A, n, c, F, rfl, h⟩
theorem shapedF {B : Nat} {e : Ending} {w : World} {M : Nat} (h : ∃ r, e = .returned r ∧ IsF B w r M) : ∃ A n c, e = .returned (.slice A n c) ∧ IsF B w (.slice A n c) M := by
  obtain ⟨r, rfl, A, n, c, F, rfl, h⟩ := h
  exact ⟨A, n, c, rfl, A, n, c, F, rfl, h⟩
theorem norm_F (A : Option Addr) (n c : Nat) (F : Nat → Nat) (w : World) (h : Rd w A n c F) :
    Calls Tryz.prog 73 #[.slice A n c] w fun e w' => (∃ A n' c', e = .returned (.slice A n' c') ∧ IsF w.heap.size w' (.slice A n' c') (S F n)) ∧ Below w.heap.size w w' := by
  refine (norm_any A n c F w h).mono ?_
  rintro e w' ⟨⟨A', c', m, hm, hr, rfl, hf⟩, hb⟩
  exact ⟨⟨_, _, _, rfl, A', m, c', _, rfl, hr, hm.nm, hm.sum, hf⟩, hb⟩
theorem of_F (x : Nat) (hx : x < 18446744073709551616) (w : World) :
    Calls Tryz.prog 44 #[.int .u64 x] w fun e w' => (∃ A n c, e = .returned (.slice A n c) ∧ IsF w.heap.size w' (.slice A n c) x) ∧ Below w.heap.size w w' := by
  have hr : Rd (w.alloc (.cells #[.int .u64 x] 22)) (some ⟨w.heap.size, 0, none⟩) 1 1 (fun _ => x) :=
    Rd.row (one_row w _ 22) (by decide) (fun _ _ => hx)
  have H := Lib.hid hr
  clear hr
  go_enter Tryz.func44, Tryz.ntmps44
  go_wp2_with fail
  with_reducible (refine (norm_F _ 1 1 (fun _ => x) _ H.out).mono ?_)
  rintro e w' ⟨⟨A', m, c', rfl, hf⟩, hb⟩
  have HF := Lib.hid hf
  have HB := Lib.hid hb
  clear hf hb
  go_wp2_with fail
  go_ret
  have hs : S (fun _ => x) 1 = x := by rw [S_succ, S_zero]; simp
  exact ⟨⟨_, _, _, rfl, (hs ▸ HF.out).mono (by simp)⟩, ((Below.refl _ _).alloc (Nat.le_refl _) _).trans (HB.out.mono (by simp))⟩
theorem of_one_F (w : World) :
    Calls Tryz.prog 44 #[.int .u64 1] w fun e w' => (∃ A n c, e = .returned (.slice A n c) ∧ IsF w.heap.size w' (.slice A n c) 1) ∧ Below w.heap.size w w' := of_F 1 (by decide) w
end Go.Proofs.YtlmeobokpibifaaGreatDoor
end

section
set_option linter.unusedSimpArgs false
set_option linter.unusedVariables false
set_option linter.unusedVariables false
namespace Go.Proofs.YtlmeobokpibifaaGreatDoor
open Go.RowKit

def inB (n : Int) : Bool := decide (-5000 ≤ n) && decide (n ≤ 5000)
theorem inB_true {n : Int} (h : inB n = true) : -5000 ≤ n ∧ n ≤ 5000 := by unfold inB at h; simpa using h
theorem in_any (n : Int) (b : Bool) (w : World) (hb : inB n = b) :
    Calls Tryz.prog 48 #[.int .i64 n] w fun e w' => e = .returned (.bool b) ∧ w = w' := by
  unfold inB at hb
  by_cases h1 : -5000 ≤ n
  · have t1 : decide (-5000 ≤ n) = true := decide_eq_true h1
    by_cases h2 : n ≤ 5000
    · have t2 : decide (n ≤ 5000) = true := decide_eq_true h2
      rw [t1, t2] at hb
      subst hb
      clear h1 h2
      go_enter Tryz.func48, Tryz.ntmps48
      go_wp2_with fail
      go_ret
      exact ⟨rfl, rfl⟩
    · have t2 : decide (n ≤ 5000) = false := decide_eq_false h2
      rw [t1, t2] at hb
      subst hb
      clear h1 h2
      go_enter Tryz.func48, Tryz.ntmps48
      go_wp2_with fail
      go_ret
      exact ⟨rfl, rfl⟩
  · have t1 : decide (-5000 ≤ n) = false := decide_eq_false h1
    rw [t1] at hb
    simp at hb
    subst hb
    clear h1
    go_enter Tryz.func48, Tryz.ntmps48
    go_wp2_with fail
    go_ret
    exact ⟨rfl, rfl⟩

def rightB (n : Nat) (F : Nat → Nat) (s f : Int) : Bool := decide (n ≤ 128) && (decide (n = 0) || decide (F (n - 1) ≠ 0)) && (inB s && inB f)
theorem right_any (neg : Bool) (A : Option Addr) (n c : Nat) (F : Nat → Nat) (s f : Int) (b : Bool) (w : World) (h : RdW w A n c F) (hb : rightB n F s f = b) :
    Calls Tryz.prog 27 #[xv neg (.slice A n c) s f] w fun e w' => e = .returned (.bool b) ∧ Below w.heap.size w w' := by
  have HA := Lib.hid (bgrow (Below.refl w.heap.size w) (xbox neg (.slice A n c) s f))
  have HB := Lib.hid hb
  have IS := Lib.hid (fun w => in_any s _ w rfl)
  have IF := Lib.hid (fun w => in_any f _ w rfl)
  have hat := Lib.hid (h.alloc (xbox neg (.slice A n c) s f)).at_
  have hwd := h.word'
  have hcap := h.len
  have hsm := h.small
  unfold rightB at hb
  clear h
  unfold xv xbox at *
  by_cases hn : n ≤ 128
  · have t1 : decide ((n : Int) ≤ 128) = true := decide_eq_true (by omega)
    have t1' : decide (n ≤ 128) = true := decide_eq_true (by omega)
    by_cases h0 : n = 0
    · subst h0
      clear hat hwd hcap hn hsm
      cases es : inB s with
      | false =>
        rw [es] at IS
        have : b = false := by rw [← hb, es]; rfl
        subst this
        clear hb
        go_enter Tryz.func27, Tryz.ntmps27
        go_wp2_with fail
        with_reducible (refine (IS.out _).mono ?_)
        rintro e w1 ⟨rfl, rfl⟩
        go_wp2_with fail
        go_ret
        exact ⟨rfl, HA.out⟩
      | true =>
        rw [es] at IS
        have : inB f = b := by rw [← hb, es]; rfl
        rw [this] at IF
        clear hb this
        go_enter Tryz.func27, Tryz.ntmps27
        go_wp2_with fail
        with_reducible (refine (IS.out _).mono ?_)
        rintro e w1 ⟨rfl, rfl⟩
        go_wp2_with fail
        with_reducible (refine (IF.out _).mono ?_)
        rintro e w1 ⟨rfl, rfl⟩
        go_wp2_with fail
        go_ret
        exact ⟨rfl, HA.out⟩
    · obtain ⟨m, rfl⟩ : ∃ m, n = m + 1 := ⟨n - 1, by omega⟩
      obtain ⟨ad, rfl, hbl, hx⟩ := hat.out m (by omega)
      have hw := hwd m (by omega)
      rw [Nat.add_sub_cancel] at hb
      have t2 : ((m : Int) + 1 == 0) = false := by simp; omega
      have t1c : decide ((m : Int) + 1 ≤ 128) = true := decide_eq_true (by omega)
      clear hat hwd t1 t1'
      by_cases hF : F m = 0
      · have t3 : ((F m : Int) != 0) = false := by simp [hF]
        have : b = false := by rw [← hb]; simp [hF]
        subst this
        clear hb hF h0 hn
        go_enter Tryz.func27, Tryz.ntmps27
        go_wp2_with fail
        go_ret
        exact ⟨rfl, HA.out⟩
      · have t3 : ((F m : Int) != 0) = true := by simp; omega
        have hb' : (inB s && inB f) = b := by rw [← hb]; simp [hF, hn]
        clear hb hF h0 hn
        cases es : inB s with
        | false =>
          rw [es] at IS
          have : b = false := by rw [← hb', es]; rfl
          subst this
          clear hb'
          go_enter Tryz.func27, Tryz.ntmps27
          go_wp2_with fail
          with_reducible (refine (IS.out _).mono ?_)
          rintro e w1 ⟨rfl, rfl⟩
          go_wp2_with fail
          go_ret
          exact ⟨rfl, HA.out⟩
        | true =>
          rw [es] at IS
          have : inB f = b := by rw [← hb', es]; rfl
          rw [this] at IF
          clear hb' this
          go_enter Tryz.func27, Tryz.ntmps27
          go_wp2_with fail
          with_reducible (refine (IS.out _).mono ?_)
          rintro e w1 ⟨rfl, rfl⟩
          go_wp2_with fail
          with_reducible (refine (IF.out _).mono ?_)
          rintro e w1 ⟨rfl, rfl⟩
          go_wp2_with fail
          go_ret
          exact ⟨rfl, HA.out⟩
  · have t1 : decide ((n : Int) ≤ 128) = false := decide_eq_false (by omega)
    have t1' : decide (n ≤ 128) = false := decide_eq_false hn
    have : b = false := by rw [← hb, t1']; rfl
    subst this
    clear hat hwd hb hn
    go_enter Tryz.func27, Tryz.ntmps27
    go_wp2_with fail
    go_ret
    exact ⟨rfl, HA.out⟩

end Go.Proofs.YtlmeobokpibifaaGreatDoor
end

section
set_option linter.unusedSimpArgs false
set_option linter.unusedVariables false
set_option linter.unusedVariables false
namespace Go.Proofs.YtlmeobokpibifaaGreatDoor
open Go.RowKit

/-- a value's class, its sign, its magnitude, its power -/
def vv (cl : Int) (neg : Bool) (m : Nat) (e : Int) : Value := .agg #[.int .i64 cl, .bool neg, .int .u64 m, .int .i64 e]
def vbox (cl : Int) (neg : Bool) (m : Nat) (e : Int) : Obj := .cells #[.int .i64 cl, .bool neg, .int .u64 m, .int .i64 e] 31
/-- what Of answers -/
def OfIs (cl : Int) (neg : Bool) (m : Nat) (e : Int) (w : World) (r : Value) : Prop :=
  (cl = 1 ∧ r = .tuple #[xv neg (.slice none 0 0) 0 0, .bool true]) ∨
  (cl = 2 ∧ inB e = true ∧ ∃ v, IsN w v m ∧ r = .tuple #[xv neg v e 0, .bool true]) ∨
  (¬ cl = 1 ∧ ¬ (cl = 2 ∧ inB e = true) ∧ r = .tuple #[xv false (.slice none 0 0) 0 0, .bool false])
theorem bset {w a : World} (h : Below w.heap.size w a) {p : Addr} {v : Value} (hp : w.heap.size ≤ p.block) : Below w.heap.size w (a.setCell p v) := h.setCell hp v
/-- a block that may be written -/
def Wr (w : World) (g : Nat) (k : Nat) (t : TypeId) : Prop := ∃ cs : Array Value, cs.size = k ∧ w.heap[g]? = some (.cells cs t (0, 0))
theorem Wr.below {w w' : World} {g k : Nat} {t : TypeId} (h : Wr w g k t) (hb : Below w.heap.size w w') : Wr w' g k t := by
  obtain ⟨cs, hk, h⟩ := h
  refine ⟨cs, hk, ?_⟩
  have hg : g < w.heap.size := by
    rcases Nat.lt_or_ge g w.heap.size with h1 | h1
    · exact h1
    · rw [Array.getElem?_eq_none h1] at h; cases h
  rw [hb.block g hg, h]
theorem Wr.new (w : World) (cs : Array Value) (t : TypeId) (k : Nat) (hk : cs.size = k) : Wr (w.alloc (.cells cs t)) w.heap.size k t := ⟨cs, hk, Deep.blk_alloc_new _ _⟩
theorem Wr.four {w : World} {g : Nat} {t : TypeId} (h : Wr w g 4 t) : ∃ a b c d, (w.cell? { block := g, off := 0 } = some a ∧ w.cell? { block := g, off := 1 } = some b ∧ w.cell? { block := g, off := 2 } = some c ∧ w.cell? { block := g, off := 3 } = some d) ∧ (w.frozen? { block := g, off := 0 } = false ∧ w.frozen? { block := g, off := 1 } = false ∧ w.frozen? { block := g, off := 2 } = false ∧ w.frozen? { block := g, off := 3 } = false) := by
  obtain ⟨cs, hk, h⟩ := h
  rcases cs with ⟨l⟩
  match l, hk with
  | [a, b, c, d], _ =>
    refine ⟨a, b, c, d, ⟨?_, ?_, ?_, ?_⟩, ?_, ?_, ?_, ?_⟩ <;> simp [World.cell?, World.frozen?, h]
theorem of_X (cl : Int) (neg : Bool) (m : Nat) (e : Int) (w : World) (hm : m < 18446744073709551616) :
    Calls Tryz.prog 55 #[vv cl neg m e] w fun en w' => (∃ r, en = .returned r ∧ OfIs cl neg m e w' r) ∧ Below w.heap.size w w' := by
  have HA := Lib.hid (bgrow (Below.refl w.heap.size w) (vbox cl neg m e))
  have IE := Lib.hid (fun w => in_any e _ w rfl)
  have ON := Lib.hid (fun w => of_F m hm w)
  unfold vv vbox at *
  by_cases h1 : cl = 1
  · subst h1
    go_enter Tryz.func55, Tryz.ntmps55
    go_wp2_with fail
    refine bodyPost_ret (v := .tuple #[.agg #[.bool neg, .slice none 0 0, .int .i64 0, .int .i64 0], .bool true]) (by simp [results, Tryz.results55, go_sem]) rfl ⟨⟨_, rfl, Or.inl ⟨rfl, rfl⟩⟩, ?_⟩
    repeat (first | refine Below.setCell ?_ (by simp) _ | refine Below.alloc ?_ (by simp; try omega) _ | refine bdrewN ?_ _)
    exact Below.refl _ _
  · have t1 : (cl == 1) = false := by simpa using h1
    by_cases h2 : cl = 2
    · subst h2
      cases es : inB e with
      | false =>
        rw [es] at IE
        go_enter Tryz.func55, Tryz.ntmps55
        go_wp2_with fail
        with_reducible (refine (IE.out _).mono ?_)
        rintro en w1 ⟨rfl, rfl⟩
        go_wp2_with fail
        refine bodyPost_ret (v := .tuple #[.agg #[.bool false, .slice none 0 0, .int .i64 0, .int .i64 0], .bool false]) (by simp [results, Tryz.results55, go_sem]) rfl ⟨⟨_, rfl, Or.inr (Or.inr ⟨by decide, by rw [es]; simp, rfl⟩)⟩, ?_⟩
        repeat (first | refine Below.setCell ?_ (by simp) _ | refine Below.alloc ?_ (by simp; try omega) _ | refine bdrewN ?_ _)
        exact Below.refl _ _
      | true =>
        rw [es] at IE
        go_enter Tryz.func55, Tryz.ntmps55
        go_wp2_with fail
        with_reducible (refine (IE.out _).mono ?_)
        rintro en w1 ⟨rfl, rfl⟩
        go_wp2_with fail
        generalize hWB : (w.alloc (Obj.cells #[Value.int IntKind.i64 2, Value.bool neg, Value.int IntKind.u64 m, Value.int IntKind.i64 e] 31)).alloc (Obj.cells #[Value.bool false, Value.slice none 0 0, Value.int IntKind.i64 0, Value.int IntKind.i64 0] 41) = WB
        have HB : Hid (Below w.heap.size w WB) := Lib.hid (by rw [← hWB]; exact bgrow (bgrow (Below.refl _ _) _) _)
        have W0 : Wr WB (w.heap.size + 1) 4 41 := by
          rw [← hWB]
          have := Wr.new (w.alloc (Obj.cells #[Value.int IntKind.i64 2, Value.bool neg, Value.int IntKind.u64 m, Value.int IntKind.i64 e] 31)) #[Value.bool false, Value.slice none 0 0, Value.int IntKind.i64 0, Value.int IntKind.i64 0] 41 4 rfl
          simpa using this
        have V0 : WB.cell? { block := w.heap.size, off := 0 } = some (.int .i64 2) ∧ WB.cell? { block := w.heap.size, off := 1 } = some (.bool neg) ∧ WB.cell? { block := w.heap.size, off := 2 } = some (.int .u64 m) ∧ WB.cell? { block := w.heap.size, off := 3 } = some (.int .i64 e) := by
          rw [← hWB]; refine ⟨?_, ?_, ?_, ?_⟩ <;> simp [go_sem]
        have VC : ∀ w', Below WB.heap.size WB w' → w'.cell? { block := w.heap.size, off := 0 } = some (.int .i64 2) ∧ w'.cell? { block := w.heap.size, off := 1 } = some (.bool neg) ∧ w'.cell? { block := w.heap.size, off := 2 } = some (.int .u64 m) ∧ w'.cell? { block := w.heap.size, off := 3 } = some (.int .i64 e) := by
          intro w' hb
          have hg : w.heap.size < WB.heap.size := World.block_lt_of_cell? WB _ V0.1
          exact ⟨(hb.cell hg).trans V0.1, (hb.cell hg).trans V0.2.1, (hb.cell hg).trans V0.2.2.1, (hb.cell hg).trans V0.2.2.2⟩
        have K0 := Lib.hid (fun w' (h : Hid (Below WB.heap.size WB w')) => And.intro (Lib.hid (bthen HB.out h.out)) (VC _ h.out))
        have ON3 := Lib.hid (fun w' (hb : Hid (Below WB.heap.size WB w')) => (ON.out w').mono fun e w'' (h : (∃ A n c, e = Ending.returned (.slice A n c) ∧ IsF w'.heap.size w'' (.slice A n c) m) ∧ Below w'.heap.size w' w'') => And.intro (show ∃ A n c, e = Ending.returned (.slice A n c) ∧ Hid (IsF WB.heap.size w'' (.slice A n c) m) by obtain ⟨⟨A, n, c, h1, h2⟩, _⟩ := h; exact ⟨A, n, c, h1, Lib.hid (h2.mono hb.out.size)⟩) (And.intro (Lib.hid (bthen hb.out h.2)) (W0.below (bthen hb.out h.2)).four))
        obtain ⟨x0, x1, x2, x3, ⟨wc0, wc1, wc2, wc3⟩, wf0, wf1, wf2, wf3⟩ := W0.four
        have KW := Lib.hid (fun (w2 : World) (a b c d : Value) (h : Hid (Below WB.heap.size WB w2)) => show Hid (Below w.heap.size w ((((w2.setCell { block := w.heap.size + 1, off := 0 } a).setCell { block := w.heap.size + 1, off := 1 } b).setCell { block := w.heap.size + 1, off := 2 } c).setCell { block := w.heap.size + 1, off := 3 } d)) ∧ (((((w2.setCell { block := w.heap.size + 1, off := 0 } a).setCell { block := w.heap.size + 1, off := 1 } b).setCell { block := w.heap.size + 1, off := 2 } c).setCell { block := w.heap.size + 1, off := 3 } d).cell? { block := w.heap.size, off := 0 } = some (.int .i64 2) ∧ ((((w2.setCell { block := w.heap.size + 1, off := 0 } a).setCell { block := w.heap.size + 1, off := 1 } b).setCell { block := w.heap.size + 1, off := 2 } c).setCell { block := w.heap.size + 1, off := 3 } d).cell? { block := w.heap.size, off := 1 } = some (.bool neg) ∧ ((((w2.setCell { block := w.heap.size + 1, off := 0 } a).setCell { block := w.heap.size + 1, off := 1 } b).setCell { block := w.heap.size + 1, off := 2 } c).setCell { block := w.heap.size + 1, off := 3 } d).cell? { block := w.heap.size, off := 2 } = some (.int .u64 m) ∧ ((((w2.setCell { block := w.heap.size + 1, off := 0 } a).setCell { block := w.heap.size + 1, off := 1 } b).setCell { block := w.heap.size + 1, off := 2 } c).setCell { block := w.heap.size + 1, off := 3 } d).cell? { block := w.heap.size, off := 3 } = some (.int .i64 e)) from by
          obtain ⟨q0, q1, q2, q3⟩ := VC _ h.out
          refine ⟨Lib.hid (bset (bset (bset (bset (bthen HB.out h.out) (Nat.le_succ _)) (Nat.le_succ _)) (Nat.le_succ _)) (Nat.le_succ _)), ?_, ?_, ?_, ?_⟩ <;> simp [go_sem, q0, q1, q2, q3])
        clear VC W0 hWB IE ON V0 wc1 wc2 wc3 wf0 wf1 wf2 wf3
        go_region_held3 (fun w' => Hid (Below w.heap.size w w') ∧ (w'.cell? { block := w.heap.size, off := 0 } = some (.int .i64 2) ∧ w'.cell? { block := w.heap.size, off := 1 } = some (.bool neg) ∧ w'.cell? { block := w.heap.size, off := 2 } = some (.int .u64 m) ∧ w'.cell? { block := w.heap.size, off := 3 } = some (.int .i64 e)))
          (first | exact K0.out _ (Lib.hid (bdrewN (Below.refl _ _) 1)) | exact K0.out _ (by assumption) | exact KW.out _ _ _ _ _ b1)
          (first | ((go_at_call 44); (refine (ON3.out _ (Lib.hid (bdrewN (Below.refl _ _) 1))).mono ?_); (rintro en w2 ⟨⟨rA, rn, rc, rfl, i1⟩, b1, y0, y1, y2, y3, ⟨d0, d1, d2, d3⟩, f0, f1, f2, f3⟩)))
        go_wp2_with fail
        refine bodyPost_ret (v := .tuple #[.agg #[.bool neg, .slice rA rn rc, .int .i64 e, .int .i64 0], .bool true]) (by simp [results, Tryz.results55, go_sem, *]) rfl ⟨⟨_, rfl, Or.inr (Or.inl ⟨rfl, es, _, ?_, rfl⟩)⟩, ?_⟩
        · have hsz : w.heap.size + 1 < WB.heap.size := World.block_lt_of_cell? WB _ wc0
          exact ((((i1.out.set _ _ hsz).set _ _ hsz).set _ _ hsz).set _ _ hsz).isn
        · repeat (refine Below.setCell ?_ (Nat.le_succ _) _)
          exact bthen HB.out b1.out
    · have t2 : (cl == 2) = false := by simpa using h2
      go_enter Tryz.func55, Tryz.ntmps55
      go_wp2_with fail
      refine bodyPost_ret (v := .tuple #[.agg #[.bool false, .slice none 0 0, .int .i64 0, .int .i64 0], .bool false]) (by simp [results, Tryz.results55, go_sem]) rfl ⟨⟨_, rfl, Or.inr (Or.inr ⟨h1, fun h => h2 h.1, rfl⟩)⟩, ?_⟩
      repeat (first | refine Below.setCell ?_ (by simp) _ | refine Below.alloc ?_ (by simp; try omega) _ | refine bdrewN ?_ _)
      exact Below.refl _ _
end Go.Proofs.YtlmeobokpibifaaGreatDoor
end

section
set_option linter.unusedSimpArgs false
set_option linter.unusedVariables false
set_option linter.unusedVariables false
namespace Go.Proofs.YtlmeobokpibifaaGreatDoor
open Go.RowKit

theorem pow_same {a b : Nat} (h : a = b) : (2 : Nat) ^ a = 2 ^ b := by rw [h]
/-- has a number room in 128 words? -/
def fitE : Nat := 8192
def fitB (N : Nat) : Bool := decide (N < 2 ^ fitE)
theorem fit_len {m : Nat} {F : Nat → Nat} (h : Nm m F) (hF : ∀ i, i < m → F i < Wd) : decide (m ≤ 128) = fitB (S F m) := by
  unfold fitB
  have e : (2 : Nat) ^ fitE = Wd ^ 128 := (pow_same (by decide : fitE = 64 * 128)).trans (Wp_two 128).symm
  by_cases hm : m ≤ 128
  · have := S_lt hF
    have h2 : Wd ^ m ≤ Wd ^ 128 := Nat.pow_le_pow_right Wd_pos hm
    rw [decide_eq_true hm, decide_eq_true (by rw [e]; exact Nat.lt_of_lt_of_le this h2)]
  · rw [decide_eq_false hm, decide_eq_false]
    rw [e]
    intro hlt
    exact hm (nm_len h rfl hlt)
theorem right_N (neg : Bool) (v : Value) (N : Nat) (s f : Int) (b : Bool) (w : World) (h : IsN w v N) (hb : (fitB N && (inB s && inB f)) = b) :
    Calls Tryz.prog 27 #[xv neg v s f] w fun e w' => e = .returned (.bool b) ∧ Below w.heap.size w w' := by
  obtain ⟨A, n, c, F, rfl, hr, hn, rfl⟩ := h
  refine right_any neg A n c F s f b w hr.wide ?_
  rw [← hb]
  unfold rightB
  rw [fit_len hn hr.word]
  have : (decide (n = 0) || decide (F (n - 1) ≠ 0)) = true := by
    rcases hn with h | h
    · simp [h]
    · simp [h]
  rw [this, Bool.and_true]
/-- what Dec answers -/
def DecIs (B : Nat) (neg : Bool) (N : Nat) (k : Int) (w : World) (r : Value) : Prop :=
  ((fitB N && inB k) = true ∧ ∃ A n c, IsF B w (.slice A n c) N ∧ r = .tuple #[xv neg (.slice A n c) k k, .bool true]) ∨
  ((fitB N && inB k) = false ∧ r = .tuple #[xv false (.slice none 0 0) 0 0, .bool false])
theorem dec_any (neg : Bool) (A : Option Addr) (n c : Nat) (F : Nat → Nat) (k : Int) (w : World) (h : Rd w A n c F) :
    Calls Tryz.prog 45 #[.bool neg, .slice A n c, .int .i64 k] w fun en w' => (∃ r, en = .returned r ∧ DecIs w.heap.size neg (S F n) k w' r) ∧ Below w.heap.size w w' := by
  have HN := Lib.hid (fun w h => norm_F A n c F w h)
  have HH := Lib.hid h
  clear h
  go_enter Tryz.func45, Tryz.ntmps45
  go_wp2_with fail
  with_reducible (refine (HN.out _ (HH.out.alloc _)).mono ?_)
  rintro e w1 ⟨⟨A1, n1, c1, rfl, hf⟩, b1⟩
  have HF := Lib.hid (hf.mono (C := w.heap.size + 1) (by simp))
  have HB := Lib.hid (bthen (bgrow (Below.refl w.heap.size w) (xbox false (.slice none 0 0) 0 0)) b1)
  have HW := Lib.hid ((Wr.new w #[.bool false, .slice none 0 0, .int .i64 0, .int .i64 0] 41 4 rfl).below b1)
  have HG : Hid (w.heap.size < w1.heap.size) := Lib.hid (by have := b1.size; simp at this; omega)
  clear hf b1
  obtain ⟨b, hb⟩ : ∃ b, (fitB (S F n) && (inB k && inB k)) = b := ⟨_, rfl⟩
  have HR := Lib.hid (fun w h => right_N neg (.slice A1 n1 c1) (S F n) k k b w h hb)
  have HB2 := Lib.hid hb
  clear hb
  unfold xv at HR
  go_wp2_with fail
  with_reducible (refine (HR.out _ (HF.out.isn.alloc _)).mono ?_)
  rintro e w2 ⟨rfl, b2⟩
  have X2 := (Bx.made w1 neg (.slice A1 n1 c1) k k).below b2
  have HBB := Lib.hid (bthen (bgrow HB.out (xbox neg (.slice A1 n1 c1) k k)) b2)
  have HF2 := Lib.hid (((HF.out.below (bgrow (Below.refl _ _) (xbox neg (.slice A1 n1 c1) k k))).below b2))
  obtain ⟨x0, x1, x2, x3, ⟨d0, d1, d2, d3⟩, f0, f1, f2, f3⟩ := ((HW.out.below (bgrow (Below.refl _ _) (xbox neg (.slice A1 n1 c1) k k))).below b2).four
  unfold Bx at X2
  obtain ⟨e0, e1, e2, e3⟩ := X2
  clear b2
  cases b with
  | true =>
    go_wp2_with fail
    refine bodyPost_ret (v := .tuple #[.agg #[.bool neg, .slice A1 n1 c1, .int .i64 k, .int .i64 k], .bool true]) (by simp [results, Tryz.results45, go_sem, *]) rfl ⟨⟨_, rfl, Or.inl ⟨?_, A1, n1, c1, ?_, rfl⟩⟩, ?_⟩
    · have := HB2.out; rwa [Bool.and_self] at this
    · have hs : w.heap.size < w.heap.size + 1 := Nat.lt_succ_self _
      exact ((((HF2.out.set _ _ hs).set _ _ hs).set _ _ hs).set _ _ hs).mono (Nat.le_succ _)
    · exact bset (bset (bset (bset HBB.out (Nat.le_refl _)) (Nat.le_refl _)) (Nat.le_refl _)) (Nat.le_refl _)
  | false =>
    go_wp2_with fail
    refine bodyPost_ret (v := .tuple #[.agg #[.bool false, .slice none 0 0, .int .i64 0, .int .i64 0], .bool false]) (by simp [results, Tryz.results45, go_sem, *]) rfl ⟨⟨_, rfl, Or.inr ⟨?_, rfl⟩⟩, ?_⟩
    · have := HB2.out; rwa [Bool.and_self] at this
    · exact bset (bset (bset (bset HBB.out (Nat.le_refl _)) (Nat.le_refl _)) (Nat.le_refl _)) (Nat.le_refl _)
theorem dec_N (neg : Bool) (v : Value) (N : Nat) (k : Int) (w : World) (h : IsN w v N) :
    Calls Tryz.prog 45 #[.bool neg, v, .int .i64 k] w fun en w' => (∃ r, en = .returned r ∧ DecIs w.heap.size neg N k w' r) ∧ Below w.heap.size w w' := by
  obtain ⟨A, n, c, F, rfl, hr, hn, rfl⟩ := h
  exact dec_any neg A n c F k w hr

end Go.Proofs.YtlmeobokpibifaaGreatDoor
end

section
set_option linter.unusedSimpArgs false
set_option linter.unusedVariables false
set_option linter.unusedVariables false
namespace Go.Proofs.YtlmeobokpibifaaGreatDoor
open Go.RowKit

theorem bitsN_lt (M : Nat) : M < 2 ^ bitsN M := by
  rcases Nat.eq_zero_or_pos M with h | h
  · subst h; exact Nat.two_pow_pos _
  · exact (bitsN_low h).2.1
theorem floor_X (neg : Bool) (v : Value) (s f k : Int) (M : Nat) (w : World) (h : XOk w v M s f) (hk : -5000 ≤ k ∧ k ≤ 5000) :
    Calls Tryz.prog 61 #[xv neg v s f, .int .i64 k] w fun e w' => (∃ A n c, e = .returned (.tuple #[.slice A n c, .int .i64 (restN (vx M s f) (tenx k))]) ∧ IsN w' (.slice A n c) (vx M s f / tenx k)) ∧ Below w.heap.size w w' := by
  obtain ⟨Av, nv, cv, rfl, -⟩ := nlen h.isn
  have HH := Lib.hid h
  have hk1 : min (max k (-5000)) 5000 = k := by omega
  have e1 : IntKind.i64.wrap (s - k) = s - k := IntWalk.i64_in _ (by have := h.s1; have := h.s2; omega)
  have e2 : IntKind.i64.wrap (f - k) = f - k := IntWalk.i64_in _ (by have := h.f1; have := h.f2; omega)
  have e3 : IntKind.i64.wrap (-(s - k)) = k - s := by rw [IntWalk.i64_in _ (by have := h.s1; have := h.s2; omega)]; omega
  have e4 : IntKind.i64.wrap (-(f - k)) = k - f := by rw [IntWalk.i64_in _ (by have := h.f1; have := h.f2; omega)]; omega
  have HK := Lib.hid hk
  have O1 := Lib.hid (fun w => of_one w)
  have HA := Lib.hid (bgrow (Below.refl w.heap.size w) (xbox neg (.slice Av nv cv) s f))
  have BX := Lib.hid (Bx.made w neg (.slice Av nv cv) s f)
  obtain ⟨C, hC, hP, hQ⟩ := floor_parts M s f k (by have := h.s1; omega) (by have := h.f1; omega) (by omega)
  obtain ⟨P, hPe⟩ : ∃ P, M * 5 ^ (f - k).toNat * 2 ^ (s - k).toNat = P := ⟨_, rfl⟩
  obtain ⟨Q, hQe⟩ : ∃ Q, 1 * 5 ^ (k - f).toNat * 2 ^ (k - s).toNat = Q := ⟨_, rfl⟩
  obtain ⟨p1, p2⟩ := restN_part P Q C hC
  obtain ⟨E, hE⟩ : ∃ E, E = 200000 := ⟨_, rfl⟩
  have hpb : P < 2 ^ E := by
    rw [← hPe]
    have a1 := (bitsN_lt M)
    have a2 := five_bits (f - k).toNat
    have a3 := mul_bits (mul_bits a1 a2) (Nat.pow_lt_pow_right (a := 2) (by decide) (Nat.lt_succ_self (s - k).toNat))
    refine Nat.lt_of_lt_of_le a3 (Nat.pow_le_pow_right (by decide) ?_)
    have := h.bits; have := h.s2; have := h.f2; omega
  have hq0 : 0 < Q := by
    rw [← hQe, Nat.one_mul]
    exact Nat.mul_pos (Nat.pow_pos (by decide)) (Nat.two_pow_pos _)
  have S1 := Lib.hid (fun u w' (hu : IsN w' u 1) => scaled_N u 1 1 (k - s) (k - f) (k - s).toNat (k - f).toNat w' hu (by decide) (by decide) (by omega) (by have := h.f1; have := h.f2; omega) (by omega) (by have := h.s1; have := h.s2; omega))
  rw [hQe] at S1
  have S2 := Lib.hid (fun w' (hu : IsN w' (.slice Av nv cv) M) => scaled_N (.slice Av nv cv) M (bitsN M) (s - k) (f - k) (s - k).toNat (f - k).toNat w' hu (bitsN_lt M) (by have := h.bits; omega) (by omega) (by have := h.f1; have := h.f2; omega) (by omega) (by have := h.s1; have := h.s2; omega))
  rw [hPe] at S2
  have HX := Lib.hid (show vx M s f / tenx k = P / Q ∧ restN (vx M s f) (tenx k) = restN P Q from by
    rw [hP, hQ, hPe, hQe]; exact ⟨p2, p1⟩)
  have D1 := Lib.hid (fun u v w' hu hv => div_N u v P Q E w' hu hv hpb (by omega) hq0)
  have HPB := Lib.hid (show bitsN (P % Q) ≤ 1048576 from by
    have hm := Nat.mod_le P Q
    rcases Nat.eq_zero_or_pos (P % Q) with h0 | h0
    · rw [h0]; decide
    · obtain ⟨b1, b2, b3⟩ := bitsN_low h0
      have : 2 ^ (bitsN (P % Q) - 1) < 2 ^ E := Nat.lt_of_le_of_lt (Nat.le_trans b1 hm) hpb
      have := (Nat.pow_lt_pow_iff_right (a := 2) (by decide)).1 this
      omega)
  obtain ⟨X, hX⟩ : ∃ X, vx M s f / tenx k = X := ⟨_, rfl⟩
  obtain ⟨R, hR⟩ : ∃ R, restN (vx M s f) (tenx k) = R := ⟨_, rfl⟩
  rw [hX, hR] at HX ⊢
  clear hk h hP hQ hPe hQe p1 p2 hpb hX hR
  unfold xv xbox at *
  go_enter Tryz.func61, Tryz.ntmps61
  go_wp2_with fail
  go_quiet (fail)
  go_wp2_with fail
  have HA1 := Lib.hid (bdrewN HA.out nq)
  have BX1 := Lib.hid (show Bx ((w.alloc (Obj.cells #[Value.bool neg, Value.slice Av nv cv, Value.int IntKind.i64 s, Value.int IntKind.i64 f] 41)).drewN nq) w.heap.size neg (.slice Av nv cv) s f from BX.out)
  generalize (w.alloc (Obj.cells #[Value.bool neg, Value.slice Av nv cv, Value.int IntKind.i64 s, Value.int IntKind.i64 f] 41)).drewN nq = w0 at HA1 BX1 ⊢
  with_reducible (refine (O1.out _).mono ?_)
  rintro e w1 ⟨i1, b1⟩
  obtain ⟨A1, n1, c1, rfl, j1⟩ := shaped i1
  have J1 := Lib.hid j1
  have HB1 := Lib.hid (bthen HA1.out b1)
  have BX2 := Lib.hid (BX1.out.below b1)
  clear i1 j1 b1 HA BX HA1 BX1
  go_wp2_with fail
  with_reducible (refine (S1.out _ _ J1.out).mono ?_)
  rintro e w2 ⟨i2, b2⟩
  obtain ⟨A2, n2, c2, rfl, j2⟩ := shaped i2
  have J2 := Lib.hid j2
  have HB2 := Lib.hid (bthen HB1.out b2)
  have BX3 := (BX2.out.below b2)
  unfold Bx at BX3
  obtain ⟨y0, y1, y2, y3⟩ := BX3
  clear i2 j2 b2 HB1 BX2 J1
  go_wp2_with fail
  with_reducible (refine (S2.out _ ((HH.out.isn).below HB2.out)).mono ?_)
  rintro e w3 ⟨i3, b3⟩
  obtain ⟨A3, n3, c3, rfl, j3⟩ := shaped i3
  have J3 := Lib.hid j3
  have J2b := Lib.hid (J2.out.below b3)
  have HB3 := Lib.hid (bthen HB2.out b3)
  clear i3 j3 b3 HB2 J2 y0 y1 y2 y3
  go_wp2_with fail
  with_reducible (refine (D1.out _ _ _ J3.out J2b.out).mono ?_)
  rintro e w4 ⟨⟨q, r, rfl, j4, j5⟩, b4⟩
  obtain ⟨A4, n4, c4, rfl, -⟩ := nlen j4
  obtain ⟨A5, n5, c5, rfl, -⟩ := nlen j5
  have J4 := Lib.hid j4
  have J5 := Lib.hid j5
  have J2c := Lib.hid (J2b.out.below b4)
  have HB4 := Lib.hid (bthen HB3.out b4)
  have B5 := Lib.hid (fun w h => bits_N (.slice A5 n5 c5) (P % Q) _ w h rfl)
  clear j4 j5 b4 HB3 J3 J2b
  obtain ⟨hX, hR⟩ := HX.out
  rcases Nat.eq_zero_or_pos (P % Q) with h0 | h0
  · have hb0 : bitsN (P % Q) = 0 := by rw [h0]; rfl
    rw [hb0] at B5
    have hR0 : R = 0 := by rw [hR]; unfold restN; rw [if_pos h0]
    subst hX hR0
    clear h0 hb0 hR
    go_wp2_with fail
    with_reducible (refine (B5.out _ J5.out).mono ?_)
    rintro e w5 ⟨rfl, rfl⟩
    go_wp2_with fail
    go_ret2
    exact ⟨⟨_, _, _, rfl, J4.out⟩, HB4.out⟩
  · obtain ⟨z, hz⟩ : ∃ z, bitsN (P % Q) = z := ⟨_, rfl⟩
    have hz0 : 0 < z := by rw [← hz]; unfold bitsN; rw [if_neg (by omega)]; omega
    have t1 : ((z : Int) == 0) = false := by simp; omega
    rw [hz] at B5
    obtain ⟨cc, hcc⟩ : ∃ cc, cmpN (P % Q * 2 ^ 1) Q = cc := ⟨_, rfl⟩
    have hR0 : 2 + cc = R := by rw [hR, ← hcc]; unfold restN; rw [if_neg (by omega), Nat.mul_comm (P % Q) (2 ^ 1)]
    have hcr := cmpN_range (P % Q * 2 ^ 1) Q
    rw [hcc] at hcr
    have e5 : IntKind.i64.wrap (2 + cc) = 2 + cc := IntWalk.i64_in _ (by omega)
    have SH := Lib.hid (fun w' h => shl_N (.slice A5 n5 c5) (P % Q) _ 1 1 w' h (bitsN_lt (P % Q)) HPB.out (by decide))
    have C5 := Lib.hid (fun u v w h1 h2 => cmp_N u v (P % Q * 2 ^ 1) Q cc w h1 h2 hcc)
    subst hX hR0
    clear h0 hz0 hz hR hcc hcr
    go_wp2_with fail
    with_reducible (refine (B5.out _ J5.out).mono ?_)
    rintro e w5 ⟨rfl, rfl⟩
    go_wp2_with fail
    with_reducible (refine (SH.out _ J5.out).mono ?_)
    rintro e w5 ⟨i6, b6⟩
    obtain ⟨A6, n6, c6, rfl, j6⟩ := shaped i6
    have J6 := Lib.hid j6
    have J4b := Lib.hid (J4.out.below b6)
    have J2d := Lib.hid (J2c.out.below b6)
    have HB6 := Lib.hid (bthen HB4.out b6)
    clear i6 j6 b6 HB4 J2c J4 J5
    go_wp2_with fail
    with_reducible (refine (C5.out _ _ _ J6.out J2d.out).mono ?_)
    rintro e w6 ⟨rfl, k6, rfl⟩
    have J4c := Lib.hid (J4b.out.drewN k6)
    have HB7 := Lib.hid (bdrewN HB6.out k6)
    go_wp2_with fail
    go_ret2
    exact ⟨⟨_, _, _, rfl, J4c.out⟩, HB7.out⟩
end Go.Proofs.YtlmeobokpibifaaGreatDoor
end

/- package exact's CmpSigned walked. Conditions: as each theorem names them. -/
import Derived.Test.YteiajccjlbghoaaXcmp
import Derived.Test.YteiajccjlbghoaaXlog
set_option linter.unusedVariables false
namespace Go.Proofs.Yteiajccjlbghoaa
open Go.RowKit

theorem isN_none (w : World) : IsN w (.slice none 0 0) 0 := ⟨none, 0, 0, fun _ => 0, rfl, Rd.nil _ _, Or.inl rfl, rfl⟩
theorem xok_none (w : World) : XOk w (.slice none 0 0) 0 0 0 := ⟨isN_none w, by decide, by decide, by decide, by decide, by decide⟩
theorem cmp_X (na nb : Bool) (u v : Value) (sa fa sb fb : Int) (M N : Nat) (r : Int) (w : World) (hu : XOk w u M sa fa) (hv : XOk w v N sb fb) (hr : xcmp M sa fa N sb fb = r) :
    Calls Try.prog 15 #[xv na u sa fa, xv nb v sb fb] w fun e w' => e = .returned (.int .i64 r) ∧ Below w.heap.size w w' := by
  by_cases h : M = 0 ∨ N = 0
  · exact cmp_none na nb u v sa fa sb fb M N r w hu.isn hv.isn h (by rw [← hr, xcmp_none _ _ _ _ _ _ h])
  · exact cmp_some na nb u v sa fa sb fb M N r w hu hv (by omega) (by omega) hr
theorem cmp_0 (na : Bool) (u : Value) (sa fa : Int) (M : Nat) (r : Int) (w : World) (hu : XOk w u M sa fa) (hr : cmpN M 0 = r) :
    Calls Try.prog 15 #[xv na u sa fa, xv false (.slice none 0 0) 0 0] w fun e w' => e = .returned (.int .i64 r) ∧ Below w.heap.size w w' :=
  cmp_none na false u _ sa fa 0 0 M 0 r w hu.isn (isN_none w) (Or.inr rfl) hr

theorem sgn_ff (u v : Value) (sa fa sb fb : Int) (M N : Nat) (r : Int) (w : World) (hu : XOk w u M sa fa) (hv : XOk w v N sb fb) (hr : cmpI (sx false M sa fa) (sx false N sb fb) = r) :
    Calls Try.prog 28 #[xv false u sa fa, xv false v sb fb] w fun e w' => e = .returned (.int .i64 r) ∧ Below w.heap.size w w' := by
  have HU := Lib.hid hu
  have HV := Lib.hid hv
  have HR := Lib.hid hr
  have HA := Lib.hid (bgrow (bgrow (bgrow (Below.refl w.heap.size w) (xbox false u sa fa)) (xbox false v sb fb)) (xbox false (.slice none 0 0) 0 0))
  have BA : Bx (((w.alloc (xbox false u sa fa)).alloc (xbox false v sb fb)).alloc (xbox false (.slice none 0 0) 0 0)) w.heap.size false u sa fa := (Bx.made w false u sa fa).below (bgrow (bgrow (Below.refl _ _) _) _)
  have BB : Bx (((w.alloc (xbox false u sa fa)).alloc (xbox false v sb fb)).alloc (xbox false (.slice none 0 0) 0 0)) (w.heap.size + 1) false v sb fb := by
    have := (Bx.made (w.alloc (xbox false u sa fa)) false v sb fb).below (bgrow (Below.refl _ _) (xbox false (.slice none 0 0) 0 0))
    simpa [xbox] using this
  have BC : Bx (((w.alloc (xbox false u sa fa)).alloc (xbox false v sb fb)).alloc (xbox false (.slice none 0 0) 0 0)) (w.heap.size + 1 + 1) false (.slice none 0 0) 0 0 := by
    have := Bx.made ((w.alloc (xbox false u sa fa)).alloc (xbox false v sb fb)) false (.slice none 0 0) 0 0
    simpa [xbox] using this
  have CAB := Lib.hid (fun w h1 h2 => cmp_X false false u v sa fa sb fb M N _ w h1 h2 rfl)
  have CBA := Lib.hid (fun w h1 h2 => cmp_X false false v u sb fb sa fa N M _ w h1 h2 rfl)
  obtain ⟨ra, hra⟩ : ∃ ra, cmpN M 0 = ra := ⟨_, rfl⟩
  obtain ⟨rb, hrb⟩ : ∃ rb, cmpN N 0 = rb := ⟨_, rfl⟩
  have CA0 := Lib.hid (fun w h1 => cmp_0 false u sa fa M ra w h1 hra)
  have CB0 := Lib.hid (fun w h1 => cmp_0 false v sb fb N rb w h1 hrb)
  have HRA := Lib.hid hra
  have HRB := Lib.hid hrb
  unfold xv at *
  generalize hWB : ((w.alloc (xbox false u sa fa)).alloc (xbox false v sb fb)).alloc (xbox false (.slice none 0 0) 0 0) = WB at HA BA BB BC
  have hWB' := Lib.hid hWB
  have K0 := Lib.hid (fun w' (h : Hid (Below WB.heap.size WB w')) => And.intro (BA.below h.out) (And.intro (BB.below h.out) (BC.below h.out)))
  unfold Bx at K0
  unfold xbox at hWB
  have HP := Lib.hid hWB
  clear hu hv hr BA BB BC hra hrb hWB
  go_enter Try.func28, Try.ntmps28
  go_wp2_with fail
  have HB0 : Hid (Below WB.heap.size WB WB) := Lib.hid (Below.refl _ _)
  rw [HP.out]
  have uA : under false M = false := rfl
  have uB : under false N = false := rfl
  with_reducible (refine (CAB.out _ ((HU.out.below HA.out).below HB0.out) ((HV.out.below HA.out).below HB0.out)).mono ?_)
  rintro e vz ⟨rfl, dz⟩
  have HBz := Lib.hid (bthen HB0.out dz)
  clear dz
  go_wp2_with fail
  go_ret
  exact ⟨by rw [← HR.out, signed_above sa fa sb fb uA uB]; first | done | rfl, bthen HA.out HBz.out⟩

theorem sgn_ft (u v : Value) (sa fa sb fb : Int) (M N : Nat) (r : Int) (w : World) (hu : XOk w u M sa fa) (hv : XOk w v N sb fb) (hr : cmpI (sx false M sa fa) (sx true N sb fb) = r) :
    Calls Try.prog 28 #[xv false u sa fa, xv true v sb fb] w fun e w' => e = .returned (.int .i64 r) ∧ Below w.heap.size w w' := by
  have HU := Lib.hid hu
  have HV := Lib.hid hv
  have HR := Lib.hid hr
  have HA := Lib.hid (bgrow (bgrow (bgrow (Below.refl w.heap.size w) (xbox false u sa fa)) (xbox true v sb fb)) (xbox false (.slice none 0 0) 0 0))
  have BA : Bx (((w.alloc (xbox false u sa fa)).alloc (xbox true v sb fb)).alloc (xbox false (.slice none 0 0) 0 0)) w.heap.size false u sa fa := (Bx.made w false u sa fa).below (bgrow (bgrow (Below.refl _ _) _) _)
  have BB : Bx (((w.alloc (xbox false u sa fa)).alloc (xbox true v sb fb)).alloc (xbox false (.slice none 0 0) 0 0)) (w.heap.size + 1) true v sb fb := by
    have := (Bx.made (w.alloc (xbox false u sa fa)) true v sb fb).below (bgrow (Below.refl _ _) (xbox false (.slice none 0 0) 0 0))
    simpa [xbox] using this
  have BC : Bx (((w.alloc (xbox false u sa fa)).alloc (xbox true v sb fb)).alloc (xbox false (.slice none 0 0) 0 0)) (w.heap.size + 1 + 1) false (.slice none 0 0) 0 0 := by
    have := Bx.made ((w.alloc (xbox false u sa fa)).alloc (xbox true v sb fb)) false (.slice none 0 0) 0 0
    simpa [xbox] using this
  have CAB := Lib.hid (fun w h1 h2 => cmp_X false true u v sa fa sb fb M N _ w h1 h2 rfl)
  have CBA := Lib.hid (fun w h1 h2 => cmp_X true false v u sb fb sa fa N M _ w h1 h2 rfl)
  obtain ⟨ra, hra⟩ : ∃ ra, cmpN M 0 = ra := ⟨_, rfl⟩
  obtain ⟨rb, hrb⟩ : ∃ rb, cmpN N 0 = rb := ⟨_, rfl⟩
  have CA0 := Lib.hid (fun w h1 => cmp_0 false u sa fa M ra w h1 hra)
  have CB0 := Lib.hid (fun w h1 => cmp_0 true v sb fb N rb w h1 hrb)
  have HRA := Lib.hid hra
  have HRB := Lib.hid hrb
  unfold xv at *
  generalize hWB : ((w.alloc (xbox false u sa fa)).alloc (xbox true v sb fb)).alloc (xbox false (.slice none 0 0) 0 0) = WB at HA BA BB BC
  have hWB' := Lib.hid hWB
  have K0 := Lib.hid (fun w' (h : Hid (Below WB.heap.size WB w')) => And.intro (BA.below h.out) (And.intro (BB.below h.out) (BC.below h.out)))
  unfold Bx at K0
  unfold xbox at hWB
  have HP := Lib.hid hWB
  clear hu hv hr BA BB BC hra hrb hWB
  go_enter Try.func28, Try.ntmps28
  go_wp2_with fail
  have HB0 : Hid (Below WB.heap.size WB WB) := Lib.hid (Below.refl _ _)
  rw [HP.out]
  have uA : under false M = false := rfl
  with_reducible (refine (CB0.out _ ((HV.out.below HA.out).below HB0.out)).mono ?_)
  rintro e v2 ⟨rfl, d2⟩
  have HB2 := Lib.hid (bthen HB0.out d2)
  clear d2
  obtain ⟨⟨ca02, ca12, ca22, ca32⟩, ⟨cb02, cb12, cb22, cb32⟩, cc02, cc12, cc22, cc32⟩ := K0.out _ HB2
  rcases Nat.eq_zero_or_pos N with n0 | n0
  · have p2 : decide ((0 : Int) < rb) = false := by rw [← HRB.out]; unfold cmpN; simp [n0]
    have uB : under true N = false := by unfold under; simp [n0]
    clear n0
    go_wp2_with fail
    with_reducible (refine (CAB.out _ ((HU.out.below HA.out).below HB2.out) ((HV.out.below HA.out).below HB2.out)).mono ?_)
    rintro e vz ⟨rfl, dz⟩
    have HBz := Lib.hid (bthen HB2.out dz)
    clear dz
    go_wp2_with fail
    go_ret
    exact ⟨by rw [← HR.out, signed_above sa fa sb fb uA uB]; first | done | rfl, bthen HA.out HBz.out⟩
  · have p2 : decide ((0 : Int) < rb) = true := by rw [← HRB.out]; unfold cmpN; simp [n0]
    have uB : under true N = true := by unfold under; simp [n0]
    clear n0
    go_wp2_with fail
    have hr1 : r = 1 := by
      have h := signed_diff (na := false) (nb := true) (M := M) (N := N) sa fa sb fb (by rw [uA, uB]; decide)
      rw [HR.out, uA] at h
      simpa using h
    subst hr1
    go_wp2_with fail
    go_ret
    exact ⟨rfl, bthen HA.out HB2.out⟩

theorem sgn_tf (u v : Value) (sa fa sb fb : Int) (M N : Nat) (r : Int) (w : World) (hu : XOk w u M sa fa) (hv : XOk w v N sb fb) (hr : cmpI (sx true M sa fa) (sx false N sb fb) = r) :
    Calls Try.prog 28 #[xv true u sa fa, xv false v sb fb] w fun e w' => e = .returned (.int .i64 r) ∧ Below w.heap.size w w' := by
  have HU := Lib.hid hu
  have HV := Lib.hid hv
  have HR := Lib.hid hr
  have HA := Lib.hid (bgrow (bgrow (bgrow (Below.refl w.heap.size w) (xbox true u sa fa)) (xbox false v sb fb)) (xbox false (.slice none 0 0) 0 0))
  have BA : Bx (((w.alloc (xbox true u sa fa)).alloc (xbox false v sb fb)).alloc (xbox false (.slice none 0 0) 0 0)) w.heap.size true u sa fa := (Bx.made w true u sa fa).below (bgrow (bgrow (Below.refl _ _) _) _)
  have BB : Bx (((w.alloc (xbox true u sa fa)).alloc (xbox false v sb fb)).alloc (xbox false (.slice none 0 0) 0 0)) (w.heap.size + 1) false v sb fb := by
    have := (Bx.made (w.alloc (xbox true u sa fa)) false v sb fb).below (bgrow (Below.refl _ _) (xbox false (.slice none 0 0) 0 0))
    simpa [xbox] using this
  have BC : Bx (((w.alloc (xbox true u sa fa)).alloc (xbox false v sb fb)).alloc (xbox false (.slice none 0 0) 0 0)) (w.heap.size + 1 + 1) false (.slice none 0 0) 0 0 := by
    have := Bx.made ((w.alloc (xbox true u sa fa)).alloc (xbox false v sb fb)) false (.slice none 0 0) 0 0
    simpa [xbox] using this
  have CAB := Lib.hid (fun w h1 h2 => cmp_X true false u v sa fa sb fb M N _ w h1 h2 rfl)
  have CBA := Lib.hid (fun w h1 h2 => cmp_X false true v u sb fb sa fa N M _ w h1 h2 rfl)
  obtain ⟨ra, hra⟩ : ∃ ra, cmpN M 0 = ra := ⟨_, rfl⟩
  obtain ⟨rb, hrb⟩ : ∃ rb, cmpN N 0 = rb := ⟨_, rfl⟩
  have CA0 := Lib.hid (fun w h1 => cmp_0 true u sa fa M ra w h1 hra)
  have CB0 := Lib.hid (fun w h1 => cmp_0 false v sb fb N rb w h1 hrb)
  have HRA := Lib.hid hra
  have HRB := Lib.hid hrb
  unfold xv at *
  generalize hWB : ((w.alloc (xbox true u sa fa)).alloc (xbox false v sb fb)).alloc (xbox false (.slice none 0 0) 0 0) = WB at HA BA BB BC
  have hWB' := Lib.hid hWB
  have K0 := Lib.hid (fun w' (h : Hid (Below WB.heap.size WB w')) => And.intro (BA.below h.out) (And.intro (BB.below h.out) (BC.below h.out)))
  unfold Bx at K0
  unfold xbox at hWB
  have HP := Lib.hid hWB
  clear hu hv hr BA BB BC hra hrb hWB
  go_enter Try.func28, Try.ntmps28
  go_wp2_with fail
  have HB0 : Hid (Below WB.heap.size WB WB) := Lib.hid (Below.refl _ _)
  rw [HP.out]
  with_reducible (refine (CA0.out _ ((HU.out.below HA.out).below HB0.out)).mono ?_)
  rintro e v1 ⟨rfl, d1⟩
  have HB1 := Lib.hid (bthen HB0.out d1)
  clear d1
  obtain ⟨⟨ca01, ca11, ca21, ca31⟩, ⟨cb01, cb11, cb21, cb31⟩, cc01, cc11, cc21, cc31⟩ := K0.out _ HB1
  rcases Nat.eq_zero_or_pos M with m0 | m0
  · have p1 : decide ((0 : Int) < ra) = false := by rw [← HRA.out]; unfold cmpN; simp [m0]
    have uA : under true M = false := by unfold under; simp [m0]
    clear m0
    go_wp2_with fail
    have uB : under false N = false := rfl
    with_reducible (refine (CAB.out _ ((HU.out.below HA.out).below HB1.out) ((HV.out.below HA.out).below HB1.out)).mono ?_)
    rintro e vz ⟨rfl, dz⟩
    have HBz := Lib.hid (bthen HB1.out dz)
    clear dz
    go_wp2_with fail
    go_ret
    exact ⟨by rw [← HR.out, signed_above sa fa sb fb uA uB]; first | done | rfl, bthen HA.out HBz.out⟩
  · have p1 : decide ((0 : Int) < ra) = true := by rw [← HRA.out]; unfold cmpN; simp [m0]
    have uA : under true M = true := by unfold under; simp [m0]
    clear m0
    go_wp2_with fail
    have uB : under false N = false := rfl
    have hr1 : r = -1 := by
      have h := signed_diff (na := true) (nb := false) (M := M) (N := N) sa fa sb fb (by rw [uA, uB]; decide)
      rw [HR.out, uA] at h
      simpa using h
    subst hr1
    go_wp2_with fail
    go_ret
    exact ⟨rfl, bthen HA.out HB1.out⟩

theorem sgn_tt (u v : Value) (sa fa sb fb : Int) (M N : Nat) (r : Int) (w : World) (hu : XOk w u M sa fa) (hv : XOk w v N sb fb) (hr : cmpI (sx true M sa fa) (sx true N sb fb) = r) :
    Calls Try.prog 28 #[xv true u sa fa, xv true v sb fb] w fun e w' => e = .returned (.int .i64 r) ∧ Below w.heap.size w w' := by
  have HU := Lib.hid hu
  have HV := Lib.hid hv
  have HR := Lib.hid hr
  have HA := Lib.hid (bgrow (bgrow (bgrow (Below.refl w.heap.size w) (xbox true u sa fa)) (xbox true v sb fb)) (xbox false (.slice none 0 0) 0 0))
  have BA : Bx (((w.alloc (xbox true u sa fa)).alloc (xbox true v sb fb)).alloc (xbox false (.slice none 0 0) 0 0)) w.heap.size true u sa fa := (Bx.made w true u sa fa).below (bgrow (bgrow (Below.refl _ _) _) _)
  have BB : Bx (((w.alloc (xbox true u sa fa)).alloc (xbox true v sb fb)).alloc (xbox false (.slice none 0 0) 0 0)) (w.heap.size + 1) true v sb fb := by
    have := (Bx.made (w.alloc (xbox true u sa fa)) true v sb fb).below (bgrow (Below.refl _ _) (xbox false (.slice none 0 0) 0 0))
    simpa [xbox] using this
  have BC : Bx (((w.alloc (xbox true u sa fa)).alloc (xbox true v sb fb)).alloc (xbox false (.slice none 0 0) 0 0)) (w.heap.size + 1 + 1) false (.slice none 0 0) 0 0 := by
    have := Bx.made ((w.alloc (xbox true u sa fa)).alloc (xbox true v sb fb)) false (.slice none 0 0) 0 0
    simpa [xbox] using this
  have CAB := Lib.hid (fun w h1 h2 => cmp_X true true u v sa fa sb fb M N _ w h1 h2 rfl)
  have CBA := Lib.hid (fun w h1 h2 => cmp_X true true v u sb fb sa fa N M _ w h1 h2 rfl)
  obtain ⟨ra, hra⟩ : ∃ ra, cmpN M 0 = ra := ⟨_, rfl⟩
  obtain ⟨rb, hrb⟩ : ∃ rb, cmpN N 0 = rb := ⟨_, rfl⟩
  have CA0 := Lib.hid (fun w h1 => cmp_0 true u sa fa M ra w h1 hra)
  have CB0 := Lib.hid (fun w h1 => cmp_0 true v sb fb N rb w h1 hrb)
  have HRA := Lib.hid hra
  have HRB := Lib.hid hrb
  unfold xv at *
  generalize hWB : ((w.alloc (xbox true u sa fa)).alloc (xbox true v sb fb)).alloc (xbox false (.slice none 0 0) 0 0) = WB at HA BA BB BC
  have hWB' := Lib.hid hWB
  have K0 := Lib.hid (fun w' (h : Hid (Below WB.heap.size WB w')) => And.intro (BA.below h.out) (And.intro (BB.below h.out) (BC.below h.out)))
  unfold Bx at K0
  unfold xbox at hWB
  have HP := Lib.hid hWB
  clear hu hv hr BA BB BC hra hrb hWB
  go_enter Try.func28, Try.ntmps28
  go_wp2_with fail
  have HB0 : Hid (Below WB.heap.size WB WB) := Lib.hid (Below.refl _ _)
  rw [HP.out]
  with_reducible (refine (CA0.out _ ((HU.out.below HA.out).below HB0.out)).mono ?_)
  rintro e v1 ⟨rfl, d1⟩
  have HB1 := Lib.hid (bthen HB0.out d1)
  clear d1
  obtain ⟨⟨ca01, ca11, ca21, ca31⟩, ⟨cb01, cb11, cb21, cb31⟩, cc01, cc11, cc21, cc31⟩ := K0.out _ HB1
  rcases Nat.eq_zero_or_pos M with m0 | m0
  · have p1 : decide ((0 : Int) < ra) = false := by rw [← HRA.out]; unfold cmpN; simp [m0]
    have uA : under true M = false := by unfold under; simp [m0]
    clear m0
    go_wp2_with fail
    with_reducible (refine (CB0.out _ ((HV.out.below HA.out).below HB1.out)).mono ?_)
    rintro e v2 ⟨rfl, d2⟩
    have HB2 := Lib.hid (bthen HB1.out d2)
    clear d2
    obtain ⟨⟨ca02, ca12, ca22, ca32⟩, ⟨cb02, cb12, cb22, cb32⟩, cc02, cc12, cc22, cc32⟩ := K0.out _ HB2
    rcases Nat.eq_zero_or_pos N with n0 | n0
    · have p2 : decide ((0 : Int) < rb) = false := by rw [← HRB.out]; unfold cmpN; simp [n0]
      have uB : under true N = false := by unfold under; simp [n0]
      clear n0
      go_wp2_with fail
      with_reducible (refine (CAB.out _ ((HU.out.below HA.out).below HB2.out) ((HV.out.below HA.out).below HB2.out)).mono ?_)
      rintro e vz ⟨rfl, dz⟩
      have HBz := Lib.hid (bthen HB2.out dz)
      clear dz
      go_wp2_with fail
      go_ret
      exact ⟨by rw [← HR.out, signed_above sa fa sb fb uA uB]; first | done | rfl, bthen HA.out HBz.out⟩
    · have p2 : decide ((0 : Int) < rb) = true := by rw [← HRB.out]; unfold cmpN; simp [n0]
      have uB : under true N = true := by unfold under; simp [n0]
      clear n0
      go_wp2_with fail
      have hr1 : r = 1 := by
        have h := signed_diff (na := true) (nb := true) (M := M) (N := N) sa fa sb fb (by rw [uA, uB]; decide)
        rw [HR.out, uA] at h
        simpa using h
      subst hr1
      go_wp2_with fail
      go_ret
      exact ⟨rfl, bthen HA.out HB2.out⟩
  · have p1 : decide ((0 : Int) < ra) = true := by rw [← HRA.out]; unfold cmpN; simp [m0]
    have uA : under true M = true := by unfold under; simp [m0]
    clear m0
    go_wp2_with fail
    with_reducible (refine (CB0.out _ ((HV.out.below HA.out).below HB1.out)).mono ?_)
    rintro e v2 ⟨rfl, d2⟩
    have HB2 := Lib.hid (bthen HB1.out d2)
    clear d2
    obtain ⟨⟨ca02, ca12, ca22, ca32⟩, ⟨cb02, cb12, cb22, cb32⟩, cc02, cc12, cc22, cc32⟩ := K0.out _ HB2
    rcases Nat.eq_zero_or_pos N with n0 | n0
    · have p2 : decide ((0 : Int) < rb) = false := by rw [← HRB.out]; unfold cmpN; simp [n0]
      have uB : under true N = false := by unfold under; simp [n0]
      clear n0
      go_wp2_with fail
      have hr1 : r = -1 := by
        have h := signed_diff (na := true) (nb := true) (M := M) (N := N) sa fa sb fb (by rw [uA, uB]; decide)
        rw [HR.out, uA] at h
        simpa using h
      subst hr1
      go_wp2_with fail
      go_ret
      exact ⟨rfl, bthen HA.out HB2.out⟩
    · have p2 : decide ((0 : Int) < rb) = true := by rw [← HRB.out]; unfold cmpN; simp [n0]
      have uB : under true N = true := by unfold under; simp [n0]
      clear n0
      go_wp2_with fail
      with_reducible (refine (CBA.out _ ((HV.out.below HA.out).below HB2.out) ((HU.out.below HA.out).below HB2.out)).mono ?_)
      rintro e vz ⟨rfl, dz⟩
      have HBz := Lib.hid (bthen HB2.out dz)
      clear dz
      go_wp2_with fail
      go_ret
      exact ⟨by rw [← HR.out, signed_below sa fa sb fb uA uB]; first | done | rfl, bthen HA.out HBz.out⟩
theorem sgn_X (na nb : Bool) (u v : Value) (sa fa sb fb : Int) (M N : Nat) (r : Int) (w : World) (hu : XOk w u M sa fa) (hv : XOk w v N sb fb) (hr : cmpI (sx na M sa fa) (sx nb N sb fb) = r) :
    Calls Try.prog 28 #[xv na u sa fa, xv nb v sb fb] w fun e w' => e = .returned (.int .i64 r) ∧ Below w.heap.size w w' := by
  cases na <;> cases nb
  · exact sgn_ff u v sa fa sb fb M N r w hu hv hr
  · exact sgn_ft u v sa fa sb fb M N r w hu hv hr
  · exact sgn_tf u v sa fa sb fb M N r w hu hv hr
  · exact sgn_tt u v sa fa sb fb M N r w hu hv hr
end Go.Proofs.Yteiajccjlbghoaa

/- PositJoins answers true for every input: its statement, as the seat gives it. Conditions: none beside the row's own (the listed table of math-bits, tied to the text by the card). -/
import Derived.Test.YtfmecakoccnblaaDoorPositJoinsLaw
import Derived.Test.YtfmecakoccnblaaDoorRows
import Derived.Test.YtfmecakoccnblaaDoorTie
import Derived.Test.YtfmecakoccnblaaDoorCards
import Derived.WalkKit
import Derived.ProofKit
import Derived.OpenShut
import Derived.LaidMore
import Derived.Stop.Joined
import Derived.SevenTiedAt
import Derived.Lib.LaidTab
import Derived.Lib.SmallJoins
namespace Go.Proofs.YtfmecakoccnblaaDoor.positJoins
open Go.ChangeShapes Go.WideShapes Go.ChangeAt Go.RowKit Go.Joins

theorem own : ownKnob Tryd.prog.godebug = none := by kernel_rfl
theorem cells25 : Tryd.prog.cellsOf 25 = 4 := by kernel_rfl
theorem cell3 {H : Type} (enc : TypeId × Value → H) (W : World) (b : Nat) (sp : Nat → Bool) (hd : Bool) {a : Int} (h : (Lit.int .i64 a).wf = true) : ∃ n, DataW.trod enc Tryd.prog W b sp hd n 3 [.int .i64 a] = some (.lit (.int .i64 a), []) := ⟨1, by simp [DataW.trod, Tryd.underlying3, h]⟩
theorem cell22 {H : Type} (enc : TypeId × Value → H) (W : World) (b : Nat) (sp : Nat → Bool) (hd : Bool) {a : Int} (h : (Lit.int .u64 a).wf = true) : ∃ n, DataW.trod enc Tryd.prog W b sp hd n 22 [.int .u64 a] = some (.lit (.int .u64 a), []) := ⟨1, by simp [DataW.trod, Tryd.underlying22, h]⟩
theorem gTab : Tryd.prog.globalNamed "math/bits.deBruijn64tab" = some 0 := by kernel_rfl
theorem tTab : (Tryd.prog.globals[0]?).map (·.type) = some 67 := by kernel_rfl
theorem door_met (os : Os) (args : Array Value) : laidMetH Tryd.prog Rows.positJoinsRow.laid ((World.doorLaid Tryd.prog 400 os).forCall (fun _ _ => 0) ⟨#[], args, []⟩).memory :=
  laidMetH_of_parts3 (fuel := 8) (laidMet_of_run' 8 (by kernel_rfl) (by kernel_rfl)) (by kernel_rfl) (by kernel_rfl)
theorem tab_of {W : World} (h : laidMetH Tryd.prog Rows.positJoinsRow.laid W) : Tab W := by
  rw [MakeChecks.laidMetH_plain _ _ _ (by kernel_rfl)] at h
  have h2 := Lib.tabIs_of_head (k := .u8) (zs := Lib.deBruijn64tab.map Int.ofNat) (rest := []) (e := 5) (n := 64) gTab tTab Tryd.underlying67 Tryd.underlying5 (by kernel_rfl) (by kernel_rfl) h
  intro j hj
  rw [h2.cell gTab j (by simpa using hj)]
  rw [List.getD_eq_getElem?_getD, List.getD_eq_getElem?_getD, List.getElem?_map, List.getElem?_eq_getElem hj]
  rfl

set_option maxRecDepth 100000 in
theorem lifted (os : Os) (started : os.Started) (H : Type) (enc : TypeId × Value → H) :
    ReturnsInHanded {} Tryd.checked os 7 .any (fun w args => (Rows.positJoinsSpec.pre enc Tryd.prog Tryd.f7 [] false w args ∧ laidMetH Tryd.prog Rows.positJoinsRow.laid w) ∧ sizedMet enc Tryd.prog Tryd.f7 (OpenSpec.ofChange Rows.positJoinsSpec) false w args)
      (Rows.positJoinsSpec.post enc Tryd.prog Tryd.f7 false true false false) := by
  refine returnsInHanded_of_change_and (C := Tryd.checked) (X := fun w _ => laidMetH Tryd.prog Rows.positJoinsRow.laid w) (fun _ _ _ hh h => h.of_heap hh) own started (by kernel_rfl) Tryd.func7
    (ChangeSpec.witness_shaped (enc := enc) (C := Tryd.checked) (os := os) (X := fun w _ => laidMetH Tryd.prog Rows.positJoinsRow.laid w) false (World.doorLaid Tryd.prog 400 os) #[.int .i64 0, .agg #[.int .i64 0, .int .i64 0, .int .u64 0, .int .i64 0]] 8 rfl (World.shaped_of_RefB (by kernel_rfl) (by kernel_rfl)) (by kernel_rfl) (by kernel_rfl) (by kernel_rfl) (door_met os _)) ?_
  intro W base args ds gs before hval0 hW _ _ hL _
  have hval : ∀ (j : Nat) t v, Tryd.f7.params[j]? = some t → args[j]? = some v → Value.okWide Tryd.prog W .any base t v := hval0
  have hW' := hW
  obtain ⟨p, q, hA0, hV, rfl, hfz, hnd⟩ := hW
  have hA : DataW.TrodAll enc Tryd.prog W 0 (fun _ => true) true Tryd.f7.params.toList args.toList ds p := hA0
  rw [Tryd.params7] at hA hval
  obtain ⟨v0, vs0, d0, ds0, p0, q0, hargs, rfl, rfl, h0, r0⟩ := trodAll_cons hA
  obtain ⟨v1, vs1, d1, ds1, p1, q1, rfl, rfl, rfl, h1, r1⟩ := trodAll_cons r0
  obtain ⟨rfl, rfl, rfl⟩ := trodAll_nil r1
  obtain rfl : args = #[v0, v1] := by cases args; simp_all
  obtain ⟨rfl, rfl⟩ := trodVars_none hV
  obtain ⟨a0, rfl, rfl, rfl, w0⟩ := open_int Tryd.underlying3 (hval 0 3 v0 rfl rfl) h0
  obtain ⟨c1f0, c1f1, c1f2, c1f3, y1f0, y1f1, y1f2, y1f3, m1, rfl, rfl, rfl, hy1f0, hy1f1, hy1f2, hy1f3⟩ := open_agg4 Tryd.underlying25 (by kernel_rfl) cells25 (hval 1 25 v1 rfl rfl) h1
  obtain ⟨a1f0, e1f0, rfl, w1f0⟩ := DataW.trod_int Tryd.underlying3 hy1f0
  obtain ⟨a1f1, e1f1, rfl, w1f1⟩ := DataW.trod_int Tryd.underlying3 hy1f1
  obtain ⟨a1f2, e1f2, rfl, w1f2⟩ := DataW.trod_int Tryd.underlying22 hy1f2
  obtain ⟨a1f3, e1f3, rfl, w1f3⟩ := DataW.trod_int Tryd.underlying3 hy1f3
  simp at e1f0 e1f1 e1f2 e1f3
  subst e1f0 e1f1 e1f2 e1f3
  clear hA0 hval0
  simp only [List.append_nil] at hW'
  refine (walk_PositJoins a0 w0 a1f0 a1f1 a1f2 a1f3 w1f0 w1f1 w1f2 w1f3 W (tab_of hL)).mono fun e W' ⟨he, hg⟩ => ?_
  subst he
  exact ⟨_, rfl, _, _, _, [], _, [], hW', trodAll_cons_mk (shut_bool Tryd.underlying4 _) trodAll_mk0, (trodAll_cons_mk (shut_int Tryd.underlying3 w0) (trodAll_cons_mk (shut_agg4 (y0 := (.lit (.int .i64 a1f0), [])) (y1 := (.lit (.int .i64 a1f1), [])) (y2 := (.lit (.int .u64 a1f2), [])) (y3 := (.lit (.int .i64 a1f3), [])) Tryd.underlying25 (by kernel_rfl) cells25 (cell3 _ _ _ _ _ w1f0) (cell3 _ _ _ _ _ w1f1) (cell22 _ _ _ _ _ w1f2) (cell3 _ _ _ _ _ w1f3)) trodAll_mk0)), rfl, hg.frame _, fun h => by cases h⟩

theorem said : Rows.PositJoinsSaid :=
  OpenClaim.holds_of_wide 7 Tryd.f7 rfl rfl rfl rfl rfl rfl rfl ⟨rfl, rfl, rfl, rfl, rfl⟩ rfl rfl rfl rfl rfl (by kernel_rfl) Tryd.func7 (by kernel_rfl)
    (of_decide_eq_true (by kernel_rfl)) (by unfold Func.isWrapper; first | (rw [if_pos (by decide +kernel)]; kernel_rfl) | (rw [if_neg (by decide +kernel)]; exact ⟨rfl, rfl⟩))
    (fun os started H enc _ => lifted os started H enc)

theorem card_holds : Rows.PositJoinsCardSaid :=
  Claim7.holds_tied_plain_at .later [] [.data] true Rows.positJoinsCard.stood.harness Rows.positJoinsCard.stood.looks
    said (fun _ h => by cases h) (by kernel_rfl) (fun _ h => by cases h) positJoins_row_tie rfl ⟨rfl, rfl⟩ (by kernel_rfl) rfl
    (fun f fn hf hfn => by
      obtain rfl : f = 7 := Option.some.inj ((show Tryd.prog.funcNamed "caliper/caliperlaw05.PositJoins" = some 7 by kernel_rfl).symm.trans hf) |>.symm
      obtain rfl : fn = Tryd.f7 := (Option.some.inj (Tryd.func7.symm.trans hfn)).symm
      exact ⟨by kernel_rfl, fun j t ht => by
        rw [Tryd.params7] at ht
        have hm : t ∈ [3, 25] := by simpa using Array.mem_of_getElem? ht
        have hall : ([3, 25].all fun u => !Tryd.prog.wantsStandIn u) = true := by kernel_rfl
        exact (show Tryd.prog.wantsStandIn t = false by simpa using List.all_eq_true.1 hall t hm)⟩)
    (by kernel_rfl)
#print axioms card_holds
end Go.Proofs.YtfmecakoccnblaaDoor.positJoins
namespace Go.Proofs.YtfmecakoccnblaaDoor
theorem positJoins_card : Rows.PositJoinsCardSaid := positJoins.card_holds
end Go.Proofs.YtfmecakoccnblaaDoor

/- posit.Join walked. Conditions: as each theorem names them. -/
import Derived.Test.YtfmecakoccnblaaDoorPositKeys
import Derived.RegionCalls
import Derived.Deep.RegionWith
set_option linter.unusedVariables false
namespace Go.Proofs.YtfmecakoccnblaaDoor
open Go.RowKit

theorem fix_ok (p q : Addr) (w : World) (hc : w.cell? p = some (.int .i64 0)) :
    CallsD Tryd.prog 33 #[.pointer (some p), .pointer (some q)] .returning w fun e u' w' => u' = .returning ∧ (e = .returned (.tuple #[]) ∧ w = w') := by
  go_enter_d Tryd.func33, Tryd.ntmps33
  go_wp2
  go_end0
  exact ⟨rfl, rfl⟩
theorem fix_err (p q : Addr) (w : World) (x : Int) (k : Value) (hc : w.cell? p = some (.int .i64 x)) (hx : (x != 0) = true) (hp : w.frozen? p = false) (hk : w.cell? q = some k) (hq : w.frozen? q = false)
    (hp2 : (w.setCell q (.int .u64 0)).cell? p = some (.int .i64 x)) (hp3 : (w.setCell q (.int .u64 0)).frozen? p = false) :
    CallsD Tryd.prog 33 #[.pointer (some p), .pointer (some q)] .returning w fun e u' w' => u' = .returning ∧ (e = .returned (.tuple #[]) ∧ (w.setCell q (.int .u64 0)).setCell p (.int .i64 1) = w') := by
  go_enter_d Tryd.func33, Tryd.ntmps33
  go_wp2
  go_end0
  exact ⟨rfl, rfl⟩

set_option maxHeartbeats 4000000 in
theorem Join_walk_yes (wd reg : Int) (ex fr bts rest key : Nat) (w : World) (h1 : 3 ≤ wd) (h2 : wd ≤ 65) (r1 : -65 < reg) (r2 : reg < 65) (he : ex ≤ 3) (hb : bts ≤ 62)
    (hfr : ((fr : Int) / 2 ^ bts == 0) = true) (hor : bits .or .u64 (IntKind.u64.wrap ((ex : Int) * 2 ^ bts)) fr = (rest : Int))
    (J : ∀ w, Calls Tryd.prog 31 #[.int .i64 wd, .int .i64 reg, .int .u64 rest, .int .i64 ((bts : Int) + 2)] w fun r w' => r = .returned (.int .u64 key) ∧ w = w')
    (S : ∀ w, Calls Tryd.prog 23 #[.int .i64 wd, .int .u64 key] w fun e w' => e = .returned (.agg #[.int .i64 reg, .int .i64 ex, .int .u64 fr, .int .i64 bts]) ∧ w.alloc (.cells #[.int .i64 reg, .int .i64 ex, .int .u64 fr, .int .i64 bts] 25) = w') :
    Calls Tryd.prog 20 #[.int .i64 wd, .agg #[.int .i64 reg, .int .i64 ex, .int .u64 fr, .int .i64 bts]] w fun r w' => r = .returned (.tuple #[.int .u64 key, .int .i64 0]) ∧ Below w.heap.size w w' := by
  have hmf : ∀ (fn : Fn) (first cap : Array Value) (w : World), (Instr.makeFunc fn first cap).run Tryd.prog w = .ok (.func fn first cap) w := fun _ _ _ _ => rfl
  have hd : decide ((bts : Int) + 2 ≤ 64) = true := by simp; omega
  have hx2 : IntKind.u64.wrap (ex : Int) = (ex : Int) := wrap_u64_nat ex (by omega)
  have J' := Lib.hid J
  have S' := Lib.hid S
  clear J S
  go_enter_defers Tryd.func20, Tryd.ntmps20
  go_wp2_with fail
  refine (wide_ok _ _ h1 h2).mono ?_; rintro r w1 ⟨rfl, rfl⟩
  go_wp2_with fail
  refine (must_ok _ _).mono ?_; rintro r w1 ⟨rfl, rfl⟩
  go_wp2_with fail
  refine (must_ok _ _).mono ?_; rintro r w1 ⟨rfl, rfl⟩
  go_wp2_with fail
  refine wp_region_still_tail 15 (by kernel_rfl) (by kernel_rfl) ?_
  simp only [List.take_succ_cons, List.take_zero, List.drop_succ_cons, List.drop_zero]
  change wpStill _ _ ((((w.alloc (Obj.cells #[Value.int .i64 reg, Value.int .i64 ex, Value.int .u64 fr, Value.int .i64 bts] 25)).alloc (Obj.cells #[Value.int .u64 0] 22)).alloc (Obj.cells #[Value.int .i64 0] 26)).drew) (fun a' => wpList _ _ _ _ a' ((((w.alloc (Obj.cells #[Value.int .i64 reg, Value.int .i64 ex, Value.int .u64 fr, Value.int .i64 bts] 25)).alloc (Obj.cells #[Value.int .u64 0] 22)).alloc (Obj.cells #[Value.int .i64 0] 26)).drew)) _ _
  repeat still_step
  refine wpStill_nil ?_
  go_wp2_with fail
  refine (J'.out _).mono ?_; rintro r w1 ⟨rfl, rfl⟩
  go_wp2_with fail
  refine wp_region_any (by kernel_rfl) ?_
  change wpAny _ _ _ _ _ _ _ (World.drew _)
  refine wpAny_ready (rs := [0, 1, 3]) (by kernel_rfl) (by simp) ?_
  refine AllReady.cons rfl (fun K hK => ?_) ?_
  · go_simp
    refine hK _ _ ?_
    clear hK K
    refine wpAny_ready (rs := [1, 3]) (by kernel_rfl) (by simp) ?_
    refine AllReady.cons rfl (fun K hK => ?_) ?_
    · go_simp
      refine hK _ _ ?_
      clear hK K
      refine wpAny_ready (rs := [2, 3]) (by kernel_rfl) (by simp) ?_
      refine AllReady.cons rfl (fun K hK => ?_) ?_
      · go_simp
        refine (S'.out _).mono ?_
        rintro e w2 ⟨rfl, rfl⟩
        refine hK _ _ ?_
        clear hK K
        refine wpAny_ready (rs := [3]) (by kernel_rfl) (by simp) ?_
        refine AllReady.cons rfl (fun K hK => ?_) ?_
        · go_simp
          refine hK _ _ ?_
          clear hK K
          refine wpAny_ready (rs := [4]) (by kernel_rfl) (by simp) ?_
          refine AllReady.cons rfl (fun K hK => ?_) ?_
          · go_simp
            refine hK _ _ ?_
            clear hK K
            refine wpAny_ready (rs := [5]) (by kernel_rfl) (by simp) ?_
            refine AllReady.cons rfl (fun K hK => ?_) ?_
            · go_simp
              refine (must_ok _ _).mono ?_
              rintro e w2 ⟨rfl, rfl⟩
              refine hK _ _ ?_
              clear hK K
              refine wpAny_done (by kernel_rfl) ?_ _
              go_wp2_with fail
              refine leaves_cons (f := 22) (args := #[.pointer (some ⟨w.heap.size + 1 + 1, 0, none⟩)]) (by simp) (by simp [go_sem]) ?_
              refine (caught_idle _ _).mono ?_
              rintro e u' w'' ⟨rfl, rfl, rfl⟩
              refine leaves_cons (f := 33) (args := #[.pointer (some ⟨w.heap.size + 1 + 1, 0, none⟩), .pointer (some ⟨w.heap.size + 1, 0, none⟩)]) (by simp [settle]) (by simp [go_sem]) ?_
              refine (fix_ok _ _ _ (by simp [go_sem])).mono ?_
              rintro e u' w'' ⟨rfl, rfl, rfl⟩
              refine leaves_ret (v := .tuple #[.int .u64 key, .int .i64 0]) ?_ ⟨rfl, ?_⟩
              · simp [results, Tryd.results20, go_sem]
              · exact (((((Below.refl _ _).alloc (Nat.le_refl _) _).alloc (by simp) _).alloc (by simp; omega) _).alloc (by simp; omega) _).drew.drew
            exact AllReady.nil
          exact AllReady.nil
        exact AllReady.nil
      refine AllReady.cons rfl (fun K hK => ?_) ?_
      · go_simp
        refine hK _ _ ?_
        clear hK K
        refine wpAny_ready (rs := [2]) (by kernel_rfl) (by simp) ?_
        refine AllReady.cons rfl (fun K hK => ?_) ?_
        · go_simp
          refine (S'.out _).mono ?_
          rintro e w2 ⟨rfl, rfl⟩
          refine hK _ _ ?_
          clear hK K
          refine wpAny_ready (rs := [4]) (by kernel_rfl) (by simp) ?_
          refine AllReady.cons rfl (fun K hK => ?_) ?_
          · go_simp
            refine hK _ _ ?_
            clear hK K
            refine wpAny_ready (rs := [5]) (by kernel_rfl) (by simp) ?_
            refine AllReady.cons rfl (fun K hK => ?_) ?_
            · go_simp
              refine (must_ok _ _).mono ?_
              rintro e w2 ⟨rfl, rfl⟩
              refine hK _ _ ?_
              clear hK K
              refine wpAny_done (by kernel_rfl) ?_ _
              go_wp2_with fail
              refine leaves_cons (f := 22) (args := #[.pointer (some ⟨w.heap.size + 1 + 1, 0, none⟩)]) (by simp) (by simp [go_sem]) ?_
              refine (caught_idle _ _).mono ?_
              rintro e u' w'' ⟨rfl, rfl, rfl⟩
              refine leaves_cons (f := 33) (args := #[.pointer (some ⟨w.heap.size + 1 + 1, 0, none⟩), .pointer (some ⟨w.heap.size + 1, 0, none⟩)]) (by simp [settle]) (by simp [go_sem]) ?_
              refine (fix_ok _ _ _ (by simp [go_sem])).mono ?_
              rintro e u' w'' ⟨rfl, rfl, rfl⟩
              refine leaves_ret (v := .tuple #[.int .u64 key, .int .i64 0]) ?_ ⟨rfl, ?_⟩
              · simp [results, Tryd.results20, go_sem]
              · exact (((((Below.refl _ _).alloc (Nat.le_refl _) _).alloc (by simp) _).alloc (by simp; omega) _).alloc (by simp; omega) _).drew.drew
            exact AllReady.nil
          exact AllReady.nil
        exact AllReady.nil
      exact AllReady.nil
    refine AllReady.cons rfl (fun K hK => ?_) ?_
    · go_simp
      refine hK _ _ ?_
      clear hK K
      refine wpAny_ready (rs := [1]) (by kernel_rfl) (by simp) ?_
      refine AllReady.cons rfl (fun K hK => ?_) ?_
      · go_simp
        refine hK _ _ ?_
        clear hK K
        refine wpAny_ready (rs := [2]) (by kernel_rfl) (by simp) ?_
        refine AllReady.cons rfl (fun K hK => ?_) ?_
        · go_simp
          refine (S'.out _).mono ?_
          rintro e w2 ⟨rfl, rfl⟩
          refine hK _ _ ?_
          clear hK K
          refine wpAny_ready (rs := [4]) (by kernel_rfl) (by simp) ?_
          refine AllReady.cons rfl (fun K hK => ?_) ?_
          · go_simp
            refine hK _ _ ?_
            clear hK K
            refine wpAny_ready (rs := [5]) (by kernel_rfl) (by simp) ?_
            refine AllReady.cons rfl (fun K hK => ?_) ?_
            · go_simp
              refine (must_ok _ _).mono ?_
              rintro e w2 ⟨rfl, rfl⟩
              refine hK _ _ ?_
              clear hK K
              refine wpAny_done (by kernel_rfl) ?_ _
              go_wp2_with fail
              refine leaves_cons (f := 22) (args := #[.pointer (some ⟨w.heap.size + 1 + 1, 0, none⟩)]) (by simp) (by simp [go_sem]) ?_
              refine (caught_idle _ _).mono ?_
              rintro e u' w'' ⟨rfl, rfl, rfl⟩
              refine leaves_cons (f := 33) (args := #[.pointer (some ⟨w.heap.size + 1 + 1, 0, none⟩), .pointer (some ⟨w.heap.size + 1, 0, none⟩)]) (by simp [settle]) (by simp [go_sem]) ?_
              refine (fix_ok _ _ _ (by simp [go_sem])).mono ?_
              rintro e u' w'' ⟨rfl, rfl, rfl⟩
              refine leaves_ret (v := .tuple #[.int .u64 key, .int .i64 0]) ?_ ⟨rfl, ?_⟩
              · simp [results, Tryd.results20, go_sem]
              · exact (((((Below.refl _ _).alloc (Nat.le_refl _) _).alloc (by simp) _).alloc (by simp; omega) _).alloc (by simp; omega) _).drew.drew
            exact AllReady.nil
          exact AllReady.nil
        exact AllReady.nil
      exact AllReady.nil
    exact AllReady.nil
  refine AllReady.cons rfl (fun K hK => ?_) ?_
  · go_simp
    refine hK _ _ ?_
    clear hK K
    refine wpAny_ready (rs := [0, 3]) (by kernel_rfl) (by simp) ?_
    refine AllReady.cons rfl (fun K hK => ?_) ?_
    · go_simp
      refine hK _ _ ?_
      clear hK K
      refine wpAny_ready (rs := [2, 3]) (by kernel_rfl) (by simp) ?_
      refine AllReady.cons rfl (fun K hK => ?_) ?_
      · go_simp
        refine (S'.out _).mono ?_
        rintro e w2 ⟨rfl, rfl⟩
        refine hK _ _ ?_
        clear hK K
        refine wpAny_ready (rs := [3]) (by kernel_rfl) (by simp) ?_
        refine AllReady.cons rfl (fun K hK => ?_) ?_
        · go_simp
          refine hK _ _ ?_
          clear hK K
          refine wpAny_ready (rs := [4]) (by kernel_rfl) (by simp) ?_
          refine AllReady.cons rfl (fun K hK => ?_) ?_
          · go_simp
            refine hK _ _ ?_
            clear hK K
            refine wpAny_ready (rs := [5]) (by kernel_rfl) (by simp) ?_
            refine AllReady.cons rfl (fun K hK => ?_) ?_
            · go_simp
              refine (must_ok _ _).mono ?_
              rintro e w2 ⟨rfl, rfl⟩
              refine hK _ _ ?_
              clear hK K
              refine wpAny_done (by kernel_rfl) ?_ _
              go_wp2_with fail
              refine leaves_cons (f := 22) (args := #[.pointer (some ⟨w.heap.size + 1 + 1, 0, none⟩)]) (by simp) (by simp [go_sem]) ?_
              refine (caught_idle _ _).mono ?_
              rintro e u' w'' ⟨rfl, rfl, rfl⟩
              refine leaves_cons (f := 33) (args := #[.pointer (some ⟨w.heap.size + 1 + 1, 0, none⟩), .pointer (some ⟨w.heap.size + 1, 0, none⟩)]) (by simp [settle]) (by simp [go_sem]) ?_
              refine (fix_ok _ _ _ (by simp [go_sem])).mono ?_
              rintro e u' w'' ⟨rfl, rfl, rfl⟩
              refine leaves_ret (v := .tuple #[.int .u64 key, .int .i64 0]) ?_ ⟨rfl, ?_⟩
              · simp [results, Tryd.results20, go_sem]
              · exact (((((Below.refl _ _).alloc (Nat.le_refl _) _).alloc (by simp) _).alloc (by simp; omega) _).alloc (by simp; omega) _).drew.drew
            exact AllReady.nil
          exact AllReady.nil
        exact AllReady.nil
      refine AllReady.cons rfl (fun K hK => ?_) ?_
      · go_simp
        refine hK _ _ ?_
        clear hK K
        refine wpAny_ready (rs := [2]) (by kernel_rfl) (by simp) ?_
        refine AllReady.cons rfl (fun K hK => ?_) ?_
        · go_simp
          refine (S'.out _).mono ?_
          rintro e w2 ⟨rfl, rfl⟩
          refine hK _ _ ?_
          clear hK K
          refine wpAny_ready (rs := [4]) (by kernel_rfl) (by simp) ?_
          refine AllReady.cons rfl (fun K hK => ?_) ?_
          · go_simp
            refine hK _ _ ?_
            clear hK K
            refine wpAny_ready (rs := [5]) (by kernel_rfl) (by simp) ?_
            refine AllReady.cons rfl (fun K hK => ?_) ?_
            · go_simp
              refine (must_ok _ _).mono ?_
              rintro e w2 ⟨rfl, rfl⟩
              refine hK _ _ ?_
              clear hK K
              refine wpAny_done (by kernel_rfl) ?_ _
              go_wp2_with fail
              refine leaves_cons (f := 22) (args := #[.pointer (some ⟨w.heap.size + 1 + 1, 0, none⟩)]) (by simp) (by simp [go_sem]) ?_
              refine (caught_idle _ _).mono ?_
              rintro e u' w'' ⟨rfl, rfl, rfl⟩
              refine leaves_cons (f := 33) (args := #[.pointer (some ⟨w.heap.size + 1 + 1, 0, none⟩), .pointer (some ⟨w.heap.size + 1, 0, none⟩)]) (by simp [settle]) (by simp [go_sem]) ?_
              refine (fix_ok _ _ _ (by simp [go_sem])).mono ?_
              rintro e u' w'' ⟨rfl, rfl, rfl⟩
              refine leaves_ret (v := .tuple #[.int .u64 key, .int .i64 0]) ?_ ⟨rfl, ?_⟩
              · simp [results, Tryd.results20, go_sem]
              · exact (((((Below.refl _ _).alloc (Nat.le_refl _) _).alloc (by simp) _).alloc (by simp; omega) _).alloc (by simp; omega) _).drew.drew
            exact AllReady.nil
          exact AllReady.nil
        exact AllReady.nil
      exact AllReady.nil
    refine AllReady.cons rfl (fun K hK => ?_) ?_
    · go_simp
      refine hK _ _ ?_
      clear hK K
      refine wpAny_ready (rs := [0]) (by kernel_rfl) (by simp) ?_
      refine AllReady.cons rfl (fun K hK => ?_) ?_
      · go_simp
        refine hK _ _ ?_
        clear hK K
        refine wpAny_ready (rs := [2]) (by kernel_rfl) (by simp) ?_
        refine AllReady.cons rfl (fun K hK => ?_) ?_
        · go_simp
          refine (S'.out _).mono ?_
          rintro e w2 ⟨rfl, rfl⟩
          refine hK _ _ ?_
          clear hK K
          refine wpAny_ready (rs := [4]) (by kernel_rfl) (by simp) ?_
          refine AllReady.cons rfl (fun K hK => ?_) ?_
          · go_simp
            refine hK _ _ ?_
            clear hK K
            refine wpAny_ready (rs := [5]) (by kernel_rfl) (by simp) ?_
            refine AllReady.cons rfl (fun K hK => ?_) ?_
            · go_simp
              refine (must_ok _ _).mono ?_
              rintro e w2 ⟨rfl, rfl⟩
              refine hK _ _ ?_
              clear hK K
              refine wpAny_done (by kernel_rfl) ?_ _
              go_wp2_with fail
              refine leaves_cons (f := 22) (args := #[.pointer (some ⟨w.heap.size + 1 + 1, 0, none⟩)]) (by simp) (by simp [go_sem]) ?_
              refine (caught_idle _ _).mono ?_
              rintro e u' w'' ⟨rfl, rfl, rfl⟩
              refine leaves_cons (f := 33) (args := #[.pointer (some ⟨w.heap.size + 1 + 1, 0, none⟩), .pointer (some ⟨w.heap.size + 1, 0, none⟩)]) (by simp [settle]) (by simp [go_sem]) ?_
              refine (fix_ok _ _ _ (by simp [go_sem])).mono ?_
              rintro e u' w'' ⟨rfl, rfl, rfl⟩
              refine leaves_ret (v := .tuple #[.int .u64 key, .int .i64 0]) ?_ ⟨rfl, ?_⟩
              · simp [results, Tryd.results20, go_sem]
              · exact (((((Below.refl _ _).alloc (Nat.le_refl _) _).alloc (by simp) _).alloc (by simp; omega) _).alloc (by simp; omega) _).drew.drew
            exact AllReady.nil
          exact AllReady.nil
        exact AllReady.nil
      exact AllReady.nil
    exact AllReady.nil
  refine AllReady.cons rfl (fun K hK => ?_) ?_
  · go_simp
    refine hK _ _ ?_
    clear hK K
    refine wpAny_ready (rs := [0, 1]) (by kernel_rfl) (by simp) ?_
    refine AllReady.cons rfl (fun K hK => ?_) ?_
    · go_simp
      refine hK _ _ ?_
      clear hK K
      refine wpAny_ready (rs := [1]) (by kernel_rfl) (by simp) ?_
      refine AllReady.cons rfl (fun K hK => ?_) ?_
      · go_simp
        refine hK _ _ ?_
        clear hK K
        refine wpAny_ready (rs := [2]) (by kernel_rfl) (by simp) ?_
        refine AllReady.cons rfl (fun K hK => ?_) ?_
        · go_simp
          refine (S'.out _).mono ?_
          rintro e w2 ⟨rfl, rfl⟩
          refine hK _ _ ?_
          clear hK K
          refine wpAny_ready (rs := [4]) (by kernel_rfl) (by simp) ?_
          refine AllReady.cons rfl (fun K hK => ?_) ?_
          · go_simp
            refine hK _ _ ?_
            clear hK K
            refine wpAny_ready (rs := [5]) (by kernel_rfl) (by simp) ?_
            refine AllReady.cons rfl (fun K hK => ?_) ?_
            · go_simp
              refine (must_ok _ _).mono ?_
              rintro e w2 ⟨rfl, rfl⟩
              refine hK _ _ ?_
              clear hK K
              refine wpAny_done (by kernel_rfl) ?_ _
              go_wp2_with fail
              refine leaves_cons (f := 22) (args := #[.pointer (some ⟨w.heap.size + 1 + 1, 0, none⟩)]) (by simp) (by simp [go_sem]) ?_
              refine (caught_idle _ _).mono ?_
              rintro e u' w'' ⟨rfl, rfl, rfl⟩
              refine leaves_cons (f := 33) (args := #[.pointer (some ⟨w.heap.size + 1 + 1, 0, none⟩), .pointer (some ⟨w.heap.size + 1, 0, none⟩)]) (by simp [settle]) (by simp [go_sem]) ?_
              refine (fix_ok _ _ _ (by simp [go_sem])).mono ?_
              rintro e u' w'' ⟨rfl, rfl, rfl⟩
              refine leaves_ret (v := .tuple #[.int .u64 key, .int .i64 0]) ?_ ⟨rfl, ?_⟩
              · simp [results, Tryd.results20, go_sem]
              · exact (((((Below.refl _ _).alloc (Nat.le_refl _) _).alloc (by simp) _).alloc (by simp; omega) _).alloc (by simp; omega) _).drew.drew
            exact AllReady.nil
          exact AllReady.nil
        exact AllReady.nil
      exact AllReady.nil
    refine AllReady.cons rfl (fun K hK => ?_) ?_
    · go_simp
      refine hK _ _ ?_
      clear hK K
      refine wpAny_ready (rs := [0]) (by kernel_rfl) (by simp) ?_
      refine AllReady.cons rfl (fun K hK => ?_) ?_
      · go_simp
        refine hK _ _ ?_
        clear hK K
        refine wpAny_ready (rs := [2]) (by kernel_rfl) (by simp) ?_
        refine AllReady.cons rfl (fun K hK => ?_) ?_
        · go_simp
          refine (S'.out _).mono ?_
          rintro e w2 ⟨rfl, rfl⟩
          refine hK _ _ ?_
          clear hK K
          refine wpAny_ready (rs := [4]) (by kernel_rfl) (by simp) ?_
          refine AllReady.cons rfl (fun K hK => ?_) ?_
          · go_simp
            refine hK _ _ ?_
            clear hK K
            refine wpAny_ready (rs := [5]) (by kernel_rfl) (by simp) ?_
            refine AllReady.cons rfl (fun K hK => ?_) ?_
            · go_simp
              refine (must_ok _ _).mono ?_
              rintro e w2 ⟨rfl, rfl⟩
              refine hK _ _ ?_
              clear hK K
              refine wpAny_done (by kernel_rfl) ?_ _
              go_wp2_with fail
              refine leaves_cons (f := 22) (args := #[.pointer (some ⟨w.heap.size + 1 + 1, 0, none⟩)]) (by simp) (by simp [go_sem]) ?_
              refine (caught_idle _ _).mono ?_
              rintro e u' w'' ⟨rfl, rfl, rfl⟩
              refine leaves_cons (f := 33) (args := #[.pointer (some ⟨w.heap.size + 1 + 1, 0, none⟩), .pointer (some ⟨w.heap.size + 1, 0, none⟩)]) (by simp [settle]) (by simp [go_sem]) ?_
              refine (fix_ok _ _ _ (by simp [go_sem])).mono ?_
              rintro e u' w'' ⟨rfl, rfl, rfl⟩
              refine leaves_ret (v := .tuple #[.int .u64 key, .int .i64 0]) ?_ ⟨rfl, ?_⟩
              · simp [results, Tryd.results20, go_sem]
              · exact (((((Below.refl _ _).alloc (Nat.le_refl _) _).alloc (by simp) _).alloc (by simp; omega) _).alloc (by simp; omega) _).drew.drew
            exact AllReady.nil
          exact AllReady.nil
        exact AllReady.nil
      exact AllReady.nil
    exact AllReady.nil
  exact AllReady.nil
end Go.Proofs.YtfmecakoccnblaaDoor

/- gate.kinds: the map of thresholds; and the four functions in it. -/
import Derived.Test.YtkcmkoolcakfjaaPx0
import Derived.Test.YtkcmkoolcakfjaaHMap
namespace Go.Proofs.Ytkcmkoolcakfjaa.P
open Go.RowKit Go.Proofs.YtkcmkoolcakfjaaW.PrintWords Go.Proofs.YtkcmkoolcakfjaaW.PrintLast Go.Proofs.YtkcmkoolcakfjaaW.PrintMore Go.Proofs.Ytkcmkoolcakfjaa.Aid
set_option linter.unusedVariables false
set_option linter.unusedSimpArgs false

theorem kinds1.calls (a b c : Int) (A : Option Addr) (n q : Nat) (w : World) : Calls Try.prog 70 #[.agg #[.int .i64 a, .int .i64 b, .int .i64 c, .slice A n q]] w fun e w' => e = .returned (.int .i64 1) ∧ Below w.heap.size w w' := by
  go_enter Try.func70, Try.ntmps70
  go_wp2
  go_ret
  exact ⟨rfl, below_alloc (Below.refl _ _) _⟩
set_option maxHeartbeats 400000 in
theorem kinds2.calls (a b c : Int) (A : Option Addr) (n q : Nat) (w : World) : Calls Try.prog 71 #[.agg #[.int .i64 a, .int .i64 b, .int .i64 c, .slice A n q]] w fun e w' => e = .returned (.int .i64 (wrap64 (1 - b))) ∧ Below w.heap.size w w' := by
  go_enter Try.func71, Try.ntmps71
  go_wp2
  go_ret
  exact ⟨rfl, below_alloc (Below.refl _ _) _⟩
set_option maxHeartbeats 400000 in
theorem kinds3.calls (a b c : Int) (A : Option Addr) (n q : Nat) (w : World) : Calls Try.prog 72 #[.agg #[.int .i64 a, .int .i64 b, .int .i64 c, .slice A n q]] w fun e w' => e = .returned (.int .i64 n) ∧ Below w.heap.size w w' := by
  go_enter Try.func72, Try.ntmps72
  go_wp2
  go_ret
  exact ⟨rfl, below_alloc (Below.refl _ _) _⟩
set_option maxHeartbeats 400000 in
theorem kinds4.calls (a b c : Int) (A : Option Addr) (n q : Nat) (w : World) : Calls Try.prog 73 #[.agg #[.int .i64 a, .int .i64 b, .int .i64 c, .slice A n q]] w fun e w' => e = .returned (.int .i64 c) ∧ Below w.heap.size w w' := by
  go_enter Try.func73, Try.ntmps73
  go_wp2
  go_ret
  exact ⟨rfl, below_alloc (Below.refl _ _) _⟩
/-- The map's entries. -/
def kindsEs : Array MapEntry := #[{ key := .int .i64 1, val := .func (.func 71) #[] #[], born := 0 }, { key := .int .i64 4, val := .func (.func 72) #[] #[], born := 1 }, { key := .int .i64 5, val := .func (.func 70) #[] #[], born := 2 }, { key := .int .i64 6, val := .func (.func 73) #[] #[], born := 3 }]

set_option maxHeartbeats 400000 in
set_option maxRecDepth 100000 in
theorem kinds.calls (w : World) : Calls Try.prog 51 #[] w fun e w' => e = .returned (.map (some w.heap.size)) ∧ w'.heap[w.heap.size]? = some (.map kindsEs 4) ∧ Below w.heap.size w w' := by
  go_enter Try.func51, Try.ntmps51
  have hmm := @run_makeMap Try.prog
  have hb0 : (w.alloc (.map #[] 0)).heap[w.heap.size]? = some (.map #[] 0) := blk_new w _
  have HB0 := Aside0.mk hb0
  have hB0 : Below w.heap.size w (w.alloc (.map #[] 0)) := below_alloc (Below.refl _ _) _
  have HL0 := Aside0.mk hB0
  clear hb0 hB0
  go_wp2_with (first
    | (refine insert_list rfl (m := .tmp 2) (k := .const (.int .i64 1)) (x := .func 71) rfl rfl Try.underlying82 Try.underlying3 w.heap.size #[] 0 1 (.func (.func 71) #[] #[]) rfl rfl rfl HB0.out rfl ?_; intro w1 hb hg; have HB1 := Aside0.mk hb; have HL1 := Aside0.mk (HL0.out.grown hg HL0.out.size (fun k hk => by cases hk; exact Nat.le_refl _)); clear hb hg HB0 HL0)
    | (refine insert_list rfl (m := .tmp 2) (k := .const (.int .i64 4)) (x := .func 72) rfl rfl Try.underlying82 Try.underlying3 w.heap.size _ _ 4 (.func (.func 72) #[] #[]) rfl rfl rfl HB1.out rfl ?_; intro w2 hb hg; have HB2 := Aside0.mk hb; have HL2 := Aside0.mk (HL1.out.grown hg HL1.out.size (fun k hk => by cases hk; exact Nat.le_refl _)); clear hb hg HB1 HL1)
    | (refine insert_list rfl (m := .tmp 2) (k := .const (.int .i64 5)) (x := .tmp 3) rfl rfl Try.underlying82 Try.underlying3 w.heap.size _ _ 5 (.func (.func 70) #[] #[]) rfl rfl rfl HB2.out rfl ?_; intro w3 hb hg; have HB3 := Aside0.mk hb; have HL3 := Aside0.mk (HL2.out.grown hg HL2.out.size (fun k hk => by cases hk; exact Nat.le_refl _)); clear hb hg HB2 HL2)
    | (refine insert_list rfl (m := .tmp 2) (k := .const (.int .i64 6)) (x := .func 73) rfl rfl Try.underlying82 Try.underlying3 w.heap.size _ _ 6 (.func (.func 73) #[] #[]) rfl rfl rfl HB3.out rfl ?_; intro w4 hb hg; have HB4 := Aside0.mk hb; have HL4 := Aside0.mk (HL3.out.grown hg HL3.out.size (fun k hk => by cases hk; exact Nat.le_refl _)); clear hb hg HB3 HL3))
  go_ret
  exact ⟨rfl, HB4.out, HL4.out⟩
end Go.Proofs.Ytkcmkoolcakfjaa.P

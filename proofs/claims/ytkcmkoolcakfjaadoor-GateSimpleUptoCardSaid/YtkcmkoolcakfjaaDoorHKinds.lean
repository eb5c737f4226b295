/- gate.kinds: the map of thresholds; and the four functions in it. -/
import Derived.Test.YtkcmkoolcakfjaaDoorPx0
import Derived.Test.YtkcmkoolcakfjaaDoorHMap
namespace Go.Proofs.YtkcmkoolcakfjaaDoor.P
open Go.RowKit Go.Proofs.YtkcmkoolcakfjaaDoorW.PrintWords Go.Proofs.YtkcmkoolcakfjaaDoorW.PrintLast Go.Proofs.YtkcmkoolcakfjaaDoorW.PrintMore Go.Proofs.YtkcmkoolcakfjaaDoor.Aid
set_option linter.unusedVariables false
set_option linter.unusedSimpArgs false

theorem kinds1.calls (a b c : Int) (A : Option Addr) (n q : Nat) (w : World) : Calls Tryd.prog 34 #[.agg #[.int .i64 a, .int .i64 b, .int .i64 c, .slice A n q]] w fun e w' => e = .returned (.int .i64 1) ∧ Below w.heap.size w w' := by
  go_enter Tryd.func34, Tryd.ntmps34
  go_wp2
  go_ret
  exact ⟨rfl, below_alloc (Below.refl _ _) _⟩
set_option maxHeartbeats 400000 in
theorem kinds2.calls (a b c : Int) (A : Option Addr) (n q : Nat) (w : World) : Calls Tryd.prog 35 #[.agg #[.int .i64 a, .int .i64 b, .int .i64 c, .slice A n q]] w fun e w' => e = .returned (.int .i64 (wrap64 (1 - b))) ∧ Below w.heap.size w w' := by
  go_enter Tryd.func35, Tryd.ntmps35
  go_wp2
  go_ret
  exact ⟨rfl, below_alloc (Below.refl _ _) _⟩
set_option maxHeartbeats 400000 in
theorem kinds3.calls (a b c : Int) (A : Option Addr) (n q : Nat) (w : World) : Calls Tryd.prog 36 #[.agg #[.int .i64 a, .int .i64 b, .int .i64 c, .slice A n q]] w fun e w' => e = .returned (.int .i64 n) ∧ Below w.heap.size w w' := by
  go_enter Tryd.func36, Tryd.ntmps36
  go_wp2
  go_ret
  exact ⟨rfl, below_alloc (Below.refl _ _) _⟩
set_option maxHeartbeats 400000 in
theorem kinds4.calls (a b c : Int) (A : Option Addr) (n q : Nat) (w : World) : Calls Tryd.prog 37 #[.agg #[.int .i64 a, .int .i64 b, .int .i64 c, .slice A n q]] w fun e w' => e = .returned (.int .i64 c) ∧ Below w.heap.size w w' := by
  go_enter Tryd.func37, Tryd.ntmps37
  go_wp2
  go_ret
  exact ⟨rfl, below_alloc (Below.refl _ _) _⟩
/-- The map's entries. -/
def kindsEs : Array MapEntry := #[{ key := .int .i64 1, val := .func (.func 35) #[] #[], born := 0 }, { key := .int .i64 4, val := .func (.func 36) #[] #[], born := 1 }, { key := .int .i64 5, val := .func (.func 34) #[] #[], born := 2 }, { key := .int .i64 6, val := .func (.func 37) #[] #[], born := 3 }]

set_option maxHeartbeats 400000 in
set_option maxRecDepth 100000 in
theorem kinds.calls (w : World) : Calls Tryd.prog 18 #[] w fun e w' => e = .returned (.map (some w.heap.size)) ∧ w'.heap[w.heap.size]? = some (.map kindsEs 4) ∧ Below w.heap.size w w' := by
  go_enter Tryd.func18, Tryd.ntmps18
  have hmm := @run_makeMap Tryd.prog
  have hb0 : (w.alloc (.map #[] 0)).heap[w.heap.size]? = some (.map #[] 0) := blk_new w _
  have HB0 := Aside0.mk hb0
  have hB0 : Below w.heap.size w (w.alloc (.map #[] 0)) := below_alloc (Below.refl _ _) _
  have HL0 := Aside0.mk hB0
  clear hb0 hB0
  go_wp2_with (first
    | (refine insert_list rfl (m := .tmp 2) (k := .const (.int .i64 1)) (x := .func 35) rfl rfl Tryd.underlying52 Tryd.underlying3 w.heap.size #[] 0 1 (.func (.func 35) #[] #[]) rfl rfl rfl HB0.out rfl ?_; intro w1 hb hg; have HB1 := Aside0.mk hb; have HL1 := Aside0.mk (HL0.out.grown hg HL0.out.size (fun k hk => by cases hk; exact Nat.le_refl _)); clear hb hg HB0 HL0)
    | (refine insert_list rfl (m := .tmp 2) (k := .const (.int .i64 4)) (x := .func 36) rfl rfl Tryd.underlying52 Tryd.underlying3 w.heap.size _ _ 4 (.func (.func 36) #[] #[]) rfl rfl rfl HB1.out rfl ?_; intro w2 hb hg; have HB2 := Aside0.mk hb; have HL2 := Aside0.mk (HL1.out.grown hg HL1.out.size (fun k hk => by cases hk; exact Nat.le_refl _)); clear hb hg HB1 HL1)
    | (refine insert_list rfl (m := .tmp 2) (k := .const (.int .i64 5)) (x := .tmp 3) rfl rfl Tryd.underlying52 Tryd.underlying3 w.heap.size _ _ 5 (.func (.func 34) #[] #[]) rfl rfl rfl HB2.out rfl ?_; intro w3 hb hg; have HB3 := Aside0.mk hb; have HL3 := Aside0.mk (HL2.out.grown hg HL2.out.size (fun k hk => by cases hk; exact Nat.le_refl _)); clear hb hg HB2 HL2)
    | (refine insert_list rfl (m := .tmp 2) (k := .const (.int .i64 6)) (x := .func 37) rfl rfl Tryd.underlying52 Tryd.underlying3 w.heap.size _ _ 6 (.func (.func 37) #[] #[]) rfl rfl rfl HB3.out rfl ?_; intro w4 hb hg; have HB4 := Aside0.mk hb; have HL4 := Aside0.mk (HL3.out.grown hg HL3.out.size (fun k hk => by cases hk; exact Nat.le_refl _)); clear hb hg HB3 HL3))
  go_ret
  exact ⟨rfl, HB4.out, HL4.out⟩
end Go.Proofs.YtkcmkoolcakfjaaDoor.P

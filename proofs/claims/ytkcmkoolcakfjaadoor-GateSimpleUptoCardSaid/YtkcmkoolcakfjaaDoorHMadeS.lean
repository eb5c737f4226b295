/- flat.known, open, constant, kept, join, made: walked. -/
import Derived.Test.YtkcmkoolcakfjaaDoorHSimp
/- flat.known, open, constant, kept, join: walked. -/
namespace Go.Proofs.YtkcmkoolcakfjaaDoor.P
open Go.RowKit Go.Proofs.YtkcmkoolcakfjaaDoorW.PrintWords Go.Proofs.YtkcmkoolcakfjaaDoorW.PrintLast Go.Proofs.YtkcmkoolcakfjaaDoorW.PrintMore Go.Proofs.YtkcmkoolcakfjaaDoor.Aid
set_option linter.unusedVariables false
set_option linter.unusedSimpArgs false

/-- The package's table 'idle'. -/
structure IdleAt (W : World) : Prop where
  c4 : W.cell? ⟨0, 4, none⟩ = some (.int .i64 1)
  c5 : W.cell? ⟨0, 5, none⟩ = some (.int .i64 0)
theorem IdleAt.below {W W1 : World} (h : IdleAt W) (hb : Below W.heap.size W W1) : IdleAt W1 := ⟨pw_cell_below hb h.c4, pw_cell_below hb h.c5⟩
theorem IdleAt.at {W : World} (h : IdleAt W) {kind : Int} (hk : kind = 4 ∨ kind = 5) : W.cell? ⟨0, kind.toNat, none⟩ = some (.int .i64 (idleF kind)) := by
  rcases hk with rfl | rfl
  · exact h.c4
  · exact h.c5
/-- A tree as a value: what its operands lead to lies in 'ok'. -/
def TreeR (W : World) (ok : Nat → Prop) (T : S24) (u : Value) : Prop := ∃ A c, u = .agg #[.int .i64 T.f0, .int .i64 T.f1, .int .i64 T.f2, .slice A T.f3.length c] ∧ T.f3.length ≤ c ∧ Kd.F k24 W ok A T.f3.length T.f3
theorem results_cell4 {tmps : Array Value} {fn : Func} {t : Tmp} {W : World} {g : Nat} {x0 x1 x2 x3 : Value} (h : fn.results = #[.cell t 24]) (ht : tmps.getD t undef = .pointer (some ⟨g, 0, none⟩)) (hb : W.heap[g]? = some (.cells #[x0, x1, x2, x3] 24 (0, 0))) : (results fn tmps).run Tryd.prog W = .ok (.agg #[x0, x1, x2, x3]) W := by
  have c0 : W.cell? ⟨g, 0, none⟩ = some x0 := (blk_cell hb 0).trans rfl
  have c1 : W.cell? ⟨g, 1, none⟩ = some x1 := (blk_cell hb 1).trans rfl
  have c2 : W.cell? ⟨g, 2, none⟩ = some x2 := (blk_cell hb 2).trans rfl
  have c3 : W.cell? ⟨g, 3, none⟩ = some x3 := (blk_cell hb 3).trans rfl
  exact results_cell_row h _ _ g 24 _ (0, 0) _ ht hb Tryd.underlying24 rfl (by kernel_rfl)
theorem blk_store4 {W : World} {g : Nat} {a b c d x0 x1 x2 x3 : Value} (h : W.heap[g]? = some (.cells #[a, b, c, d] 24 (0, 0))) : ((((W.setCell ⟨g, 0, none⟩ x0).setCell ⟨g, 1, none⟩ x1).setCell ⟨g, 2, none⟩ x2).setCell ⟨g, 3, none⟩ x3).heap[g]? = some (.cells #[x0, x1, x2, x3] 24 (0, 0)) :=
  blk_put (cs := #[x0, x1, x2, d]) (blk_put (cs := #[x0, x1, c, d]) (blk_put (cs := #[x0, b, c, d]) (blk_put (cs := #[a, b, c, d]) h 0 _ rfl) 1 _ rfl) 2 _ rfl) 3 _ rfl
theorem below_store4 {B : Nat} {w W : World} {g : Nat} {x0 x1 x2 x3 : Value} (h : Below B w W) (hg : B ≤ g) : Below B w ((((W.setCell ⟨g, 0, none⟩ x0).setCell ⟨g, 1, none⟩ x1).setCell ⟨g, 2, none⟩ x2).setCell ⟨g, 3, none⟩ x3) := (((h.setCell hg _).setCell hg _).setCell hg _).setCell hg _
/-- A tree's reading where one block is stored into that it doesn't lead to. -/
theorem F_store4 {W : World} {g n : Nat} {ok : Nat → Prop} {A : Option Addr} {xs : List S24} {x0 x1 x2 x3 : Value} (h : Kd.F k24 W ok A n xs) (hg : ∀ k, ok k → k ≠ g) : Kd.F k24 ((((W.setCell ⟨g, 0, none⟩ x0).setCell ⟨g, 1, none⟩ x1).setCell ⟨g, 2, none⟩ x2).setCell ⟨g, 3, none⟩ x3) ok A n xs :=
  Kd.F_far (Kd.F_far (Kd.F_far (Kd.F_far h hg _) hg _) hg _) hg _

set_option maxRecDepth 100000 in
theorem known.calls (k v q : Int) (sl : Value) (w : World) : Calls Tryd.prog 28 #[.agg #[.int .i64 k, .int .i64 v, .int .i64 q, sl]] w fun e w' => e = .returned (.bool (k == 1)) ∧ Below w.heap.size w w' := by
  go_enter Tryd.func28, Tryd.ntmps28
  go_wp2_with fail
  go_ret
  exact ⟨rfl, below_alloc (Below.refl _ _) _⟩
set_option maxRecDepth 100000 in
theorem open.calls (k v q : Int) (sl : Value) (w : World) : Calls Tryd.prog 29 #[.agg #[.int .i64 k, .int .i64 v, .int .i64 q, sl]] w fun e w' => e = .returned (.bool (k != 1)) ∧ Below w.heap.size w w' := by
  go_enter Tryd.func29, Tryd.ntmps29
  go_wp2_with fail
  go_ret
  exact ⟨rfl, below_alloc (Below.refl _ _) _⟩
set_option maxRecDepth 100000 in
theorem made1.calls (k v q : Int) (sl : Value) (w : World) : Calls Tryd.prog 27 #[.agg #[.int .i64 k, .int .i64 v, .int .i64 q, sl]] w fun e w' => e = .returned (.bool (k == 1 && v == 1)) ∧ Below w.heap.size w w' := by
  have hb0 := below_alloc (Below.refl w.heap.size w) (.cells #[.int .i64 k, .int .i64 v, .int .i64 q, sl] 24)
  have hx0 := blk_new w (.cells #[.int .i64 k, .int .i64 v, .int .i64 q, sl] 24)
  have HB0 := Aside0.mk hb0
  have HX0 := Aside0.mk hx0
  clear hb0 hx0
  obtain ⟨b, hb⟩ : ∃ b, (k == 1) = b := ⟨_, rfl⟩
  have HC := Aside0.mk (fun W => known.calls k v q sl W)
  rw [hb] at HC ⊢
  clear hb
  cases b
  all_goals
    go_enter Tryd.func27, Tryd.ntmps27
    go_wp2_with (go_at_call 28; refine (HC.out _).mono ?_; rintro e w2 ⟨rfl, hb⟩; have HB2 := Aside0.mk (below_step HB0.out hb); have z1 : w2.cell? ⟨w.heap.size, 1, none⟩ = some (.int .i64 v) := (blk_cell (blk_below HX0.out hb) 1).trans rfl; clear hb)
    go_ret
    exact ⟨by simp, HB2.out⟩
set_option maxRecDepth 100000 in
theorem constant.calls (v : Int) (w : World) : Calls Tryd.prog 24 #[.int .i64 v] w fun e w' => e = .returned (.agg #[.int .i64 1, .int .i64 v, .int .i64 0, .slice none 0 0]) ∧ Below w.heap.size w w' := by
  go_enter Tryd.func24, Tryd.ntmps24
  go_wp2_with fail
  refine bodyPost_ret (results_cell4 rfl rfl (blk_new w _)) rfl ?_
  exact ⟨rfl, below_alloc (Below.refl _ _) _⟩
set_option maxRecDepth 100000 in
set_option maxHeartbeats 1000000 in
theorem join1.calls (kind : Int) (hk : kind = 4 ∨ kind = 5) (b : Nat) (k v q : Int) (sl : Value) (w : World) (hb : w.heap[b]? = some (.cells #[.int .i64 kind] 3 (0, 0))) (hI : IdleAt w) : Calls Tryd.prog 41 #[.agg #[.int .i64 k, .int .i64 v, .int .i64 q, sl], .pointer (some ⟨b, 0, none⟩)] w fun e w' => e = .returned (.bool (k == 1 && v != idleF kind)) ∧ Below w.heap.size w w' := by
  have hb0 := below_alloc (Below.refl w.heap.size w) (.cells #[.int .i64 k, .int .i64 v, .int .i64 q, sl] 24)
  have hx0 := blk_new w (.cells #[.int .i64 k, .int .i64 v, .int .i64 q, sl] 24)
  have HB0 := Aside0.mk hb0
  have HX0 := Aside0.mk hx0
  have HBK := Aside0.mk (blk_below hb hb0)
  have HI0 := Aside0.mk (hI.below hb0)
  clear hb0 hx0 hb hI
  obtain ⟨o, ho⟩ : ∃ o, (k == 1) = o := ⟨_, rfl⟩
  have HC := Aside0.mk (fun W => known.calls k v q sl W)
  rw [ho] at HC ⊢
  clear ho
  rcases hk with rfl | rfl
  · have HO := Aside0.mk (show idleF 4 = 1 from rfl)
    cases o
    · go_enter Tryd.func41, Tryd.ntmps41
      go_wp2_with fail
      refine start_ (n := 11) (S := fun V => V.heap[w.heap.size]? = some (.cells #[.int .i64 k, .int .i64 v, .int .i64 q, sl] 24 (0, 0)) ∧ V.heap[b]? = some (.cells #[.int .i64 4] 3 (0, 0)) ∧ IdleAt V) (ds := []) #[false, false, false, false, false, false, false, false, false, false, false] (by kernel_rfl) rfl rfl ⟨HX0.out, HBK.out, ⟨HI0.out.c4, HI0.out.c5⟩⟩ (fun hHeld => ?_)
      generalize hW0 : (w.alloc (.cells #[.int .i64 k, .int .i64 v, .int .i64 q, sl] 24)).drew = W0 at hHeld ⊢
      have HW0 := Aside0.mk (show Below w.heap.size w W0 by rw [← hW0]; exact below_step HB0.out (below_drew (Below.refl _ _)))
      clear hW0
      refine take_ (i := 0) (N := some 4) (v := ?_) (a' := ?_) #[true, false, false, false, false, false, false, false, false, false, false] rfl rfl (by kernel_rfl) (fun _ _ _ h => h) (Or.inl ⟨by rfl, ?_⟩) hHeld ?_ ?_
      rotate_left
      · rintro w' ⟨hw0, hw1, hw2⟩
        have hc0 := blk_cell hw0 0; have hc1 := blk_cell hw0 1; have hc2 := blk_cell hw0 2; have hc3 := blk_cell hw0 3
        go_simp
        with_reducible rfl
      rotate_left
      · simp only [Act.put, List.setIfInBounds_toArray, List.set_cons_zero, List.set_cons_succ, i64_w, i32_w]
        rfl
      refine one_ (i := 1) (N := some 5) #[true, true, false, false, false, false, false, false, false, false, false] rfl rfl (by kernel_rfl) (by decide) (fun K hK => ?_)
      refine goes_ Tryd.func28 (by kernel_rfl) rfl #[.agg #[.int .i64 k, .int .i64 v, .int .i64 q, sl]] (by rfl) rfl rfl (by simp only [List.map_toArray, List.map_cons, List.map_nil]; rfl) ?_
      refine (HC.out _).mono ?_
      rintro e W1 ⟨rfl, hb⟩
      refine ⟨_, rfl, ?_⟩
      have HB1 := Aside0.mk (below_step HW0.out hb)
      refine hK.out _ _ ⟨blk_below hHeld.1 hb, blk_below hHeld.2.1 hb, hHeld.2.2.below hb⟩ (fun hHeld => ?_)
      clear hK K hb
      refine norm_ (a' := ?_) ?_ ?_
      rotate_left
      · show Act.put _ (some 5) _ = _
        simp only [Act.put, List.setIfInBounds_toArray, List.set_cons_zero, List.set_cons_succ, i64_w, i32_w]
        rfl
      refine pure_ (i := 2) (N := some 6) (v := ?_) (a' := ?_) #[true, true, true, false, false, false, false, false, false, false, false] rfl rfl (by kernel_rfl) (fun _ _ _ h => h) (Or.inl ⟨by rfl, ?_⟩) ?_ ?_
      rotate_left
      · intro w'
        go_simp
        with_reducible rfl
      rotate_left
      · simp only [Act.put, List.setIfInBounds_toArray, List.set_cons_zero, List.set_cons_succ, i64_w, i32_w]
        rfl
      refine pure_ (i := 3) (N := some 7) (v := undef) (a' := ?_) #[true, true, true, true, false, false, false, false, false, false, false] rfl rfl (by kernel_rfl) (fun _ _ _ h => h) (Or.inr ⟨by rfl, rfl⟩) ?_ ?_
      rotate_left
      · simp only [Act.put, List.setIfInBounds_toArray, List.set_cons_zero, List.set_cons_succ, i64_w, i32_w]
        rfl
      refine pure_ (i := 4) (N := some 8) (v := undef) (a' := ?_) #[true, true, true, true, true, false, false, false, false, false, false] rfl rfl (by kernel_rfl) (fun _ _ _ h => h) (Or.inr ⟨by rfl, rfl⟩) ?_ ?_
      rotate_left
      · simp only [Act.put, List.setIfInBounds_toArray, List.set_cons_zero, List.set_cons_succ, i64_w, i32_w]
        rfl
      refine pure_ (i := 5) (N := some 9) (v := undef) (a' := ?_) #[true, true, true, true, true, true, false, false, false, false, false] rfl rfl (by kernel_rfl) (fun _ _ _ h => h) (Or.inr ⟨by rfl, rfl⟩) ?_ ?_
      rotate_left
      · simp only [Act.put, List.setIfInBounds_toArray, List.set_cons_zero, List.set_cons_succ, i64_w, i32_w]
        rfl
      refine pure_ (i := 6) (N := some 10) (v := undef) (a' := ?_) #[true, true, true, true, true, true, true, false, false, false, false] rfl rfl (by kernel_rfl) (fun _ _ _ h => h) (Or.inr ⟨by rfl, rfl⟩) ?_ ?_
      rotate_left
      · simp only [Act.put, List.setIfInBounds_toArray, List.set_cons_zero, List.set_cons_succ, i64_w, i32_w]
        rfl
      refine pure_ (i := 7) (N := some 11) (v := undef) (a' := ?_) #[true, true, true, true, true, true, true, true, false, false, false] rfl rfl (by kernel_rfl) (fun _ _ _ h => h) (Or.inr ⟨by rfl, rfl⟩) ?_ ?_
      rotate_left
      · simp only [Act.put, List.setIfInBounds_toArray, List.set_cons_zero, List.set_cons_succ, i64_w, i32_w]
        rfl
      refine pure_ (i := 8) (N := some 12) (v := undef) (a' := ?_) #[true, true, true, true, true, true, true, true, true, false, false] rfl rfl (by kernel_rfl) (fun _ _ _ h => h) (Or.inr ⟨by rfl, rfl⟩) ?_ ?_
      rotate_left
      · simp only [Act.put, List.setIfInBounds_toArray, List.set_cons_zero, List.set_cons_succ, i64_w, i32_w]
        rfl
      refine pure_ (i := 9) (N := some 13) (v := ?_) (a' := ?_) #[true, true, true, true, true, true, true, true, true, true, false] rfl rfl (by kernel_rfl) (fun _ _ _ h => h) (Or.inl ⟨by rfl, ?_⟩) ?_ ?_
      rotate_left
      · intro w'
        go_simp
        with_reducible rfl
      rotate_left
      · simp only [Act.put, List.setIfInBounds_toArray, List.set_cons_zero, List.set_cons_succ, i64_w, i32_w]
        rfl
      refine pure_ (i := 10) (N := some 3) (v := ?_) (a' := ?_) #[true, true, true, true, true, true, true, true, true, true, true] rfl rfl (by kernel_rfl) (fun _ _ _ h => h) (Or.inl ⟨by rfl, ?_⟩) ?_ ?_
      rotate_left
      · intro w'
        go_simp
        with_reducible rfl
      rotate_left
      · simp only [Act.put, List.setIfInBounds_toArray, List.set_cons_zero, List.set_cons_succ, i64_w, i32_w]
        rfl
      refine done_ (by kernel_rfl) ?_
      go_wp2_with fail
      go_ret
      exact ⟨by simp, HB1.out⟩
    · go_enter Tryd.func41, Tryd.ntmps41
      go_wp2_with fail
      refine start_ (n := 11) (S := fun V => V.heap[w.heap.size]? = some (.cells #[.int .i64 k, .int .i64 v, .int .i64 q, sl] 24 (0, 0)) ∧ V.heap[b]? = some (.cells #[.int .i64 4] 3 (0, 0)) ∧ IdleAt V) (ds := []) #[false, false, false, false, false, false, false, false, false, false, false] (by kernel_rfl) rfl rfl ⟨HX0.out, HBK.out, ⟨HI0.out.c4, HI0.out.c5⟩⟩ (fun hHeld => ?_)
      generalize hW0 : (w.alloc (.cells #[.int .i64 k, .int .i64 v, .int .i64 q, sl] 24)).drew = W0 at hHeld ⊢
      have HW0 := Aside0.mk (show Below w.heap.size w W0 by rw [← hW0]; exact below_step HB0.out (below_drew (Below.refl _ _)))
      clear hW0
      refine take_ (i := 0) (N := some 4) (v := ?_) (a' := ?_) #[true, false, false, false, false, false, false, false, false, false, false] rfl rfl (by kernel_rfl) (fun _ _ _ h => h) (Or.inl ⟨by rfl, ?_⟩) hHeld ?_ ?_
      rotate_left
      · rintro w' ⟨hw0, hw1, hw2⟩
        have hc0 := blk_cell hw0 0; have hc1 := blk_cell hw0 1; have hc2 := blk_cell hw0 2; have hc3 := blk_cell hw0 3
        go_simp
        with_reducible rfl
      rotate_left
      · simp only [Act.put, List.setIfInBounds_toArray, List.set_cons_zero, List.set_cons_succ, i64_w, i32_w]
        rfl
      refine one_ (i := 1) (N := some 5) #[true, true, false, false, false, false, false, false, false, false, false] rfl rfl (by kernel_rfl) (by decide) (fun K hK => ?_)
      refine goes_ Tryd.func28 (by kernel_rfl) rfl #[.agg #[.int .i64 k, .int .i64 v, .int .i64 q, sl]] (by rfl) rfl rfl (by simp only [List.map_toArray, List.map_cons, List.map_nil]; rfl) ?_
      refine (HC.out _).mono ?_
      rintro e W1 ⟨rfl, hb⟩
      refine ⟨_, rfl, ?_⟩
      have HB1 := Aside0.mk (below_step HW0.out hb)
      refine hK.out _ _ ⟨blk_below hHeld.1 hb, blk_below hHeld.2.1 hb, hHeld.2.2.below hb⟩ (fun hHeld => ?_)
      clear hK K hb
      refine norm_ (a' := ?_) ?_ ?_
      rotate_left
      · show Act.put _ (some 5) _ = _
        simp only [Act.put, List.setIfInBounds_toArray, List.set_cons_zero, List.set_cons_succ, i64_w, i32_w]
        rfl
      refine pure_ (i := 2) (N := some 6) (v := ?_) (a' := ?_) #[true, true, true, false, false, false, false, false, false, false, false] rfl rfl (by kernel_rfl) (fun _ _ _ h => h) (Or.inl ⟨by rfl, ?_⟩) ?_ ?_
      rotate_left
      · intro w'
        go_simp
        with_reducible rfl
      rotate_left
      · simp only [Act.put, List.setIfInBounds_toArray, List.set_cons_zero, List.set_cons_succ, i64_w, i32_w]
        rfl
      refine pure_ (i := 3) (N := some 7) (v := ?_) (a' := ?_) #[true, true, true, true, false, false, false, false, false, false, false] rfl rfl (by kernel_rfl) (fun _ _ _ h => h) (Or.inl ⟨by rfl, ?_⟩) ?_ ?_
      rotate_left
      · intro w'
        go_simp
        with_reducible rfl
      rotate_left
      · simp only [Act.put, List.setIfInBounds_toArray, List.set_cons_zero, List.set_cons_succ, i64_w, i32_w]
        rfl
      refine take_ (i := 4) (N := some 8) (v := ?_) (a' := ?_) #[true, true, true, true, true, false, false, false, false, false, false] rfl rfl (by kernel_rfl) (fun _ _ _ h => h) (Or.inl ⟨by rfl, ?_⟩) hHeld ?_ ?_
      rotate_left
      · rintro w' ⟨hw0, hw1, hw2⟩
        have hc0 := blk_cell hw0 1
        go_simp
        with_reducible rfl
      rotate_left
      · simp only [Act.put, List.setIfInBounds_toArray, List.set_cons_zero, List.set_cons_succ, i64_w, i32_w]
        rfl
      refine take_ (i := 5) (N := some 9) (v := ?_) (a' := ?_) #[true, true, true, true, true, true, false, false, false, false, false] rfl rfl (by kernel_rfl) (fun _ _ _ h => h) (Or.inl ⟨by rfl, ?_⟩) hHeld ?_ ?_
      rotate_left
      · rintro w' ⟨hw0, hw1, hw2⟩
        have hc0 := blk_cell hw1 0
        go_simp
        with_reducible rfl
      rotate_left
      · simp only [Act.put, List.setIfInBounds_toArray, List.set_cons_zero, List.set_cons_succ, i64_w, i32_w]
        rfl
      refine pure_ (i := 6) (N := some 10) (v := ?_) (a' := ?_) #[true, true, true, true, true, true, true, false, false, false, false] rfl rfl (by kernel_rfl) (fun _ _ _ h => h) (Or.inl ⟨by rfl, ?_⟩) ?_ ?_
      rotate_left
      · intro w'
        go_simp
        with_reducible rfl
      rotate_left
      · simp only [Act.put, List.setIfInBounds_toArray, List.set_cons_zero, List.set_cons_succ, i64_w, i32_w]
        rfl
      refine take_ (i := 7) (N := some 11) (v := ?_) (a' := ?_) #[true, true, true, true, true, true, true, true, false, false, false] rfl rfl (by kernel_rfl) (fun _ _ _ h => h) (Or.inl ⟨by rfl, ?_⟩) hHeld ?_ ?_
      rotate_left
      · rintro w' ⟨hw0, hw1, hw2⟩
        have hc0 := hw2.c4
        go_simp
        with_reducible rfl
      rotate_left
      · simp only [Act.put, List.setIfInBounds_toArray, List.set_cons_zero, List.set_cons_succ, i64_w, i32_w]
        rfl
      refine pure_ (i := 8) (N := some 12) (v := ?_) (a' := ?_) #[true, true, true, true, true, true, true, true, true, false, false] rfl rfl (by kernel_rfl) (fun _ _ _ h => h) (Or.inl ⟨by rfl, ?_⟩) ?_ ?_
      rotate_left
      · intro w'
        go_simp
        rfl
      rotate_left
      · simp only [Act.put, List.setIfInBounds_toArray, List.set_cons_zero, List.set_cons_succ, i64_w, i32_w]
        rfl
      refine pure_ (i := 9) (N := some 13) (v := ?_) (a' := ?_) #[true, true, true, true, true, true, true, true, true, true, false] rfl rfl (by kernel_rfl) (fun _ _ _ h => h) (Or.inl ⟨by rfl, ?_⟩) ?_ ?_
      rotate_left
      · intro w'
        go_simp
        with_reducible rfl
      rotate_left
      · simp only [Act.put, List.setIfInBounds_toArray, List.set_cons_zero, List.set_cons_succ, i64_w, i32_w]
        rfl
      refine pure_ (i := 10) (N := some 3) (v := ?_) (a' := ?_) #[true, true, true, true, true, true, true, true, true, true, true] rfl rfl (by kernel_rfl) (fun _ _ _ h => h) (Or.inl ⟨by rfl, ?_⟩) ?_ ?_
      rotate_left
      · intro w'
        go_simp
        with_reducible rfl
      rotate_left
      · simp only [Act.put, List.setIfInBounds_toArray, List.set_cons_zero, List.set_cons_succ, i64_w, i32_w]
        rfl
      refine done_ (by kernel_rfl) ?_
      go_wp2_with fail
      go_ret
      exact ⟨by rw [HO.out]; first | rfl | simp, HB1.out⟩
  · have HO := Aside0.mk (show idleF 5 = 0 from rfl)
    cases o
    · go_enter Tryd.func41, Tryd.ntmps41
      go_wp2_with fail
      refine start_ (n := 11) (S := fun V => V.heap[w.heap.size]? = some (.cells #[.int .i64 k, .int .i64 v, .int .i64 q, sl] 24 (0, 0)) ∧ V.heap[b]? = some (.cells #[.int .i64 5] 3 (0, 0)) ∧ IdleAt V) (ds := []) #[false, false, false, false, false, false, false, false, false, false, false] (by kernel_rfl) rfl rfl ⟨HX0.out, HBK.out, ⟨HI0.out.c4, HI0.out.c5⟩⟩ (fun hHeld => ?_)
      generalize hW0 : (w.alloc (.cells #[.int .i64 k, .int .i64 v, .int .i64 q, sl] 24)).drew = W0 at hHeld ⊢
      have HW0 := Aside0.mk (show Below w.heap.size w W0 by rw [← hW0]; exact below_step HB0.out (below_drew (Below.refl _ _)))
      clear hW0
      refine take_ (i := 0) (N := some 4) (v := ?_) (a' := ?_) #[true, false, false, false, false, false, false, false, false, false, false] rfl rfl (by kernel_rfl) (fun _ _ _ h => h) (Or.inl ⟨by rfl, ?_⟩) hHeld ?_ ?_
      rotate_left
      · rintro w' ⟨hw0, hw1, hw2⟩
        have hc0 := blk_cell hw0 0; have hc1 := blk_cell hw0 1; have hc2 := blk_cell hw0 2; have hc3 := blk_cell hw0 3
        go_simp
        with_reducible rfl
      rotate_left
      · simp only [Act.put, List.setIfInBounds_toArray, List.set_cons_zero, List.set_cons_succ, i64_w, i32_w]
        rfl
      refine one_ (i := 1) (N := some 5) #[true, true, false, false, false, false, false, false, false, false, false] rfl rfl (by kernel_rfl) (by decide) (fun K hK => ?_)
      refine goes_ Tryd.func28 (by kernel_rfl) rfl #[.agg #[.int .i64 k, .int .i64 v, .int .i64 q, sl]] (by rfl) rfl rfl (by simp only [List.map_toArray, List.map_cons, List.map_nil]; rfl) ?_
      refine (HC.out _).mono ?_
      rintro e W1 ⟨rfl, hb⟩
      refine ⟨_, rfl, ?_⟩
      have HB1 := Aside0.mk (below_step HW0.out hb)
      refine hK.out _ _ ⟨blk_below hHeld.1 hb, blk_below hHeld.2.1 hb, hHeld.2.2.below hb⟩ (fun hHeld => ?_)
      clear hK K hb
      refine norm_ (a' := ?_) ?_ ?_
      rotate_left
      · show Act.put _ (some 5) _ = _
        simp only [Act.put, List.setIfInBounds_toArray, List.set_cons_zero, List.set_cons_succ, i64_w, i32_w]
        rfl
      refine pure_ (i := 2) (N := some 6) (v := ?_) (a' := ?_) #[true, true, true, false, false, false, false, false, false, false, false] rfl rfl (by kernel_rfl) (fun _ _ _ h => h) (Or.inl ⟨by rfl, ?_⟩) ?_ ?_
      rotate_left
      · intro w'
        go_simp
        with_reducible rfl
      rotate_left
      · simp only [Act.put, List.setIfInBounds_toArray, List.set_cons_zero, List.set_cons_succ, i64_w, i32_w]
        rfl
      refine pure_ (i := 3) (N := some 7) (v := undef) (a' := ?_) #[true, true, true, true, false, false, false, false, false, false, false] rfl rfl (by kernel_rfl) (fun _ _ _ h => h) (Or.inr ⟨by rfl, rfl⟩) ?_ ?_
      rotate_left
      · simp only [Act.put, List.setIfInBounds_toArray, List.set_cons_zero, List.set_cons_succ, i64_w, i32_w]
        rfl
      refine pure_ (i := 4) (N := some 8) (v := undef) (a' := ?_) #[true, true, true, true, true, false, false, false, false, false, false] rfl rfl (by kernel_rfl) (fun _ _ _ h => h) (Or.inr ⟨by rfl, rfl⟩) ?_ ?_
      rotate_left
      · simp only [Act.put, List.setIfInBounds_toArray, List.set_cons_zero, List.set_cons_succ, i64_w, i32_w]
        rfl
      refine pure_ (i := 5) (N := some 9) (v := undef) (a' := ?_) #[true, true, true, true, true, true, false, false, false, false, false] rfl rfl (by kernel_rfl) (fun _ _ _ h => h) (Or.inr ⟨by rfl, rfl⟩) ?_ ?_
      rotate_left
      · simp only [Act.put, List.setIfInBounds_toArray, List.set_cons_zero, List.set_cons_succ, i64_w, i32_w]
        rfl
      refine pure_ (i := 6) (N := some 10) (v := undef) (a' := ?_) #[true, true, true, true, true, true, true, false, false, false, false] rfl rfl (by kernel_rfl) (fun _ _ _ h => h) (Or.inr ⟨by rfl, rfl⟩) ?_ ?_
      rotate_left
      · simp only [Act.put, List.setIfInBounds_toArray, List.set_cons_zero, List.set_cons_succ, i64_w, i32_w]
        rfl
      refine pure_ (i := 7) (N := some 11) (v := undef) (a' := ?_) #[true, true, true, true, true, true, true, true, false, false, false] rfl rfl (by kernel_rfl) (fun _ _ _ h => h) (Or.inr ⟨by rfl, rfl⟩) ?_ ?_
      rotate_left
      · simp only [Act.put, List.setIfInBounds_toArray, List.set_cons_zero, List.set_cons_succ, i64_w, i32_w]
        rfl
      refine pure_ (i := 8) (N := some 12) (v := undef) (a' := ?_) #[true, true, true, true, true, true, true, true, true, false, false] rfl rfl (by kernel_rfl) (fun _ _ _ h => h) (Or.inr ⟨by rfl, rfl⟩) ?_ ?_
      rotate_left
      · simp only [Act.put, List.setIfInBounds_toArray, List.set_cons_zero, List.set_cons_succ, i64_w, i32_w]
        rfl
      refine pure_ (i := 9) (N := some 13) (v := ?_) (a' := ?_) #[true, true, true, true, true, true, true, true, true, true, false] rfl rfl (by kernel_rfl) (fun _ _ _ h => h) (Or.inl ⟨by rfl, ?_⟩) ?_ ?_
      rotate_left
      · intro w'
        go_simp
        with_reducible rfl
      rotate_left
      · simp only [Act.put, List.setIfInBounds_toArray, List.set_cons_zero, List.set_cons_succ, i64_w, i32_w]
        rfl
      refine pure_ (i := 10) (N := some 3) (v := ?_) (a' := ?_) #[true, true, true, true, true, true, true, true, true, true, true] rfl rfl (by kernel_rfl) (fun _ _ _ h => h) (Or.inl ⟨by rfl, ?_⟩) ?_ ?_
      rotate_left
      · intro w'
        go_simp
        with_reducible rfl
      rotate_left
      · simp only [Act.put, List.setIfInBounds_toArray, List.set_cons_zero, List.set_cons_succ, i64_w, i32_w]
        rfl
      refine done_ (by kernel_rfl) ?_
      go_wp2_with fail
      go_ret
      exact ⟨by simp, HB1.out⟩
    · go_enter Tryd.func41, Tryd.ntmps41
      go_wp2_with fail
      refine start_ (n := 11) (S := fun V => V.heap[w.heap.size]? = some (.cells #[.int .i64 k, .int .i64 v, .int .i64 q, sl] 24 (0, 0)) ∧ V.heap[b]? = some (.cells #[.int .i64 5] 3 (0, 0)) ∧ IdleAt V) (ds := []) #[false, false, false, false, false, false, false, false, false, false, false] (by kernel_rfl) rfl rfl ⟨HX0.out, HBK.out, ⟨HI0.out.c4, HI0.out.c5⟩⟩ (fun hHeld => ?_)
      generalize hW0 : (w.alloc (.cells #[.int .i64 k, .int .i64 v, .int .i64 q, sl] 24)).drew = W0 at hHeld ⊢
      have HW0 := Aside0.mk (show Below w.heap.size w W0 by rw [← hW0]; exact below_step HB0.out (below_drew (Below.refl _ _)))
      clear hW0
      refine take_ (i := 0) (N := some 4) (v := ?_) (a' := ?_) #[true, false, false, false, false, false, false, false, false, false, false] rfl rfl (by kernel_rfl) (fun _ _ _ h => h) (Or.inl ⟨by rfl, ?_⟩) hHeld ?_ ?_
      rotate_left
      · rintro w' ⟨hw0, hw1, hw2⟩
        have hc0 := blk_cell hw0 0; have hc1 := blk_cell hw0 1; have hc2 := blk_cell hw0 2; have hc3 := blk_cell hw0 3
        go_simp
        with_reducible rfl
      rotate_left
      · simp only [Act.put, List.setIfInBounds_toArray, List.set_cons_zero, List.set_cons_succ, i64_w, i32_w]
        rfl
      refine one_ (i := 1) (N := some 5) #[true, true, false, false, false, false, false, false, false, false, false] rfl rfl (by kernel_rfl) (by decide) (fun K hK => ?_)
      refine goes_ Tryd.func28 (by kernel_rfl) rfl #[.agg #[.int .i64 k, .int .i64 v, .int .i64 q, sl]] (by rfl) rfl rfl (by simp only [List.map_toArray, List.map_cons, List.map_nil]; rfl) ?_
      refine (HC.out _).mono ?_
      rintro e W1 ⟨rfl, hb⟩
      refine ⟨_, rfl, ?_⟩
      have HB1 := Aside0.mk (below_step HW0.out hb)
      refine hK.out _ _ ⟨blk_below hHeld.1 hb, blk_below hHeld.2.1 hb, hHeld.2.2.below hb⟩ (fun hHeld => ?_)
      clear hK K hb
      refine norm_ (a' := ?_) ?_ ?_
      rotate_left
      · show Act.put _ (some 5) _ = _
        simp only [Act.put, List.setIfInBounds_toArray, List.set_cons_zero, List.set_cons_succ, i64_w, i32_w]
        rfl
      refine pure_ (i := 2) (N := some 6) (v := ?_) (a' := ?_) #[true, true, true, false, false, false, false, false, false, false, false] rfl rfl (by kernel_rfl) (fun _ _ _ h => h) (Or.inl ⟨by rfl, ?_⟩) ?_ ?_
      rotate_left
      · intro w'
        go_simp
        with_reducible rfl
      rotate_left
      · simp only [Act.put, List.setIfInBounds_toArray, List.set_cons_zero, List.set_cons_succ, i64_w, i32_w]
        rfl
      refine pure_ (i := 3) (N := some 7) (v := ?_) (a' := ?_) #[true, true, true, true, false, false, false, false, false, false, false] rfl rfl (by kernel_rfl) (fun _ _ _ h => h) (Or.inl ⟨by rfl, ?_⟩) ?_ ?_
      rotate_left
      · intro w'
        go_simp
        with_reducible rfl
      rotate_left
      · simp only [Act.put, List.setIfInBounds_toArray, List.set_cons_zero, List.set_cons_succ, i64_w, i32_w]
        rfl
      refine take_ (i := 4) (N := some 8) (v := ?_) (a' := ?_) #[true, true, true, true, true, false, false, false, false, false, false] rfl rfl (by kernel_rfl) (fun _ _ _ h => h) (Or.inl ⟨by rfl, ?_⟩) hHeld ?_ ?_
      rotate_left
      · rintro w' ⟨hw0, hw1, hw2⟩
        have hc0 := blk_cell hw0 1
        go_simp
        with_reducible rfl
      rotate_left
      · simp only [Act.put, List.setIfInBounds_toArray, List.set_cons_zero, List.set_cons_succ, i64_w, i32_w]
        rfl
      refine take_ (i := 5) (N := some 9) (v := ?_) (a' := ?_) #[true, true, true, true, true, true, false, false, false, false, false] rfl rfl (by kernel_rfl) (fun _ _ _ h => h) (Or.inl ⟨by rfl, ?_⟩) hHeld ?_ ?_
      rotate_left
      · rintro w' ⟨hw0, hw1, hw2⟩
        have hc0 := blk_cell hw1 0
        go_simp
        with_reducible rfl
      rotate_left
      · simp only [Act.put, List.setIfInBounds_toArray, List.set_cons_zero, List.set_cons_succ, i64_w, i32_w]
        rfl
      refine pure_ (i := 6) (N := some 10) (v := ?_) (a' := ?_) #[true, true, true, true, true, true, true, false, false, false, false] rfl rfl (by kernel_rfl) (fun _ _ _ h => h) (Or.inl ⟨by rfl, ?_⟩) ?_ ?_
      rotate_left
      · intro w'
        go_simp
        with_reducible rfl
      rotate_left
      · simp only [Act.put, List.setIfInBounds_toArray, List.set_cons_zero, List.set_cons_succ, i64_w, i32_w]
        rfl
      refine take_ (i := 7) (N := some 11) (v := ?_) (a' := ?_) #[true, true, true, true, true, true, true, true, false, false, false] rfl rfl (by kernel_rfl) (fun _ _ _ h => h) (Or.inl ⟨by rfl, ?_⟩) hHeld ?_ ?_
      rotate_left
      · rintro w' ⟨hw0, hw1, hw2⟩
        have hc0 := hw2.c5
        go_simp
        with_reducible rfl
      rotate_left
      · simp only [Act.put, List.setIfInBounds_toArray, List.set_cons_zero, List.set_cons_succ, i64_w, i32_w]
        rfl
      refine pure_ (i := 8) (N := some 12) (v := ?_) (a' := ?_) #[true, true, true, true, true, true, true, true, true, false, false] rfl rfl (by kernel_rfl) (fun _ _ _ h => h) (Or.inl ⟨by rfl, ?_⟩) ?_ ?_
      rotate_left
      · intro w'
        go_simp
        rfl
      rotate_left
      · simp only [Act.put, List.setIfInBounds_toArray, List.set_cons_zero, List.set_cons_succ, i64_w, i32_w]
        rfl
      refine pure_ (i := 9) (N := some 13) (v := ?_) (a' := ?_) #[true, true, true, true, true, true, true, true, true, true, false] rfl rfl (by kernel_rfl) (fun _ _ _ h => h) (Or.inl ⟨by rfl, ?_⟩) ?_ ?_
      rotate_left
      · intro w'
        go_simp
        with_reducible rfl
      rotate_left
      · simp only [Act.put, List.setIfInBounds_toArray, List.set_cons_zero, List.set_cons_succ, i64_w, i32_w]
        rfl
      refine pure_ (i := 10) (N := some 3) (v := ?_) (a' := ?_) #[true, true, true, true, true, true, true, true, true, true, true] rfl rfl (by kernel_rfl) (fun _ _ _ h => h) (Or.inl ⟨by rfl, ?_⟩) ?_ ?_
      rotate_left
      · intro w'
        go_simp
        with_reducible rfl
      rotate_left
      · simp only [Act.put, List.setIfInBounds_toArray, List.set_cons_zero, List.set_cons_succ, i64_w, i32_w]
        rfl
      refine done_ (by kernel_rfl) ?_
      go_wp2_with fail
      go_ret
      exact ⟨by rw [HO.out]; first | rfl | simp, HB1.out⟩
set_option maxRecDepth 100000 in
set_option maxHeartbeats 2000000 in
/-- flat.kept where the operands are read apart from what is kept. -/
theorem keptF.calls (fid : Nat) (cap : Array Value) (p : S24 → Bool) (A : Option Addr) (c : Nat) (ts : List S24) (okin : Nat → Prop) (w : World) (hF : Kd.F k24 w okin A ts.length ts) (hl : ts.length ≤ 1048576)
    (hent : ∀ args w, (callFunc fid args).run Tryd.prog w = .ok (.enter fid args) w)
    (hp : ∀ x : S24, ∀ A c W, Below w.heap.size w W → Calls Tryd.prog fid (#[.agg #[.int .i64 x.f0, .int .i64 x.f1, .int .i64 x.f2, .slice A x.f3.length c]] ++ cap) W fun e w' => e = .returned (.bool (p x)) ∧ Below W.heap.size W w') :
    Calls Tryd.prog 26 #[.slice A ts.length c, .func (.func fid) #[] cap] w fun e w' => ∃ v, e = .returned v ∧ Kd.N k24 24 w' w.heap.size (fun k => okin k ∨ w.heap.size ≤ k) v (ts.filter p) ∧ Below w.heap.size w w' := by
  have hFb := Kd.F_bound hF
  have HF := Aside0.mk hFb
  have HENT := Aside0.mk hent
  have HP := Aside0.mk hp
  clear hF hFb hent hp
  go_enter Tryd.func26, Tryd.ntmps26
  go_wp2_with fail
  go_loopw [4, 9] (fun v4 v9 wr => ∃ i : Nat, i ≤ ts.length ∧ v9 = .int .i64 i ∧ Aside0 (Kd.N k24 24 wr w.heap.size (fun k => okin k ∨ w.heap.size ≤ k) v4 ((ts.take i).filter p)) ∧ Aside0 (Below w.heap.size w wr)) (fun _ v9 _ => (ts.length - intOf v9).toNat)
  case atStart => exact ⟨0, by omega, rfl, ⟨by rw [List.take_zero]; exact Kd.N_nil _ _ _ _ _⟩, ⟨Below.refl _ _⟩⟩
  case round =>
    obtain ⟨i, hi1, rfl, HN, HB⟩ := hrel
    by_cases hlt : i < ts.length
    · obtain ⟨ad, cs, hA, hcl, hFK, hcc, _⟩ := Kd.F_get (Kd.F_below HF.out HB.out) z24 i (by omega) (by omega)
      obtain ⟨A3, c3, hcs, hl3, hF3⟩ := k24_openF hFK
      subst hA hcs
      have hgd : ts.getD (i : Int).toNat z24 = rd_T24 ts i := rfl
      rw [hgd] at hcc hFK hl3 hF3
      have hs4 : k24.sz = 4 := rfl
      have x0 := hcc 0 _ rfl
      have x1 := hcc 1 _ rfl
      have x2 := hcc 2 _ rfl
      have x3 := hcc 3 _ rfl
      rw [hs4] at x0 x1 x2 x3
      rw [add_field ad _ 1 (by omega)] at x1
      rw [add_field ad _ 2 (by omega)] at x2
      rw [add_field ad _ 3 (by omega)] at x3
      simp only [Int.toNat_natCast, Nat.add_zero] at x0 x1 x2 x3
      have HBX := Aside0.mk (blk_new wr (.cells #[.int .i64 (rd_T24 ts i).f0, .int .i64 (rd_T24 ts i).f1, .int .i64 (rd_T24 ts i).f2, .slice A3 (rd_T24 ts i).f3.length c3] 24))
      have HB1 := Aside0.mk (below_alloc HB.out (.cells #[.int .i64 (rd_T24 ts i).f0, .int .i64 (rd_T24 ts i).f1, .int .i64 (rd_T24 ts i).f2, .slice A3 (rd_T24 ts i).f3.length c3] 24))
      have HCALL := Aside0.mk (HP.out (rd_T24 ts i) A3 c3 _ HB1.out)
      have HS := Aside0.mk (take_filter_snoc (p := p) hlt)
      have HFK := Aside0.mk hFK
      have hent' := HENT.out
      clear hcc hFK hF3 hs4 hgd
      go_wp2_with fail
      clear x0 x1 x2 x3 HENT hent'
      obtain ⟨o, ho⟩ : ∃ o, p (rd_T24 ts i) = o := ⟨_, rfl⟩
      rw [ho] at HCALL HS
      refine HCALL.out.mono ?_
      rintro e w2 ⟨rfl, hb⟩
      have HB2 := Aside0.mk (below_step HB1.out hb)
      have HBX2 := Aside0.mk (blk_below HBX.out hb)
      have HN2 := Aside0.mk (Kd.N_below HN.out (below_step (below_alloc (Below.refl wr.heap.size wr) _) hb))
      have HFK2 := Aside0.mk (Kd.FK_below HFK.out (below_step (below_alloc (Below.refl wr.heap.size wr) _) hb))
      clear hb HCALL HBX HN HB1 ho HFK
      cases o
      · go_wp2_with fail
        go_roundw
        case rel => exact ⟨i + 1, by omega, by go_num, ⟨by rw [HS.out]; simpa using HN2.out⟩, HB2⟩
        case measure => simp [intOf]; omega
      · have y0 : w2.cell? ⟨wr.heap.size, 0, none⟩ = some (.int .i64 (rd_T24 ts i).f0) := (blk_cell HBX2.out 0).trans rfl
        have y1 : w2.cell? ⟨wr.heap.size, 1, none⟩ = some (.int .i64 (rd_T24 ts i).f1) := (blk_cell HBX2.out 1).trans rfl
        have y2 : w2.cell? ⟨wr.heap.size, 2, none⟩ = some (.int .i64 (rd_T24 ts i).f2) := (blk_cell HBX2.out 2).trans rfl
        have y3 : w2.cell? ⟨wr.heap.size, 3, none⟩ = some (.slice A3 (rd_T24 ts i).f3.length c3) := (blk_cell HBX2.out 3).trans rfl
        have hlen : ((ts.take i).filter p).length ≤ 1048576 := by
          have h1 := List.length_filter_le p (ts.take i)
          have h2 := List.length_take_le i ts
          omega
        have HLEN := Aside0.mk hlen
        clear hlen
        go_wp2_with (at_builtin; refine Kd.N_append k24 (w0 := w) w.heap.size rfl (.tmp 16) (.tmp 18) 22 24 (.agg #[.int .i64 0, .int .i64 0, .int .i64 0, .slice none 0 0]) 48 rfl Tryd.underlying22 info24k_ rfl (by decide) (by omega) _ ((ts.take i).filter p) (rd_T24 ts i) [.int .i64 (rd_T24 ts i).f0, .int .i64 (rd_T24 ts i).f1, .int .i64 (rd_T24 ts i).f2, .slice A3 (rd_T24 ts i).f3.length c3] (fun k => okin k ∨ w.heap.size ≤ k) (fun k => okin k ∧ k < w.heap.size) rfl rfl HFK2.out (fun k hk => ⟨.inl hk.1, fun e => by have h1 := Kd.N_base HN2.out k e.symm; omega⟩) (fun k hk => .inr (Nat.le_trans HB2.out.size hk)) HN2.out HB2.out HB2.out.size (by have := HLEN.out; omega) ?_; intro v9 w9 hN9 hb9 _ _; have HN9 := Aside0.mk hN9; have HB9 := Aside0.mk hb9; clear hN9 hb9 y0 y1 y2 y3)
        go_roundw
        case rel => exact ⟨i + 1, by omega, by go_num, ⟨by rw [HS.out]; exact HN9.out⟩, HB9⟩
        case measure => simp [intOf]; omega
    · have hi : i = ts.length := by omega
      subst hi
      rw [List.take_length] at HN
      go_wp2_with fail
      go_ret
      exact ⟨_, rfl, HN.out, HB.out⟩
end Go.Proofs.YtkcmkoolcakfjaaDoor.P

/- flat.join: walked. -/
namespace Go.Proofs.YtkcmkoolcakfjaaDoor.P
open Go.RowKit Go.Proofs.YtkcmkoolcakfjaaDoorW.PrintWords Go.Proofs.YtkcmkoolcakfjaaDoorW.PrintLast Go.Proofs.YtkcmkoolcakfjaaDoorW.PrintMore Go.Proofs.YtkcmkoolcakfjaaDoor.Aid
set_option linter.unusedVariables false
set_option linter.unusedSimpArgs false

theorem cells4_of {W : World} {b t : Nat} {x0 x1 x2 x3 : Value} (h : W.heap[b]? = some (.cells #[x0, x1, x2, x3] t (0, 0))) : W.cell? ⟨b, 0, none⟩ = some x0 ∧ W.cell? ⟨b, 1, none⟩ = some x1 ∧ W.cell? ⟨b, 2, none⟩ = some x2 ∧ W.cell? ⟨b, 3, none⟩ = some x3 :=
  ⟨(blk_cell h 0).trans rfl, (blk_cell h 1).trans rfl, (blk_cell h 2).trans rfl, (blk_cell h 3).trans rfl⟩
/-- An element of a list of trees that is read. -/
theorem at_F24 {W : World} {ok : Nat → Prop} {A : Option Addr} {n : Nat} {xs : List S24} (h : Kd.F k24 W ok A n xs) (i : Nat) (h1 : i < n) : ∃ ad A3 c3, A = some ad ∧ W.cell? (ad.add (i * 4)) = some (.int .i64 (rd_T24 xs i).f0) ∧ W.cell? ⟨(ad.add (i * 4)).block, (ad.add (i * 4)).off + 1, none⟩ = some (.int .i64 (rd_T24 xs i).f1) ∧ W.cell? ⟨(ad.add (i * 4)).block, (ad.add (i * 4)).off + 2, none⟩ = some (.int .i64 (rd_T24 xs i).f2) ∧ W.cell? ⟨(ad.add (i * 4)).block, (ad.add (i * 4)).off + 3, none⟩ = some (.slice A3 (rd_T24 xs i).f3.length c3) ∧ (rd_T24 xs i).f3.length ≤ c3 ∧ Kd.F k24 W ok A3 (rd_T24 xs i).f3.length (rd_T24 xs i).f3 ∧ Kd.FK k24 W ok (rd_T24 xs i) [.int .i64 (rd_T24 xs i).f0, .int .i64 (rd_T24 xs i).f1, .int .i64 (rd_T24 xs i).f2, .slice A3 (rd_T24 xs i).f3.length c3] := by
  obtain ⟨ad, cs, hA, hcl, hFK, hcc, _⟩ := Kd.F_get h z24 i (by omega) (by omega)
  obtain ⟨A3, c3, hcs, hl3, hF3⟩ := k24_openF hFK
  subst hA hcs
  have hgd : xs.getD (i : Int).toNat z24 = rd_T24 xs i := rfl
  rw [hgd] at hcc hFK hl3 hF3
  have hs4 : k24.sz = 4 := rfl
  have x0 := hcc 0 _ rfl
  have x1 := hcc 1 _ rfl
  have x2 := hcc 2 _ rfl
  have x3 := hcc 3 _ rfl
  rw [hs4] at x0 x1 x2 x3
  rw [add_field ad _ 1 (by omega)] at x1
  rw [add_field ad _ 2 (by omega)] at x2
  rw [add_field ad _ 3 (by omega)] at x3
  simp only [Int.toNat_natCast, Nat.add_zero] at x0 x1 x2 x3
  exact ⟨ad, A3, c3, rfl, x0, x1, x2, x3, hl3, hF3, hFK⟩
theorem flat_snoc (kind : Int) (K : List S24) (i : Nat) (h : i < K.length) : (K.take (i + 1)).flatMap (fun x => if x.f0 = kind then x.f3 else [x]) = (K.take i).flatMap (fun x => if x.f0 = kind then x.f3 else [x]) ++ (if (rd_T24 K i).f0 = kind then (rd_T24 K i).f3 else [rd_T24 K i]) := by
  have e : rd_T24 K i = K[i] := by unfold rd_T24; rw [Int.toNat_natCast, List.getD_eq_getElem?_getD, List.getElem?_eq_getElem h]; rfl
  rw [List.take_succ_eq_append_getElem h, List.flatMap_append, e]
  simp
theorem flat_size (kind : Int) (K : List S24) : ((K.flatMap fun x => if x.f0 = kind then x.f3 else [x])).length ≤ sizeTs K := by
  induction K with
  | nil => simp [sizeTs]
  | cons t K ih =>
    rw [List.flatMap_cons, List.length_append]
    simp only [sizeTs]
    have h1 := size_node t
    have h2 := sizeTs_length t.f3
    split
    · omega
    · simp only [List.length_singleton]; have := size_pos t; omega
theorem sizeTs_takeD (K : List S24) (i : Nat) (h : i < K.length) : sizeTs (K.take i) + sizeT (rd_T24 K i) ≤ sizeTs K := by
  induction K generalizing i with
  | nil => simp at h
  | cons t ts ih =>
    cases i with
    | zero => simp [sizeTs, rd_T24]
    | succ i =>
      have h1 := ih i (by simpa using h)
      have e : rd_T24 (t :: ts) ((i + 1 : Nat) : Int) = rd_T24 ts i := by unfold rd_T24; simp
      rw [e]
      simp only [List.take_succ_cons, sizeTs]
      omega
theorem treeR_const (W : World) (ok : Nat → Prop) (v : Int) : TreeR W ok (constT v) (.agg #[.int .i64 1, .int .i64 v, .int .i64 0, .slice none 0 0]) := ⟨none, 0, rfl, Nat.le_refl _, Kd.F_nil k24 W ok⟩
set_option maxRecDepth 100000 in
set_option maxHeartbeats 4000000 in
theorem join.calls (kind : Int) (hk : kind = 4 ∨ kind = 5) (l : List S24) (A : Option Addr) (c : Nat) (okin : Nat → Prop) (w : World) (hF : Kd.F k24 w okin A l.length l) (hc : l.length ≤ c) (hs : sizeTs l ≤ 1000000) (hI : IdleAt w) :
    Calls Tryd.prog 25 #[.int .i64 kind, .slice A l.length c] w fun e w' => ∃ u, e = .returned u ∧ TreeR w' (fun k => okin k ∨ w.heap.size ≤ k) (joinF kind l) u ∧ Below w.heap.size w w' := by
  have hmf : ∀ (fn : Fn) (first cap : Array Value) (w : World), (Instr.makeFunc fn first cap).run Tryd.prog w = .ok (.func fn first cap) w := fun _ _ _ _ => rfl
  have hb0 := below_alloc (below_alloc (Below.refl w.heap.size w) (.cells #[.int .i64 kind] 3)) (.cells #[.int .i64 0, .int .i64 0, .int .i64 0, .slice none 0 0] 24)
  have hk0 := blk_alloc (blk_new w (.cells #[.int .i64 kind] 3)) (.cells #[.int .i64 0, .int .i64 0, .int .i64 0, .slice none 0 0] 24)
  have hg0 : (((w.alloc (.cells #[.int .i64 kind] 3)).alloc (.cells #[.int .i64 0, .int .i64 0, .int .i64 0, .slice none 0 0] 24))).heap[w.heap.size + 1]? = some (.cells #[.int .i64 0, .int .i64 0, .int .i64 0, .slice none 0 0] 24 (0, 0)) := by
    have h := blk_new (w.alloc (.cells #[.int .i64 kind] 3)) (.cells #[.int .i64 0, .int .i64 0, .int .i64 0, .slice none 0 0] 24)
    rwa [World.size_alloc] at h
  have hz0 : (((w.alloc (.cells #[.int .i64 kind] 3)).alloc (.cells #[.int .i64 0, .int .i64 0, .int .i64 0, .slice none 0 0] 24))).heap.size = w.heap.size + 2 := by rw [World.size_alloc, World.size_alloc]
  have hll := sizeTs_length l
  have HB0 := Aside0.mk hb0
  have HK0 := Aside0.mk hk0
  have HG0 := Aside0.mk hg0
  have HZ0 := Aside0.mk hz0
  have HI := Aside0.mk hI
  have HKD := Aside0.mk hk
  have HFW := Aside0.mk (Kd.F_bound hF)
  obtain ⟨o, ho⟩ : ∃ o, l.any (fun x => x.f0 == 1 && x.f1 != idleF kind) = o := ⟨_, rfl⟩
  have HCONT : Aside0 (Calls Tryd.prog 38 #[.slice A l.length c, .func (.func 41) #[] #[.pointer (some ⟨w.heap.size, 0, none⟩)]] ((w.alloc (.cells #[.int .i64 kind] 3)).alloc (.cells #[.int .i64 0, .int .i64 0, .int .i64 0, .slice none 0 0] 24)) fun e w' => e = .returned (.bool o) ∧ Below (((w.alloc (.cells #[.int .i64 kind] 3)).alloc (.cells #[.int .i64 0, .int .i64 0, .int .i64 0, .slice none 0 0] 24))).heap.size ((w.alloc (.cells #[.int .i64 kind] 3)).alloc (.cells #[.int .i64 0, .int .i64 0, .int .i64 0, .slice none 0 0] 24)) w') := ⟨by
    rw [← ho]
    exact ContainsFunc_tree.calls 41 _ (fun x => x.f0 == 1 && x.f1 != idleF kind) A c l w _ hb0 (Kd.F_now hF) hc (by omega) (fun args w => enters_ Tryd.func41 (by kernel_rfl) rfl args w) (fun x _ A' c' W hW _ _ => join1.calls kind hk w.heap.size _ _ _ _ W (blk_below hk0 hW) (hI.below (below_step hb0 hW)))⟩
  have HKEPT : Aside0 (∀ W, Below w.heap.size w W → Calls Tryd.prog 26 #[.slice A l.length c, .func (.func 29) #[] #[]] W fun e w' => ∃ v, e = .returned v ∧ Kd.N k24 24 w' W.heap.size (fun k => (okin k ∧ k < w.heap.size) ∨ W.heap.size ≤ k) v (l.filter fun x => x.f0 != 1) ∧ Below W.heap.size W w') := ⟨fun W hW => keptF.calls 29 #[] (fun x => x.f0 != 1) A c l (fun k => okin k ∧ k < w.heap.size) W (Kd.F_below HFW.out hW) (by omega) (fun args w => enters_ Tryd.func29 (by kernel_rfl) rfl args w) (fun x A' c' W' hW' => open.calls _ _ _ _ W')⟩
  have hid0 : 0 ≤ idleF kind := by unfold idleF; split <;> omega
  have hid1 : idleF kind ≤ 1 := by unfold idleF; split <;> omega
  have hkd0 : 0 ≤ kind := by omega
  have hkd1 : kind < 6 := by omega
  clear hb0 hk0 hg0 hz0 hI hF hk
  cases o
  · have HJ : Aside0 (joinF kind l = if (flatF kind l).length = 0 then constT (idleF kind) else if (flatF kind l).length = 1 then rd_T24 (flatF kind l) 0 else ⟨kind, 0, 0, flatF kind l⟩) := ⟨by unfold joinF; rw [ho]; exact if_neg (by simp)⟩
    clear ho
    obtain ⟨K, hK⟩ : ∃ K, (l.filter fun x => x.f0 != 1) = K := ⟨_, rfl⟩
    have HFL : Aside0 (flatF kind l = K.flatMap fun x => if x.f0 = kind then x.f3 else [x]) := ⟨by unfold flatF; rw [hK]⟩
    have hKs : sizeTs K ≤ 1000000 := by rw [← hK]; exact Nat.le_trans (sizeTs_filter _ l) hs
    have hKl := sizeTs_length K
    rw [hK] at HKEPT
    clear hK
    go_enter Tryd.func25, Tryd.ntmps25
    go_wp2_with (first | (go_at_call 38; refine (HCONT.out).mono ?_; rintro e w1 ⟨rfl, hb⟩; have HB1 := Aside0.mk (below_step HB0.out hb); have HS1 := Aside0.mk (show w.heap.size + 2 ≤ w1.heap.size by have h := hb.size; rw [HZ0.out] at h; exact h); have HK1 := Aside0.mk (blk_below HK0.out hb); have HG1 := Aside0.mk (blk_below HG0.out hb); have zk : w1.cell? ⟨w.heap.size, 0, none⟩ = some (.int .i64 kind) := (blk_cell HK1.out 0).trans rfl; have zi := (HI.out.below HB1.out).at HKD.out; clear hb) | (go_at_call 26; refine (HKEPT.out w1 HB1.out).mono ?_; rintro e w3 ⟨vk, rfl, hN, hb⟩; obtain ⟨Ak, ck, ek⟩ := Kd.N_slice hN; obtain ⟨nk, hnk⟩ : ∃ z, z = K.length := ⟨_, rfl⟩; rw [← hnk] at ek; have HNK := Aside0.mk hnk; clear hnk; subst ek; have HN := Aside0.mk hN; have H13 := Aside0.mk hb.size; have HB3 := Aside0.mk (below_step HB1.out hb); have HK3 := Aside0.mk (blk_below HK1.out hb); have HG3 := Aside0.mk (blk_below HG1.out hb); clear hb hN zk zi))
    obtain ⟨okF, hokF⟩ : ∃ okF : Nat → Prop, okF = (fun k => (okin k ∧ k < w.heap.size) ∨ w1.heap.size ≤ k) := ⟨_, rfl⟩
    rw [← hokF] at HN
    have HOKF : Aside0 (∀ k, w3.heap.size ≤ k → okF k) := ⟨fun k hk => by rw [hokF]; exact .inr (Nat.le_trans H13.out hk)⟩
    have HOKG : Aside0 (∀ k, okF k → k ≠ w.heap.size + 1 ∧ (okin k ∨ w.heap.size ≤ k)) := ⟨fun k hk => by
      have h1 := HB1.out.size
      have h2 := HS1.out
      rw [hokF] at hk
      rcases hk with hk | hk
      · exact ⟨by omega, .inl hk.1⟩
      · exact ⟨by omega, .inr (by omega)⟩⟩
    clear hokF
    have HFK := Aside0.mk (Kd.F_bound (Kd.N_F HN.out))
    have hzw : w.heap.size < w3.heap.size := blk_lt HK3.out
    have hnk1 : nk ≤ 1000000 := by have := HNK.out; omega
    clear HCONT HKEPT HK0 HG0 HB0 HZ0 HK1 HG1
    go_loopw [5, 19] (fun v5 v19 wr => ∃ i : Nat, i ≤ nk ∧ v19 = .int .i64 i ∧ Aside0 (Kd.N k24 24 wr w3.heap.size okF v5 ((K.take i).flatMap fun x => if x.f0 = kind then x.f3 else [x])) ∧ Aside0 (Below w3.heap.size w3 wr)) (fun _ v19 _ => (nk - intOf v19).toNat)
    case atStart => exact ⟨0, by omega, rfl, ⟨by rw [List.take_zero]; exact Kd.N_nil _ _ _ _ _⟩, ⟨Below.refl _ _⟩⟩
    case round =>
      obtain ⟨i, hi1, rfl, HNF, HBR⟩ := hrel
      have hzr : w.heap.size < wr.heap.size := Nat.lt_of_lt_of_le hzw HBR.out.size
      have HKR := Aside0.mk (blk_below HK3.out HBR.out)
      have zk : wr.cell? ⟨w.heap.size, 0, none⟩ = some (.int .i64 kind) := (blk_cell HKR.out 0).trans rfl
      by_cases hlt : i < nk
      · have hltK : i < K.length := by rw [← HNK.out]; exact hlt
        obtain ⟨ad, A3, c3, hA, x0, x1, x2, x3, hl3, hF3, hFK⟩ := at_F24 (Kd.F_below HFK.out HBR.out) i hlt
        subst hA
        have hts := sizeTs_takeD K i hltK
        have hfl := flat_size kind (K.take i)
        have hsn := flat_snoc kind K i hltK
        have hn3 := size_node (rd_T24 K i)
        have hn4 := sizeTs_length (rd_T24 K i).f3
        have hn5 := size_pos (rd_T24 K i)
        have HF31 := Aside0.mk (Kd.F_alloc hF3 (.cells #[.int .i64 (rd_T24 K i).f0, .int .i64 (rd_T24 K i).f1, .int .i64 (rd_T24 K i).f2, .slice A3 (rd_T24 K i).f3.length c3] 24))
        have HFK1 := Aside0.mk (Kd.FK_below hFK (below_alloc (Below.refl wr.heap.size wr) (.cells #[.int .i64 (rd_T24 K i).f0, .int .i64 (rd_T24 K i).f1, .int .i64 (rd_T24 K i).f2, .slice A3 (rd_T24 K i).f3.length c3] 24)))
        have HNF1 := Aside0.mk (Kd.N_alloc HNF.out (.cells #[.int .i64 (rd_T24 K i).f0, .int .i64 (rd_T24 K i).f1, .int .i64 (rd_T24 K i).f2, .slice A3 (rd_T24 K i).f3.length c3] 24))
        have HBR1 := Aside0.mk (below_alloc HBR.out (.cells #[.int .i64 (rd_T24 K i).f0, .int .i64 (rd_T24 K i).f1, .int .i64 (rd_T24 K i).f2, .slice A3 (rd_T24 K i).f3.length c3] 24))
        obtain ⟨fi, hfi⟩ : ∃ z, ((K.take i).flatMap fun x => if x.f0 = kind then x.f3 else [x]) = z := ⟨_, rfl⟩
        rw [hfi] at HNF1 hfl hsn
        have HLEN : Aside0 (fi.length + (rd_T24 K i).f3.length ≤ 1000000 ∧ fi.length + 1 ≤ 1000000) := ⟨⟨by omega, by omega⟩⟩
        have HSN := Aside0.mk hsn
        clear hFK hF3 hfl hsn hn3 hn4 hn5 hts hfi HNF
        by_cases hkx : (rd_T24 K i).f0 = kind
        · replace HSN : Aside0 (((K.take (i + 1)).flatMap fun x => if x.f0 = kind then x.f3 else [x]) = fi ++ (rd_T24 K i).f3) := ⟨by rw [HSN.out, if_pos hkx]⟩
          have hkb : ((rd_T24 K i).f0 == kind) = true := by simpa using hkx
          clear hkx
          go_wp2_with (at_builtin; refine Kd.N_append_rows k24 (w0 := w3) w3.heap.size rfl (.tmp 27) (.tmp 29) 22 24 (.agg #[.int .i64 0, .int .i64 0, .int .i64 0, .slice none 0 0]) 48 rfl Tryd.underlying22 info24k_ rfl (by decide) (by omega) _ fi (rd_T24 K i).f3 A3 (rd_T24 K i).f3.length c3 okF (fun k => okF k ∧ k < w3.heap.size) rfl rfl HNF1.out HF31.out (fun k hk => ⟨hk.1, fun e => by have h1 := Kd.N_base HNF1.out k e.symm; omega⟩) (fun k hk => HOKF.out k (Nat.le_trans HBR1.out.size hk)) HBR1.out HBR1.out.size (by have h := HLEN.out; omega) ?_; intro v9 w9 hN9 hb9 _ _; have HN9 := Aside0.mk hN9; have HB9 := Aside0.mk hb9; clear hN9 hb9)
          go_roundw
          case rel => exact ⟨i + 1, by omega, by go_num, ⟨by rw [HSN.out]; exact HN9.out⟩, HB9⟩
          case measure => simp [intOf]; omega
        · replace HSN : Aside0 (((K.take (i + 1)).flatMap fun x => if x.f0 = kind then x.f3 else [x]) = fi ++ [rd_T24 K i]) := ⟨by rw [HSN.out, if_neg hkx]⟩
          have hkb : ((rd_T24 K i).f0 == kind) = false := by simpa using hkx
          clear hkx
          go_wp2_with (at_builtin; refine Kd.N_append k24 (w0 := w3) (W := wr.alloc (.cells #[.int .i64 (rd_T24 K i).f0, .int .i64 (rd_T24 K i).f1, .int .i64 (rd_T24 K i).f2, .slice A3 (rd_T24 K i).f3.length c3] 24)) w3.heap.size rfl (.tmp 31) (.tmp 33) 22 24 (.agg #[.int .i64 0, .int .i64 0, .int .i64 0, .slice none 0 0]) 48 rfl Tryd.underlying22 info24k_ rfl (by decide) (by omega) _ fi (rd_T24 K i) [.int .i64 (rd_T24 K i).f0, .int .i64 (rd_T24 K i).f1, .int .i64 (rd_T24 K i).f2, .slice A3 (rd_T24 K i).f3.length c3] okF (fun k => okF k ∧ k < w3.heap.size) rfl (by rw [World.size_alloc]; rfl) HFK1.out (fun k hk => ⟨hk.1, fun e => by have h1 := Kd.N_base HNF1.out k e.symm; omega⟩) (fun k hk => HOKF.out k (Nat.le_trans HBR1.out.size hk)) HNF1.out HBR1.out HBR1.out.size (by have h := HLEN.out; omega) ?_; intro v9 w9 hN9 hb9 _ _; have HN9 := Aside0.mk hN9; have HB9 := Aside0.mk hb9; clear hN9 hb9)
          go_roundw
          case rel => exact ⟨i + 1, by omega, by go_num, ⟨by rw [HSN.out]; exact HN9.out⟩, HB9⟩
          case measure => simp [intOf]; omega
      · have hi : i = nk := by omega
        subst hi
        rw [show K.take i = K by rw [HNK.out]; exact List.take_length, ← HFL.out] at HNF
        obtain ⟨A5, c5, e5⟩ := Kd.N_slice HNF.out
        obtain ⟨n5, hn5⟩ : ∃ z, z = (flatF kind l).length := ⟨_, rfl⟩
        rw [← hn5] at e5 HJ
        have HN5 := Aside0.mk hn5
        clear hn5
        subst e5
        have HBW := Aside0.mk (below_step HB3.out (HBR.out))
        have HGR := Aside0.mk (blk_below HG3.out HBR.out)
        have zi := (HI.out.below HBW.out).at HKD.out
        obtain ⟨g0, g1, g2, g3⟩ := cells4_of HGR.out
        have f0 := blk_frozen HGR.out 0
        have f1 := blk_frozen HGR.out 1
        have f2 := blk_frozen HGR.out 2
        have f3 := blk_frozen HGR.out 3
        have HFF := Aside0.mk (Kd.N_F HNF.out)
        by_cases h0 : n5 = 0
        · subst h0
          replace HJ : Aside0 (joinF kind l = constT (idleF kind)) := ⟨by rw [HJ.out]; exact if_pos rfl⟩
          clear g0 g1 g2 g3 f0 f1 f2 f3
          go_wp2_with (go_at_call 24; refine (constant.calls _ _).mono ?_; rintro e wc ⟨rfl, hb⟩; have HBC := Aside0.mk (below_step HBW.out hb); have HGC := Aside0.mk (blk_below HGR.out hb); obtain ⟨g0, g1, g2, g3⟩ := cells4_of HGC.out; have f0 := blk_frozen HGC.out 0; have f1 := blk_frozen HGC.out 1; have f2 := blk_frozen HGC.out 2; have f3 := blk_frozen HGC.out 3; clear hb)
          refine bodyPost_ret (results_cell4 rfl rfl (blk_store4 HGC.out)) rfl ?_
          exact ⟨_, rfl, by rw [HJ.out]; exact treeR_const _ _ _, below_store4 HBC.out (by omega)⟩
        · have h0b : ((n5 : Int) == 0) = false := by simp; omega
          by_cases h1 : n5 = 1
          · subst h1
            replace HJ : Aside0 (joinF kind l = rd_T24 (flatF kind l) 0) := ⟨by rw [HJ.out]; rfl⟩
            obtain ⟨ad, A3, c3, hA, x0, x1, x2, x3, hl3, hF3, _⟩ := at_F24 HFF.out 0 (by omega)
            subst hA
            simp [Addr.add] at x0 x1 x2 x3
            have HF3 := Aside0.mk hF3
            clear hF3
            go_wp2_with fail
            refine bodyPost_ret (results_cell4 rfl rfl (blk_store4 HGR.out)) rfl ?_
            exact ⟨_, rfl, by rw [HJ.out]; exact ⟨A3, c3, rfl, hl3, Kd.F_mono (F_store4 HF3.out (fun k hk => (HOKG.out k hk).1)) (fun k hk => (HOKG.out k hk).2)⟩, below_store4 HBW.out (by omega)⟩
          · have h1b : ((n5 : Int) == 1) = false := by simp; omega
            replace HJ : Aside0 (joinF kind l = ⟨kind, 0, 0, flatF kind l⟩) := ⟨by rw [HJ.out, if_neg h0, if_neg h1]⟩
            have HRD := Aside0.mk (Kd.N_reads' HNF.out).2.1
            go_wp2_with fail
            refine bodyPost_ret (results_cell4 rfl rfl (blk_store4 HGR.out)) rfl ?_
            exact ⟨_, rfl, by rw [HJ.out]; exact ⟨A5, c5, by simp only; rw [← HN5.out], by simp only; rw [← HN5.out]; exact HRD.out, by simp only; rw [← HN5.out]; exact Kd.F_mono (F_store4 HFF.out (fun k hk => (HOKG.out k hk).1)) (fun k hk => (HOKG.out k hk).2)⟩, below_store4 HBW.out (by omega)⟩
  · have HJ : Aside0 (joinF kind l = constT (1 - idleF kind)) := ⟨by unfold joinF; exact if_pos ho⟩
    clear ho HKEPT
    go_enter Tryd.func25, Tryd.ntmps25
    go_wp2_with (first | (go_at_call 38; refine (HCONT.out).mono ?_; rintro e w1 ⟨rfl, hb⟩; have HB1 := Aside0.mk (below_step HB0.out hb); have HS1 := Aside0.mk (show w.heap.size + 2 ≤ w1.heap.size by have h := hb.size; rw [HZ0.out] at h; exact h); have HK1 := Aside0.mk (blk_below HK0.out hb); have HG1 := Aside0.mk (blk_below HG0.out hb); have zk : w1.cell? ⟨w.heap.size, 0, none⟩ = some (.int .i64 kind) := (blk_cell HK1.out 0).trans rfl; have zi := (HI.out.below HB1.out).at HKD.out; clear hb) | (go_at_call 24; refine (constant.calls _ _).mono ?_; rintro e wc ⟨rfl, hb⟩; have HBC := Aside0.mk (below_step HB1.out hb); have HGC := Aside0.mk (blk_below HG1.out hb); obtain ⟨g0, g1, g2, g3⟩ := cells4_of HGC.out; have f0 := blk_frozen HGC.out 0; have f1 := blk_frozen HGC.out 1; have f2 := blk_frozen HGC.out 2; have f3 := blk_frozen HGC.out 3; clear hb))
    refine bodyPost_ret (results_cell4 rfl rfl (blk_store4 HGC.out)) rfl ?_
    exact ⟨_, rfl, by rw [HJ.out]; exact treeR_const _ _ _, below_store4 HBC.out (by omega)⟩
end Go.Proofs.YtkcmkoolcakfjaaDoor.P

/- flat.made and flat.Simple: walked. -/
namespace Go.Proofs.YtkcmkoolcakfjaaDoor.P
open Go.RowKit Go.Proofs.YtkcmkoolcakfjaaDoorW.PrintWords Go.Proofs.YtkcmkoolcakfjaaDoorW.PrintLast Go.Proofs.YtkcmkoolcakfjaaDoorW.PrintMore Go.Proofs.YtkcmkoolcakfjaaDoor.Aid
set_option linter.unusedVariables false
set_option linter.unusedSimpArgs false

theorem simpsF_take (ts : List S24) (i : Nat) (h : i < ts.length) : simpsF (ts.take (i + 1)) = simpsF (ts.take i) ++ [simpF (rd_T24 ts i)] := by
  have e : rd_T24 ts i = ts[i] := by unfold rd_T24; rw [Int.toNat_natCast, List.getD_eq_getElem?_getD, List.getElem?_eq_getElem h]; rfl
  rw [simpsF_map, simpsF_map, List.take_succ_eq_append_getElem h, e]
  rw [List.map_append]
  rfl
theorem at_F24z {W : World} {ok : Nat → Prop} {A : Option Addr} {n : Nat} {xs : List S24} (h : Kd.F k24 W ok A n xs) (h1 : 0 < n) : ∃ ad A3 c3, A = some ad ∧ W.cell? (ad.add (0 * 4)) = some (.int .i64 (rd_T24 xs 0).f0) ∧ W.cell? ⟨(ad.add (0 * 4)).block, (ad.add (0 * 4)).off + 1, none⟩ = some (.int .i64 (rd_T24 xs 0).f1) ∧ W.cell? ⟨(ad.add (0 * 4)).block, (ad.add (0 * 4)).off + 2, none⟩ = some (.int .i64 (rd_T24 xs 0).f2) ∧ W.cell? ⟨(ad.add (0 * 4)).block, (ad.add (0 * 4)).off + 3, none⟩ = some (.slice A3 (rd_T24 xs 0).f3.length c3) ∧ (rd_T24 xs 0).f3.length ≤ c3 ∧ Kd.F k24 W ok A3 (rd_T24 xs 0).f3.length (rd_T24 xs 0).f3 ∧ Kd.FK k24 W ok (rd_T24 xs 0) [.int .i64 (rd_T24 xs 0).f0, .int .i64 (rd_T24 xs 0).f1, .int .i64 (rd_T24 xs 0).f2, .slice A3 (rd_T24 xs 0).f3.length c3] := at_F24 h 0 h1
theorem treeR_store {W : World} {g : Nat} {ok ok' : Nat → Prop} {T : S24} {u : Value} {x0 x1 x2 x3 : Value} (h : TreeR W ok T u) (hg : ∀ k, ok k → k ≠ g ∧ ok' k) : TreeR ((((W.setCell ⟨g, 0, none⟩ x0).setCell ⟨g, 1, none⟩ x1).setCell ⟨g, 2, none⟩ x2).setCell ⟨g, 3, none⟩ x3) ok' T u := by
  obtain ⟨A, c, e, h1, h2⟩ := h
  exact ⟨A, c, e, h1, Kd.F_mono (F_store4 h2 (fun k hk => (hg k hk).1)) (fun k hk => (hg k hk).2)⟩
theorem treeR_alloc {W : World} {ok : Nat → Prop} {T : S24} {u : Value} (h : TreeR W ok T u) (o : Obj) : TreeR (W.alloc o) ok T u := by
  obtain ⟨A, c, e, h1, h2⟩ := h
  exact ⟨A, c, e, h1, Kd.F_alloc h2 o⟩
theorem size_rd {K : List S24} {i : Nat} (h : i < K.length) : sizeT (rd_T24 K i) ≤ sizeTs K := by
  have := sizeTs_takeD K i h
  omega
set_option maxRecDepth 100000 in
set_option maxHeartbeats 8000000 in
theorem madeS.calls (n : Int) (N : Nat) (hN : N ≤ 100000) : ∀ (T : S24) (A : Option Addr) (c : Nat) (w0 w : World), sizeT T ≤ N → formedT T n = true → Below w0.heap.size w0 w → Kd.C k24 w0 A T.f3.length T.f3 → T.f3.length ≤ c → IdleAt w0 →
    Calls Tryd.prog 15 #[.agg #[.int .i64 T.f0, .int .i64 T.f1, .int .i64 T.f2, .slice A T.f3.length c]] w fun e w' => ∃ u, e = .returned u ∧ TreeR w' (fun k => k < w0.heap.size ∨ w.heap.size ≤ k) (simpF T) u ∧ Below w.heap.size w w' := by
  induction N with
  | zero => intro T; intros; have := size_pos T; omega
  | succ N ih =>
    rintro ⟨kind, v, q, ts⟩ A c w0 w hsz hft hW hC hc hI
    simp only at hC hc ⊢
    have hlen : ts.length ≤ 100000 := by have := sizeTs_length ts; simp only [sizeT] at hsz; omega
    have hnode := formed_node hft
    simp only at hnode
    obtain ⟨hfk, hfs⟩ := hnode
    obtain ⟨hs1, hs2, hs3⟩ := simps_ok ts n hfs
    clear hs3
    have hsl := simpsF_length ts
    simp only [sizeT] at hsz
    have hb0 := below_alloc (below_alloc (Below.refl w.heap.size w) (.cells #[.int .i64 kind, .int .i64 v, .int .i64 q, .slice A ts.length c] 24)) (.cells #[.int .i64 0, .int .i64 0, .int .i64 0, .slice none 0 0] 24)
    have hx0 := blk_alloc (blk_new w (.cells #[.int .i64 kind, .int .i64 v, .int .i64 q, .slice A ts.length c] 24)) (.cells #[.int .i64 0, .int .i64 0, .int .i64 0, .slice none 0 0] 24)
    have hg0 : (((w.alloc (.cells #[.int .i64 kind, .int .i64 v, .int .i64 q, .slice A ts.length c] 24)).alloc (.cells #[.int .i64 0, .int .i64 0, .int .i64 0, .slice none 0 0] 24))).heap[w.heap.size + 1]? = some (.cells #[.int .i64 0, .int .i64 0, .int .i64 0, .slice none 0 0] 24 (0, 0)) := by
      have h := blk_new (w.alloc (.cells #[.int .i64 kind, .int .i64 v, .int .i64 q, .slice A ts.length c] 24)) (.cells #[.int .i64 0, .int .i64 0, .int .i64 0, .slice none 0 0] 24)
      rwa [World.size_alloc] at h
    have hz0 : (((w.alloc (.cells #[.int .i64 kind, .int .i64 v, .int .i64 q, .slice A ts.length c] 24)).alloc (.cells #[.int .i64 0, .int .i64 0, .int .i64 0, .slice none 0 0] 24))).heap.size = w.heap.size + 2 := by rw [World.size_alloc, World.size_alloc]
    obtain ⟨okL, hok⟩ : ∃ okL : Nat → Prop, okL = (fun k => k < w0.heap.size ∨ w.heap.size + 2 ≤ k) := ⟨_, rfl⟩
    have hww := hW.size
    have HOKF : Aside0 (∀ k, w.heap.size + 2 ≤ k → okL k) := ⟨fun k hk => by rw [hok]; exact .inr hk⟩
    have HOK0 : Aside0 (∀ k, k < w0.heap.size → okL k) := ⟨fun k hk => by rw [hok]; exact .inl hk⟩
    have HOKG : Aside0 (∀ k, okL k → k ≠ w.heap.size + 1 ∧ (k < w0.heap.size ∨ w.heap.size ≤ k)) := ⟨fun k hk => by rw [hok] at hk; omega⟩
    have HB0 := Aside0.mk hb0
    have HX0 := Aside0.mk hx0
    have HG0 := Aside0.mk hg0
    have HZ0 := Aside0.mk hz0
    have HC := Aside0.mk hC
    have HW := Aside0.mk hW
    have HI := Aside0.mk hI
    have HFK := Aside0.mk hfk
    have HFS := Aside0.mk hfs
    have HS1 := Aside0.mk hs1
    have HSL := Aside0.mk hsl
    have IH := Aside0.mk (ih (by omega))
    clear hb0 hx0 hg0 hz0 hC hW hI hfk hfs hs1 hsl ih hok hft
    go_enter Tryd.func15, Tryd.ntmps15
    go_wp2_with fail
    generalize hW0 : ((w.alloc (.cells #[.int .i64 kind, .int .i64 v, .int .i64 q, .slice A ts.length c] 24)).alloc (.cells #[.int .i64 0, .int .i64 0, .int .i64 0, .slice none 0 0] 24)) = W0 at HB0 HX0 HG0 HZ0 ⊢
    clear hW0
    go_loopw [3, 12] (fun v3 v12 wr => ∃ i : Nat, i ≤ ts.length ∧ v12 = .int .i64 i ∧ Aside0 (Kd.N k24 24 wr W0.heap.size okL v3 (simpsF (ts.take i))) ∧ Aside0 (Below W0.heap.size W0 wr)) (fun _ v12 _ => (ts.length - intOf v12).toNat)
    case atStart => exact ⟨0, by omega, rfl, ⟨by rw [List.take_zero]; exact Kd.N_nil _ _ _ _ _⟩, ⟨Below.refl _ _⟩⟩
    case round =>
      obtain ⟨i, hi1, rfl, HN, HBR⟩ := hrel
      by_cases hlt : i < ts.length
      · have HBW := Aside0.mk (below_step HB0.out HBR.out)
        have HBW0 := Aside0.mk (below_step HW.out HBW.out)
        obtain ⟨ad, A3, c3, rfl, x0, x1, x2, x3, hl3, hi3⟩ := at_T24 HC.out i (by omega) (by omega)
        replace x0 := (HBW0.out.cell (World.block_lt_of_cell? w0 _ x0)).trans x0
        replace x1 := (HBW0.out.cell (World.block_lt_of_cell? w0 _ x1)).trans x1
        replace x2 := (HBW0.out.cell (World.block_lt_of_cell? w0 _ x2)).trans x2
        replace x3 := (HBW0.out.cell (World.block_lt_of_cell? w0 _ x3)).trans x3
        simp only [Int.toNat_natCast] at x0 x1 x2 x3
        have hmem := rd_T24_mem ts i (by omega) (by omega)
        have hfm := formedTs_mem HFS.out _ hmem
        have hsr := size_rd hlt
        have HSN := Aside0.mk (simpsF_take ts i hlt)
        have HCALL := Aside0.mk (IH.out (rd_T24 ts i) A3 c3 w0 (wr.alloc (.cells #[.int .i64 (rd_T24 ts i).f0, .int .i64 (rd_T24 ts i).f1, .int .i64 (rd_T24 ts i).f2, .slice A3 (rd_T24 ts i).f3.length c3] 24)) (by omega) hfm (below_step HBW0.out (below_alloc (Below.refl wr.heap.size wr) _)) hi3 hl3 HI.out)
        have hln : (simpsF (ts.take i)).length ≤ 100000 := by rw [simpsF_length]; have := List.length_take_le i ts; omega
        have HLN := Aside0.mk hln
        clear hmem hfm hi3 hl3 hln
        go_wp2_with (first | (go_at_call 15; refine HCALL.out.mono ?_; rintro e w2 ⟨u, rfl, hT, hb⟩; have HT := Aside0.mk hT; obtain ⟨AT, cT, eT, hlT, hFT⟩ := hT; subst eT; have HN2 := Aside0.mk (Kd.N_below HN.out (below_step (below_alloc (Below.refl wr.heap.size wr) _) hb)); have HBR2 := Aside0.mk (HBR.out.trans ((below_step (below_alloc (Below.refl wr.heap.size wr) _) hb).mono HBR.out.size)); have HFT := Aside0.mk (k24_mkF w2 _ (simpF (rd_T24 ts i)) hlT hFT); clear hb hFT) | (at_builtin; refine Kd.N_append k24 (w0 := W0) W0.heap.size rfl (.tmp 16) (.tmp 19) 22 24 (.agg #[.int .i64 0, .int .i64 0, .int .i64 0, .slice none 0 0]) 48 rfl Tryd.underlying22 info24k_ rfl (by decide) (by omega) _ (simpsF (ts.take i)) (simpF (rd_T24 ts i)) [.int .i64 (simpF (rd_T24 ts i)).f0, .int .i64 (simpF (rd_T24 ts i)).f1, .int .i64 (simpF (rd_T24 ts i)).f2, .slice AT (simpF (rd_T24 ts i)).f3.length cT] okL (fun k => k < w0.heap.size ∨ (wr.alloc (.cells #[.int .i64 (rd_T24 ts i).f0, .int .i64 (rd_T24 ts i).f1, .int .i64 (rd_T24 ts i).f2, .slice A3 (rd_T24 ts i).f3.length c3] 24)).heap.size ≤ k) rfl rfl HFT.out (fun k hk => ⟨by have h1 := HZ0.out; have h2 := HBR.out.size; rcases hk with hk | hk; exact HOK0.out k hk; rw [World.size_alloc] at hk; exact HOKF.out k (by omega), fun e => by have h1 := Kd.N_base HN.out k e.symm; have h2 := Kd.N_lt HN.out k e.symm; have h3 := HZ0.out; rw [World.size_alloc] at hk; omega⟩) (fun k hk => HOKF.out k (by have h1 := HZ0.out; have h2 := HBR2.out.size; omega)) HN2.out HBR2.out HBR2.out.size (by have h := HLN.out; omega) ?_; intro v9 w9 hN9 hb9 _ _; have HN9 := Aside0.mk hN9; have HB9 := Aside0.mk hb9; clear hN9 hb9))
        go_roundw
        case rel => exact ⟨i + 1, by omega, by go_num, ⟨by rw [HSN.out]; exact HN9.out⟩, HB9⟩
        case measure => simp [intOf]; omega
      · have hi : i = ts.length := by omega
        subst hi
        rw [List.take_length] at HN
        obtain ⟨L, hL⟩ : ∃ L, simpsF ts = L := ⟨_, rfl⟩
        rw [hL] at HN HS1 HSL hs2
        have HSM : Aside0 (simpF ⟨kind, v, q, ts⟩ = if kind = 3 then notF L else if kind = 4 then joinF 4 L else if kind = 5 then joinF 5 L else if kind = 6 then leastF q L else ⟨kind, v, q, ts⟩) := ⟨by rw [simpF, hL]⟩
        clear hL IH
        obtain ⟨A5, c5, e5⟩ := Kd.N_slice HN.out
        obtain ⟨n5, hn5⟩ : ∃ z, z = L.length := ⟨_, rfl⟩
        rw [← hn5] at e5
        have HN5 := Aside0.mk hn5
        clear hn5
        subst e5
        have HBW := Aside0.mk (below_step HB0.out HBR.out)
        have HXR := Aside0.mk (blk_below HX0.out HBR.out)
        have HGR := Aside0.mk (blk_below HG0.out HBR.out)
        have hzr : w.heap.size + 2 ≤ wr.heap.size := by have h1 := HBR.out.size; have h2 := HZ0.out; omega
        have hzw : w.heap.size < wr.heap.size := by omega
        have hzg : w.heap.size + 1 < wr.heap.size := by omega
        obtain ⟨y0, y1, y2, y3⟩ := cells4_of HXR.out
        obtain ⟨g0, g1, g2, g3⟩ := cells4_of HGR.out; have f0 := blk_frozen HGR.out 0; have f1 := blk_frozen HGR.out 1; have f2 := blk_frozen HGR.out 2; have f3 := blk_frozen HGR.out 3
        have HFL := Aside0.mk (Kd.N_F HN.out)
        have HRD := Aside0.mk (Kd.N_reads' HN.out).2.1
        have hn5b : n5 ≤ 100000 := by have h1 := HN5.out; have h2 := HSL.out; omega
        have hLs : sizeTs L ≤ 100000 := by omega
        have HIR := Aside0.mk (HI.out.below (below_step HW.out HBW.out))
        clear HX0 HG0
        by_cases k3 : kind = 3
        · subst k3
          replace HSM : Aside0 (simpF ⟨3, v, q, ts⟩ = notF L) := ⟨by rw [HSM.out]; exact if_pos rfl⟩
          have HL1 : Aside0 (L.length = 1) := ⟨by
            have h := HFK.out
            simp [formedF] at h
            rw [HSL.out]
            exact h.2.2⟩
          obtain ⟨ad, A4, c4, hA, x0, x1, x2, x3, hl4, hF4, _⟩ := at_F24z HFL.out (by have h1 := HN5.out; have h2 := HL1.out; omega)
          subst hA
          simp [Addr.add] at x0 x1 x2 x3
          have hn5p : 0 < n5 := by have h1 := HN5.out; have h2 := HL1.out; omega
          have hfx : formedT (rd_T24 L 0) n = true := formedTs_mem HS1.out _ (by have h2 := HL1.out; exact rd_T24_mem L 0 (by omega) (by omega))
          obtain ⟨x, hx⟩ : ∃ x, rd_T24 L 0 = x := ⟨_, rfl⟩
          have HX := Aside0.mk hx
          rw [hx] at hfx hl4 hF4 x0 x1 x2 x3
          have HF4 := Aside0.mk hF4
          have HFX := Aside0.mk hfx
          clear hx hF4 hfx
          by_cases h1 : x.f0 = 1
          · have HV : Aside0 (simpF ⟨3, v, q, ts⟩ = constT (1 - x.f1)) := ⟨by rw [HSM.out]; unfold notF; rw [HX.out]; exact if_pos h1⟩
            have hv := (known_one HFX.out h1).1
            have hv0 : 0 ≤ x.f1 := by omega
            have hv1 : x.f1 ≤ 1 := by omega
            have h1b : (x.f0 == 1) = true := by simpa using h1
            clear hv h1 g0 g1 g2 g3 f0 f1 f2 f3
            go_wp2_with (go_at_call 24; refine (constant.calls _ _).mono ?_; rintro e wc ⟨rfl, hb⟩; have HBC := Aside0.mk (below_step (below_alloc HBW.out _) hb); have HGC := Aside0.mk (blk_below (blk_alloc HGR.out _) hb); obtain ⟨g0, g1, g2, g3⟩ := cells4_of HGC.out; have f0 := blk_frozen HGC.out 0; have f1 := blk_frozen HGC.out 1; have f2 := blk_frozen HGC.out 2; have f3 := blk_frozen HGC.out 3; clear hb)
            refine bodyPost_ret (results_cell4 rfl rfl (blk_store4 HGC.out)) rfl ?_
            exact ⟨_, rfl, by rw [HV.out]; exact treeR_const _ _ _, below_store4 HBC.out (by omega)⟩
          · have h1b : (x.f0 == 1) = false := by simpa using h1
            by_cases h3 : x.f0 = 3
            · have HV : Aside0 (simpF ⟨3, v, q, ts⟩ = rd_T24 x.f3 0) := ⟨by rw [HSM.out]; unfold notF; rw [HX.out, if_neg h1]; exact if_pos h3⟩
              have h3b : (x.f0 == 3) = true := by simpa using h3
              have hl1 : x.f3.length = 1 := by
                have h := (formed_node HFX.out).1
                rw [h3] at h
                simp [formedF] at h
                exact h.2.2
              obtain ⟨ad2, A6, c6, hA, u0, u1, u2, u3, hl6, hF6, _⟩ := at_F24z HF4.out (by omega)
              subst hA
              simp [Addr.add] at u0 u1 u2 u3
              have hz2 : ad2.block < wr.heap.size := World.block_lt_of_cell? wr _ u0
              have hlt1 : 0 < x.f3.length := by omega
              have HF6 := Aside0.mk hF6
              clear hF6 hl1 h3 h1
              go_wp2_with fail
              refine bodyPost_ret (results_cell4 rfl rfl (blk_alloc (blk_store4 HGR.out) _)) rfl ?_
              exact ⟨_, rfl, by rw [HV.out]; exact treeR_alloc (treeR_store ⟨A6, c6, rfl, hl6, HF6.out⟩ (fun k hk => HOKG.out k hk)) _, below_alloc (below_store4 HBW.out (by omega)) _⟩
            · have HV : Aside0 (simpF ⟨3, v, q, ts⟩ = ⟨3, 0, 0, L⟩) := ⟨by rw [HSM.out]; unfold notF; rw [HX.out, if_neg h1]; exact if_neg h3⟩
              have h3b : (x.f0 == 3) = false := by simpa using h3
              clear h1 h3
              go_wp2_with fail
              refine bodyPost_ret (results_cell4 rfl rfl (blk_alloc (blk_store4 HGR.out) _)) rfl ?_
              exact ⟨_, rfl, by rw [HV.out]; exact treeR_alloc (treeR_store ⟨_, c5, by simp only; rw [← HN5.out], by simp only; rw [← HN5.out]; exact HRD.out, by simp only; rw [← HN5.out]; exact HFL.out⟩ (fun k hk => HOKG.out k hk)) _, below_alloc (below_store4 HBW.out (by omega)) _⟩
        · have k3b : (kind == 3) = false := by simpa using k3
          by_cases k4 : kind = 4
          · subst k4
            replace HSM : Aside0 (simpF ⟨4, v, q, ts⟩ = joinF 4 L) := ⟨by rw [HSM.out]; rfl⟩
            have HJOIN : Aside0 (Calls Tryd.prog 25 #[.int .i64 4, .slice A5 n5 c5] wr fun e w' => ∃ u, e = .returned u ∧ TreeR w' (fun k => okL k ∨ wr.heap.size ≤ k) (joinF 4 L) u ∧ Below wr.heap.size wr w') := ⟨by
              have h := HFL.out
              have h2 := HRD.out
              rw [HN5.out] at h h2 ⊢
              exact join.calls 4 (.inl rfl) L A5 c5 okL wr h h2 (by omega) HIR.out⟩
            clear g0 g1 g2 g3 f0 f1 f2 f3
            go_wp2_with (go_at_call 25; refine (HJOIN.out).mono ?_; rintro e wj ⟨u, rfl, hT, hb⟩; have HBJ := Aside0.mk (below_step HBW.out hb); have HGJ := Aside0.mk (blk_below HGR.out hb); obtain ⟨AJ, cJ, eJ, hlJ, hFJ⟩ := hT; subst eJ; have HFJ := Aside0.mk hFJ; obtain ⟨g0, g1, g2, g3⟩ := cells4_of HGJ.out; have f0 := blk_frozen HGJ.out 0; have f1 := blk_frozen HGJ.out 1; have f2 := blk_frozen HGJ.out 2; have f3 := blk_frozen HGJ.out 3; clear hb hFJ)
            refine bodyPost_ret (results_cell4 rfl rfl (blk_store4 HGJ.out)) rfl ?_
            exact ⟨_, rfl, by rw [HSM.out]; exact treeR_store ⟨AJ, cJ, rfl, hlJ, HFJ.out⟩ (fun k hk => by rcases hk with hk | hk; exact HOKG.out k hk; exact ⟨by omega, .inr (by omega)⟩), below_store4 HBJ.out (by omega)⟩
          · have k4b : (kind == 4) = false := by simpa using k4
            by_cases k5 : kind = 5
            · subst k5
              replace HSM : Aside0 (simpF ⟨5, v, q, ts⟩ = joinF 5 L) := ⟨by rw [HSM.out]; rfl⟩
              have HJOIN : Aside0 (Calls Tryd.prog 25 #[.int .i64 5, .slice A5 n5 c5] wr fun e w' => ∃ u, e = .returned u ∧ TreeR w' (fun k => okL k ∨ wr.heap.size ≤ k) (joinF 5 L) u ∧ Below wr.heap.size wr w') := ⟨by
                have h := HFL.out
                have h2 := HRD.out
                rw [HN5.out] at h h2 ⊢
                exact join.calls 5 (.inr rfl) L A5 c5 okL wr h h2 (by omega) HIR.out⟩
              clear g0 g1 g2 g3 f0 f1 f2 f3
              go_wp2_with (go_at_call 25; refine (HJOIN.out).mono ?_; rintro e wj ⟨u, rfl, hT, hb⟩; have HBJ := Aside0.mk (below_step HBW.out hb); have HGJ := Aside0.mk (blk_below HGR.out hb); obtain ⟨AJ, cJ, eJ, hlJ, hFJ⟩ := hT; subst eJ; have HFJ := Aside0.mk hFJ; obtain ⟨g0, g1, g2, g3⟩ := cells4_of HGJ.out; have f0 := blk_frozen HGJ.out 0; have f1 := blk_frozen HGJ.out 1; have f2 := blk_frozen HGJ.out 2; have f3 := blk_frozen HGJ.out 3; clear hb hFJ)
              refine bodyPost_ret (results_cell4 rfl rfl (blk_store4 HGJ.out)) rfl ?_
              exact ⟨_, rfl, by rw [HSM.out]; exact treeR_store ⟨AJ, cJ, rfl, hlJ, HFJ.out⟩ (fun k hk => by rcases hk with hk | hk; exact HOKG.out k hk; exact ⟨by omega, .inr (by omega)⟩), below_store4 HBJ.out (by omega)⟩
            · have k5b : (kind == 5) = false := by simpa using k5
              by_cases k6 : kind = 6
              · subst k6
                replace HSM : Aside0 (simpF ⟨6, v, q, ts⟩ = leastF q L) := ⟨by rw [HSM.out]; rfl⟩
                have hq : 0 ≤ q ∧ q ≤ 1099511627776 := by
                  have h := HFK.out
                  simp [formedF] at h
                  omega
                obtain ⟨hq0, hq1⟩ := hq
                obtain ⟨M, hM⟩ : ∃ M, (L.filter fun x => x.f0 != 1) = M := ⟨_, rfl⟩
                obtain ⟨nO, hnO⟩ : ∃ z, z = onesF L := ⟨_, rfl⟩
                obtain ⟨n6, hn6⟩ : ∃ z, z = M.length := ⟨_, rfl⟩
                have hnOb : nO ≤ 100000 := by rw [hnO]; have h1 := List.length_filter_le (fun x : S24 => x.f0 == 1 && x.f1 == 1) L; have h2 := HN5.out; unfold onesF; omega
                have hMs : sizeTs M ≤ 100000 := by rw [← hM]; exact Nat.le_trans (sizeTs_filter _ L) hLs
                have hn6b : n6 ≤ 100000 := by have := sizeTs_length M; omega
                obtain ⟨kk, hkk⟩ : ∃ kk : Int, q - (nO : Int) = kk := ⟨_, rfl⟩
                have HLF : Aside0 (leastF q L = if kk ≤ 0 then constT 1 else if (n6 : Int) < kk then constT 0 else if kk = (n6 : Int) then joinF 4 M else if kk = 1 then joinF 5 M else ⟨6, 0, kk, M⟩) := ⟨by unfold leastF; rw [hM, ← hnO, ← hn6, hkk]⟩
                have HK1 : Aside0 (∀ W, Below wr.heap.size wr W → Calls Tryd.prog 26 #[.slice A5 n5 c5, .func (.func 27) #[] #[]] W fun e w' => ∃ A c, e = .returned (.slice A nO c) ∧ Below W.heap.size W w') := ⟨fun W hW => by
                  have h := Kd.F_below HFL.out hW
                  rw [HN5.out] at h ⊢
                  refine (keptF.calls 27 #[] (fun x => x.f0 == 1 && x.f1 == 1) A5 c5 L okL W h (by have := HN5.out; omega) (fun args w => enters_ Tryd.func27 (by kernel_rfl) rfl args w) (fun x A' c' W' hW' => made1.calls _ _ _ _ W')).mono ?_
                  rintro e w' ⟨v', rfl, hN', hb'⟩
                  obtain ⟨A', c', e'⟩ := Kd.N_slice hN'
                  refine ⟨A', c', ?_, hb'⟩
                  rw [e', hnO]
                  rfl⟩
                have HK2 : Aside0 (∀ W, Below wr.heap.size wr W → Calls Tryd.prog 26 #[.slice A5 n5 c5, .func (.func 29) #[] #[]] W fun e w' => ∃ A c, e = .returned (.slice A n6 c) ∧ n6 ≤ c ∧ Kd.F k24 w' (fun k => okL k ∨ W.heap.size ≤ k) A n6 M ∧ Below W.heap.size W w') := ⟨fun W hW => by
                  have h := Kd.F_below HFL.out hW
                  rw [HN5.out] at h ⊢
                  refine (keptF.calls 29 #[] (fun x => x.f0 != 1) A5 c5 L okL W h (by have := HN5.out; omega) (fun args w => enters_ Tryd.func29 (by kernel_rfl) rfl args w) (fun x A' c' W' hW' => open.calls _ _ _ _ W')).mono ?_
                  rintro e w' ⟨v', rfl, hN', hb'⟩
                  rw [hM] at hN'
                  obtain ⟨A', c', e'⟩ := Kd.N_slice hN'
                  subst e'
                  rw [hn6]
                  exact ⟨A', c', rfl, (Kd.N_reads' hN').2.1, Kd.N_F hN', hb'⟩⟩
                have HJN : Aside0 (∀ (kd : Int) (A6 : Option Addr) (c6 : Nat) (W : World) (ok : Nat → Prop), (kd = 4 ∨ kd = 5) → Kd.F k24 W ok A6 n6 M → n6 ≤ c6 → IdleAt W → Calls Tryd.prog 25 #[.int .i64 kd, .slice A6 n6 c6] W fun e w' => ∃ u, e = .returned u ∧ TreeR w' (fun k => ok k ∨ W.heap.size ≤ k) (joinF kd M) u ∧ Below W.heap.size W w') := ⟨fun kd A6 c6 W ok hkd h h2 hi => by
                  rw [hn6] at h h2 ⊢
                  exact join.calls kd hkd M A6 c6 ok W h h2 (by omega) hi⟩
                have HN6 := Aside0.mk hn6
                have hkd0 : -100000 ≤ kk := by omega
                have hkd1 : kk ≤ 1099511627776 := by omega
                have HWK : Aside0 (IntKind.i64.wrap kk = kk) := ⟨IntWalk.i64_in kk (by omega)⟩
                clear hM hnO hn6 g0 g1 g2 g3 f0 f1 f2 f3
                go_wp2_with fail
                refine start_ (n := 7) (S := fun V => V.heap[w.heap.size]? = some (.cells #[.int .i64 6, .int .i64 v, .int .i64 q, .slice A ts.length c] 24 (0, 0)) ∧ Below wr.heap.size wr V) (ds := []) #[false, false, false, false, false, false, false] (by kernel_rfl) rfl rfl ⟨HXR.out, below_drew (Below.refl wr.heap.size wr)⟩ (fun hHeld => ?_)
                generalize hW1 : wr.drew = W1 at hHeld ⊢
                clear hW1
                refine pure_ (i := 0) (N := some 56) (v := ?_) (a' := ?_) #[true, false, false, false, false, false, false] rfl rfl (by kernel_rfl) (fun _ _ _ h => h) (Or.inl ⟨by rfl, ?_⟩) ?_ ?_
                rotate_left
                · intro w'
                  go_simp
                  with_reducible rfl
                rotate_left
                · simp only [Act.put, List.setIfInBounds_toArray, List.set_cons_zero, List.set_cons_succ, i64_w, i32_w]
                  rfl
                refine pure_ (i := 2) (N := some 58) (v := ?_) (a' := ?_) #[true, false, true, false, false, false, false] rfl rfl (by kernel_rfl) (fun _ _ _ h => h) (Or.inl ⟨by rfl, ?_⟩) ?_ ?_
                rotate_left
                · intro w'
                  go_simp
                  with_reducible rfl
                rotate_left
                · simp only [Act.put, List.setIfInBounds_toArray, List.set_cons_zero, List.set_cons_succ, i64_w, i32_w]
                  rfl
                refine take_ (i := 1) (N := some 57) (v := ?_) (a' := ?_) #[true, true, true, false, false, false, false] rfl rfl (by kernel_rfl) (fun _ _ _ h => h) (Or.inl ⟨by rfl, ?_⟩) hHeld ?_ ?_
                rotate_left
                · rintro w' ⟨hw0, hw1⟩
                  have hc0 := blk_cell hw0 2
                  go_simp
                  with_reducible rfl
                rotate_left
                · simp only [Act.put, List.setIfInBounds_toArray, List.set_cons_zero, List.set_cons_succ, i64_w, i32_w]
                  rfl
                refine one_ (i := 3) (N := some 59) #[true, true, true, true, false, false, false] rfl rfl (by kernel_rfl) (by decide) (fun K hK => ?_)
                refine goes_ Tryd.func26 (by kernel_rfl) rfl #[.slice A5 n5 c5, .func (.func 27) #[] #[]] (by rfl) rfl rfl (by simp only [List.map_toArray, List.map_cons, List.map_nil]; rfl) ?_
                refine (HK1.out _ hHeld.2).mono ?_
                rintro e W2 ⟨Ao, co, rfl, hb⟩
                refine ⟨_, rfl, ?_⟩
                refine hK.out _ _ ⟨blk_below hHeld.1 hb, below_step hHeld.2 hb⟩ (fun hHeld => ?_)
                clear hK K hb
                refine norm_ (a' := ?_) ?_ ?_
                rotate_left
                · show Act.put _ (some 59) _ = _
                  simp only [Act.put, List.setIfInBounds_toArray, List.set_cons_zero, List.set_cons_succ, i64_w, i32_w]
                  rfl
                refine pure_ (i := 4) (N := some 60) (v := ?_) (a' := ?_) #[true, true, true, true, true, false, false] rfl rfl (by kernel_rfl) (fun _ _ _ h => h) (Or.inl ⟨by rfl, ?_⟩) ?_ ?_
                rotate_left
                · intro w'
                  go_simp
                  with_reducible rfl
                rotate_left
                · simp only [Act.put, List.setIfInBounds_toArray, List.set_cons_zero, List.set_cons_succ, i64_w, i32_w]
                  rfl
                refine pure_ (i := 5) (N := some 61) (v := ?_) (a' := ?_) #[true, true, true, true, true, true, false] rfl rfl (by kernel_rfl) (fun _ _ _ h => h) (Or.inl ⟨by rfl, ?_⟩) ?_ ?_
                rotate_left
                · intro w'
                  go_simp
                  rw [HWK.out]
                rotate_left
                · simp only [Act.put, List.setIfInBounds_toArray, List.set_cons_zero, List.set_cons_succ, i64_w, i32_w]
                  rfl
                refine pure_ (i := 6) (N := some 7) (v := ?_) (a' := ?_) #[true, true, true, true, true, true, true] rfl rfl (by kernel_rfl) (fun _ _ _ h => h) (Or.inl ⟨by rfl, ?_⟩) ?_ ?_
                rotate_left
                · intro w'
                  go_simp
                  with_reducible rfl
                rotate_left
                · simp only [Act.put, List.setIfInBounds_toArray, List.set_cons_zero, List.set_cons_succ, i64_w, i32_w]
                  rfl
                refine done_ (by kernel_rfl) ?_
                have HBX := Aside0.mk hHeld.2
                have HXX := Aside0.mk hHeld.1
                clear hHeld
                obtain ⟨y0, y1, y2, y3⟩ := cells4_of HXX.out
                clear hkk
                by_cases l0 : kk ≤ 0
                · have l0b : decide (kk ≤ 0) = true := decide_eq_true l0
                  have HV : Aside0 (simpF ⟨6, v, q, ts⟩ = constT 1) := ⟨by rw [HSM.out, HLF.out]; exact if_pos l0⟩
                  go_wp2_with (first | (go_at_call 26; refine (HK2.out W2 HBX.out).mono ?_; rintro e w4 ⟨A6, c6, rfl, hl6, hF6, hb⟩; have HF6 := Aside0.mk hF6; have HL6 := Aside0.mk hl6; have HR4 := Aside0.mk (below_step HBX.out hb); have HB4 := Aside0.mk (below_step HBW.out (below_step HBX.out hb)); have HG4 := Aside0.mk (blk_below HGR.out (below_step HBX.out hb)); have HX4 := Aside0.mk (blk_below HXX.out hb); have HI4 := Aside0.mk (HIR.out.below (below_step HBX.out hb)); have HOK4 : Aside0 (∀ k, (okL k ∨ W2.heap.size ≤ k) → k ≠ w.heap.size + 1 ∧ (k < w0.heap.size ∨ w.heap.size ≤ k)) := ⟨fun k hk => by have h1 := HBX.out.size; rcases hk with hk | hk; exact HOKG.out k hk; omega⟩; clear hb hF6 hl6 y0 y1 y2 y3; obtain ⟨y0, y1, y2, y3⟩ := cells4_of HX4.out; obtain ⟨g0, g1, g2, g3⟩ := cells4_of HG4.out; have f0 := blk_frozen HG4.out 0; have f1 := blk_frozen HG4.out 1; have f2 := blk_frozen HG4.out 2; have f3 := blk_frozen HG4.out 3) | (go_at_call 24; refine (constant.calls _ _).mono ?_; rintro e wc ⟨rfl, hb⟩; clear g0 g1 g2 g3 f0 f1 f2 f3; have HBC := Aside0.mk (below_step HB4.out hb); have HGC := Aside0.mk (blk_below HG4.out hb); obtain ⟨g0, g1, g2, g3⟩ := cells4_of HGC.out; have f0 := blk_frozen HGC.out 0; have f1 := blk_frozen HGC.out 1; have f2 := blk_frozen HGC.out 2; have f3 := blk_frozen HGC.out 3; clear hb))
                  refine bodyPost_ret (results_cell4 rfl rfl (blk_store4 HGC.out)) rfl ?_
                  exact ⟨_, rfl, by rw [HV.out]; exact treeR_const _ _ _, below_store4 HBC.out (by omega)⟩
                · have l0b : decide (kk ≤ 0) = false := decide_eq_false l0
                  by_cases l1 : (n6 : Int) < kk
                  · have l1b : decide ((n6 : Int) < kk) = true := decide_eq_true l1
                    have HV : Aside0 (simpF ⟨6, v, q, ts⟩ = constT 0) := ⟨by rw [HSM.out, HLF.out, if_neg l0]; exact if_pos l1⟩
                    go_wp2_with (first | (go_at_call 26; refine (HK2.out W2 HBX.out).mono ?_; rintro e w4 ⟨A6, c6, rfl, hl6, hF6, hb⟩; have HF6 := Aside0.mk hF6; have HL6 := Aside0.mk hl6; have HR4 := Aside0.mk (below_step HBX.out hb); have HB4 := Aside0.mk (below_step HBW.out (below_step HBX.out hb)); have HG4 := Aside0.mk (blk_below HGR.out (below_step HBX.out hb)); have HX4 := Aside0.mk (blk_below HXX.out hb); have HI4 := Aside0.mk (HIR.out.below (below_step HBX.out hb)); have HOK4 : Aside0 (∀ k, (okL k ∨ W2.heap.size ≤ k) → k ≠ w.heap.size + 1 ∧ (k < w0.heap.size ∨ w.heap.size ≤ k)) := ⟨fun k hk => by have h1 := HBX.out.size; rcases hk with hk | hk; exact HOKG.out k hk; omega⟩; clear hb hF6 hl6 y0 y1 y2 y3; obtain ⟨y0, y1, y2, y3⟩ := cells4_of HX4.out; obtain ⟨g0, g1, g2, g3⟩ := cells4_of HG4.out; have f0 := blk_frozen HG4.out 0; have f1 := blk_frozen HG4.out 1; have f2 := blk_frozen HG4.out 2; have f3 := blk_frozen HG4.out 3) | (go_at_call 24; refine (constant.calls _ _).mono ?_; rintro e wc ⟨rfl, hb⟩; clear g0 g1 g2 g3 f0 f1 f2 f3; have HBC := Aside0.mk (below_step HB4.out hb); have HGC := Aside0.mk (blk_below HG4.out hb); obtain ⟨g0, g1, g2, g3⟩ := cells4_of HGC.out; have f0 := blk_frozen HGC.out 0; have f1 := blk_frozen HGC.out 1; have f2 := blk_frozen HGC.out 2; have f3 := blk_frozen HGC.out 3; clear hb))
                    refine bodyPost_ret (results_cell4 rfl rfl (blk_store4 HGC.out)) rfl ?_
                    exact ⟨_, rfl, by rw [HV.out]; exact treeR_const _ _ _, below_store4 HBC.out (by omega)⟩
                  · have l1b : decide ((n6 : Int) < kk) = false := decide_eq_false l1
                    by_cases l2 : kk = (n6 : Int)
                    · have HV : Aside0 (simpF ⟨6, v, q, ts⟩ = joinF 4 M) := ⟨by rw [HSM.out, HLF.out, if_neg l0, if_neg l1]; exact if_pos l2⟩
                      have l2b : (kk == (n6 : Int)) = true := by simpa using l2
                      clear l2
                      go_wp2_with (first | (go_at_call 26; refine (HK2.out W2 HBX.out).mono ?_; rintro e w4 ⟨A6, c6, rfl, hl6, hF6, hb⟩; have HF6 := Aside0.mk hF6; have HL6 := Aside0.mk hl6; have HR4 := Aside0.mk (below_step HBX.out hb); have HB4 := Aside0.mk (below_step HBW.out (below_step HBX.out hb)); have HG4 := Aside0.mk (blk_below HGR.out (below_step HBX.out hb)); have HX4 := Aside0.mk (blk_below HXX.out hb); have HI4 := Aside0.mk (HIR.out.below (below_step HBX.out hb)); have HOK4 : Aside0 (∀ k, (okL k ∨ W2.heap.size ≤ k) → k ≠ w.heap.size + 1 ∧ (k < w0.heap.size ∨ w.heap.size ≤ k)) := ⟨fun k hk => by have h1 := HBX.out.size; rcases hk with hk | hk; exact HOKG.out k hk; omega⟩; clear hb hF6 hl6 y0 y1 y2 y3; obtain ⟨y0, y1, y2, y3⟩ := cells4_of HX4.out; obtain ⟨g0, g1, g2, g3⟩ := cells4_of HG4.out; have f0 := blk_frozen HG4.out 0; have f1 := blk_frozen HG4.out 1; have f2 := blk_frozen HG4.out 2; have f3 := blk_frozen HG4.out 3) | (go_at_call 25; refine (HJN.out 4 A6 c6 w4 _ (.inl rfl) HF6.out HL6.out HI4.out).mono ?_; rintro e wj ⟨u, rfl, hT, hb⟩; clear g0 g1 g2 g3 f0 f1 f2 f3; have HBJ := Aside0.mk (below_step HB4.out hb); have HGJ := Aside0.mk (blk_below HG4.out hb); obtain ⟨AJ, cJ, eJ, hlJ, hFJ⟩ := hT; subst eJ; have HFJ := Aside0.mk hFJ; obtain ⟨g0, g1, g2, g3⟩ := cells4_of HGJ.out; have f0 := blk_frozen HGJ.out 0; have f1 := blk_frozen HGJ.out 1; have f2 := blk_frozen HGJ.out 2; have f3 := blk_frozen HGJ.out 3; have HOKJ : Aside0 (∀ k, ((okL k ∨ W2.heap.size ≤ k) ∨ w4.heap.size ≤ k) → k ≠ w.heap.size + 1 ∧ (k < w0.heap.size ∨ w.heap.size ≤ k)) := ⟨fun k hk => by have h1 := HR4.out.size; rcases hk with hk | hk; exact HOK4.out k hk; omega⟩; clear hb hFJ))
                      refine bodyPost_ret (results_cell4 rfl rfl (blk_store4 HGJ.out)) rfl ?_
                      exact ⟨_, rfl, by rw [HV.out]; exact treeR_store ⟨AJ, cJ, rfl, hlJ, HFJ.out⟩ (fun k hk => HOKJ.out k hk), below_store4 HBJ.out (by omega)⟩
                    · have l2b : (kk == (n6 : Int)) = false := by simpa using l2
                      by_cases l3 : kk = 1
                      · have HV : Aside0 (simpF ⟨6, v, q, ts⟩ = joinF 5 M) := ⟨by rw [HSM.out, HLF.out, if_neg l0, if_neg l1, if_neg l2]; exact if_pos l3⟩
                        have l3b : (kk == 1) = true := by simpa using l3
                        clear l3 l2
                        go_wp2_with (first | (go_at_call 26; refine (HK2.out W2 HBX.out).mono ?_; rintro e w4 ⟨A6, c6, rfl, hl6, hF6, hb⟩; have HF6 := Aside0.mk hF6; have HL6 := Aside0.mk hl6; have HR4 := Aside0.mk (below_step HBX.out hb); have HB4 := Aside0.mk (below_step HBW.out (below_step HBX.out hb)); have HG4 := Aside0.mk (blk_below HGR.out (below_step HBX.out hb)); have HX4 := Aside0.mk (blk_below HXX.out hb); have HI4 := Aside0.mk (HIR.out.below (below_step HBX.out hb)); have HOK4 : Aside0 (∀ k, (okL k ∨ W2.heap.size ≤ k) → k ≠ w.heap.size + 1 ∧ (k < w0.heap.size ∨ w.heap.size ≤ k)) := ⟨fun k hk => by have h1 := HBX.out.size; rcases hk with hk | hk; exact HOKG.out k hk; omega⟩; clear hb hF6 hl6 y0 y1 y2 y3; obtain ⟨y0, y1, y2, y3⟩ := cells4_of HX4.out; obtain ⟨g0, g1, g2, g3⟩ := cells4_of HG4.out; have f0 := blk_frozen HG4.out 0; have f1 := blk_frozen HG4.out 1; have f2 := blk_frozen HG4.out 2; have f3 := blk_frozen HG4.out 3) | (go_at_call 25; refine (HJN.out 5 A6 c6 w4 _ (.inr rfl) HF6.out HL6.out HI4.out).mono ?_; rintro e wj ⟨u, rfl, hT, hb⟩; clear g0 g1 g2 g3 f0 f1 f2 f3; have HBJ := Aside0.mk (below_step HB4.out hb); have HGJ := Aside0.mk (blk_below HG4.out hb); obtain ⟨AJ, cJ, eJ, hlJ, hFJ⟩ := hT; subst eJ; have HFJ := Aside0.mk hFJ; obtain ⟨g0, g1, g2, g3⟩ := cells4_of HGJ.out; have f0 := blk_frozen HGJ.out 0; have f1 := blk_frozen HGJ.out 1; have f2 := blk_frozen HGJ.out 2; have f3 := blk_frozen HGJ.out 3; have HOKJ : Aside0 (∀ k, ((okL k ∨ W2.heap.size ≤ k) ∨ w4.heap.size ≤ k) → k ≠ w.heap.size + 1 ∧ (k < w0.heap.size ∨ w.heap.size ≤ k)) := ⟨fun k hk => by have h1 := HR4.out.size; rcases hk with hk | hk; exact HOK4.out k hk; omega⟩; clear hb hFJ))
                        refine bodyPost_ret (results_cell4 rfl rfl (blk_store4 HGJ.out)) rfl ?_
                        exact ⟨_, rfl, by rw [HV.out]; exact treeR_store ⟨AJ, cJ, rfl, hlJ, HFJ.out⟩ (fun k hk => HOKJ.out k hk), below_store4 HBJ.out (by omega)⟩
                      · have HV : Aside0 (simpF ⟨6, v, q, ts⟩ = ⟨6, 0, kk, M⟩) := ⟨by rw [HSM.out, HLF.out, if_neg l0, if_neg l1, if_neg l2, if_neg l3]⟩
                        have l3b : (kk == 1) = false := by simpa using l3
                        clear l3 l2
                        go_wp2_with (go_at_call 26; refine (HK2.out W2 HBX.out).mono ?_; rintro e w4 ⟨A6, c6, rfl, hl6, hF6, hb⟩; have HF6 := Aside0.mk hF6; have HL6 := Aside0.mk hl6; have HR4 := Aside0.mk (below_step HBX.out hb); have HB4 := Aside0.mk (below_step HBW.out (below_step HBX.out hb)); have HG4 := Aside0.mk (blk_below HGR.out (below_step HBX.out hb)); have HX4 := Aside0.mk (blk_below HXX.out hb); have HI4 := Aside0.mk (HIR.out.below (below_step HBX.out hb)); have HOK4 : Aside0 (∀ k, (okL k ∨ W2.heap.size ≤ k) → k ≠ w.heap.size + 1 ∧ (k < w0.heap.size ∨ w.heap.size ≤ k)) := ⟨fun k hk => by have h1 := HBX.out.size; rcases hk with hk | hk; exact HOKG.out k hk; omega⟩; clear hb hF6 hl6 y0 y1 y2 y3; obtain ⟨y0, y1, y2, y3⟩ := cells4_of HX4.out; obtain ⟨g0, g1, g2, g3⟩ := cells4_of HG4.out; have f0 := blk_frozen HG4.out 0; have f1 := blk_frozen HG4.out 1; have f2 := blk_frozen HG4.out 2; have f3 := blk_frozen HG4.out 3)
                        refine bodyPost_ret (results_cell4 rfl rfl (blk_store4 HG4.out)) rfl ?_
                        exact ⟨_, rfl, by rw [HV.out]; exact treeR_store ⟨A6, c6, by simp only; rw [← HN6.out], by simp only; rw [← HN6.out]; exact HL6.out, by simp only; rw [← HN6.out]; exact HF6.out⟩ (fun k hk => HOK4.out k hk), below_store4 HB4.out (by omega)⟩
              · have k6b : (kind == 6) = false := by simpa using k6
                replace HSM : Aside0 (simpF ⟨kind, v, q, ts⟩ = ⟨kind, v, q, ts⟩) := ⟨by rw [HSM.out, if_neg k3, if_neg k4, if_neg k5, if_neg k6]⟩
                have HFT := Aside0.mk (Kd.F_below (Kd.C_F heap24k HC.out) (below_step HW.out HBW.out))
                go_wp2_with fail
                refine bodyPost_ret (results_cell4 rfl rfl (blk_store4 HGR.out)) rfl ?_
                exact ⟨_, rfl, by rw [HSM.out]; exact treeR_store ⟨A, c, rfl, hc, HFT.out⟩ (fun k hk => HOKG.out k (HOK0.out k hk)), below_store4 HBW.out (by omega)⟩
end Go.Proofs.YtkcmkoolcakfjaaDoor.P

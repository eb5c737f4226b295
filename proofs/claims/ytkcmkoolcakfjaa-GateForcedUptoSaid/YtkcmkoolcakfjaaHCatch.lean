/- gate.made's deferred closure: what it makes of a stop, and of nothing. -/
import Derived.Test.YtkcmkoolcakfjaaHLit
import Derived.Test.YtkcmkoolcakfjaaWTab
import Derived.Recover
namespace Go.Proofs.Ytkcmkoolcakfjaa.P
open Go.RowKit Go.Proofs.YtkcmkoolcakfjaaW.PrintWords Go.Proofs.YtkcmkoolcakfjaaW.PrintLast Go.Proofs.YtkcmkoolcakfjaaW.PrintMore Go.Proofs.Ytkcmkoolcakfjaa.Aid
set_option linter.unusedVariables false
set_option linter.unusedSimpArgs false

/-- recover finds nothing. -/
theorem catch_idle (p q s : Addr) (w : World) :
    CallsD Try.prog 52 #[.pointer (some p), .pointer (some q), .pointer (some s)] .returning w fun e u' w' => e = .returned (.tuple #[]) ∧ u' = .returning ∧ w' = w := by
  refine callsD_of_wpS Try.func52 rfl fun c₀ cs hu => ?_
  have hcmp : ∀ w : World, (binOp BinOp.eql 20 .nilIface .nilIface).run Try.prog w = .ok (.bool true) w := fun _ => by kernel_rfl
  apply wpS_seq
  apply wpS_region
  simp [wpOpsS, go_sem, recoverD, hu, Try.ntmps52, Exit.thenS]
  refine wpS_of_wp ?_
  have ht : (#[Value.pointer (some p), Value.pointer (some q), Value.pointer (some s)] ++ (Array.replicate 12 undef).setIfInBounds 3 Value.nilIface) = #[Value.pointer (some p), Value.pointer (some q), Value.pointer (some s), undef, undef, undef, Value.nilIface, undef, undef, undef, undef, undef, undef, undef, undef] := by rfl
  rw [ht]
  clear ht
  go_wp2
  cases c₀
  simp_all [bodyPostS, results, Try.results52]

/-- The blocks of the three results. -/
structure CJ (B L S E bx : Nat) (ev : Int) (W0 W : World) (v0 v1 v2 v3 : Value) : Prop where
  below : Below B W0 W
  xL : W.heap[L]? = some (.cells #[v0] 34 (0, 0))
  xS : W.heap[S]? = some (.cells #[v1, v2] 56 (0, 0))
  xE : W.heap[E]? = some (.cells #[v3] 28 (0, 0))
  bx : W.heap[bx]? = some (.cells #[.int .i64 ev] 87 (0, 0))
theorem blk_ne {W : World} {a b ta tb : Nat} {ca cb : Array Value} (ha : W.heap[a]? = some (.cells ca ta (0, 0))) (hb : W.heap[b]? = some (.cells cb tb (0, 0))) (h : ta ≠ tb) : a ≠ b := by
  intro e
  subst e
  rw [ha] at hb
  injection hb with hb
  injection hb with _ hb
  exact h hb
theorem blk_far {W : World} {a b k : Nat} {o : Obj} (ha : W.heap[a]? = some o) (hne : a ≠ b) (u : Value) : (W.setCell ⟨b, k, none⟩ u).heap[a]? = some o := (Below.heap_setCell W ⟨b, k, none⟩ u a hne).trans ha
section
variable {B L S E bx : Nat} {ev : Int} {W0 W : World} {v0 v1 v2 v3 : Value}
theorem CJ.set0 (h : CJ B L S E bx ev W0 W v0 v1 v2 v3) (hB : B ≤ L) (v : Value) : CJ B L S E bx ev W0 (W.setCell ⟨L, 0, none⟩ v) v v1 v2 v3 :=
  ⟨h.below.setCell hB _, blk_put h.xL 0 v rfl, blk_far h.xS (blk_ne h.xS h.xL (by decide)) _, blk_far h.xE (blk_ne h.xE h.xL (by decide)) _, blk_far h.bx (blk_ne h.bx h.xL (by decide)) _⟩
theorem CJ.set1 (h : CJ B L S E bx ev W0 W v0 v1 v2 v3) (hB : B ≤ S) (v : Value) : CJ B L S E bx ev W0 (W.setCell ⟨S, 0, none⟩ v) v0 v v2 v3 :=
  ⟨h.below.setCell hB _, blk_far h.xL (blk_ne h.xL h.xS (by decide)) _, blk_put h.xS 0 v rfl, blk_far h.xE (blk_ne h.xE h.xS (by decide)) _, blk_far h.bx (blk_ne h.bx h.xS (by decide)) _⟩
theorem CJ.set2 (h : CJ B L S E bx ev W0 W v0 v1 v2 v3) (hB : B ≤ S) (v : Value) : CJ B L S E bx ev W0 (W.setCell ⟨S, 1, none⟩ v) v0 v1 v v3 :=
  ⟨h.below.setCell hB _, blk_far h.xL (blk_ne h.xL h.xS (by decide)) _, blk_put h.xS 1 v rfl, blk_far h.xE (blk_ne h.xE h.xS (by decide)) _, blk_far h.bx (blk_ne h.bx h.xS (by decide)) _⟩
theorem CJ.set3 (h : CJ B L S E bx ev W0 W v0 v1 v2 v3) (hB : B ≤ E) (v : Value) : CJ B L S E bx ev W0 (W.setCell ⟨E, 0, none⟩ v) v0 v1 v2 v :=
  ⟨h.below.setCell hB _, blk_far h.xL (blk_ne h.xL h.xE (by decide)) _, blk_far h.xS (blk_ne h.xS h.xE (by decide)) _, blk_put h.xE 0 v rfl, blk_far h.bx (blk_ne h.bx h.xE (by decide)) _⟩
end

set_option maxRecDepth 100000 in
set_option maxHeartbeats 2000000 in
theorem catch_stop (B L S E : Nat) (v0 v1 v2 v3 : Value) (ev : Int) (older : List PanicEntry) (W : World) (hB : B ≤ W.heap.size) (hBL : B ≤ L) (hBS : B ≤ S) (hBE : B ≤ E) (hL : W.heap[L]? = some (.cells #[v0] 34 (0, 0))) (hS : W.heap[S]? = some (.cells #[v1, v2] 56 (0, 0))) (hE : W.heap[E]? = some (.cells #[v3] 28 (0, 0))) :
    CallsD Try.prog 52 #[.pointer (some ⟨L, 0, none⟩), .pointer (some ⟨S, 0, none⟩), .pointer (some ⟨E, 0, none⟩)] (.panicking ({ v := .iface 87 (.agg #[.int .i64 ev]), recovered := false } :: older)) W fun e u' w' => e = .returned (.tuple #[]) ∧ u' = .panicking ({ v := .iface 87 (.agg #[.int .i64 ev]), recovered := true } :: older) ∧
      Below B W w' ∧ w'.heap[L]? = some (.cells #[.slice none 0 0] 34 (0, 0)) ∧ w'.heap[S]? = some (.cells #[.slice none 0 0, .int .i64 0] 56 (0, 0)) ∧ w'.heap[E]? = some (.cells #[.int .i64 ev] 28 (0, 0)) := by
  refine callsD_of_wpS Try.func52 rfl fun c₀ cs hu => ?_
  have hcmp : ∀ w : World, (binOp BinOp.eql 20 (.iface 87 (.agg #[.int .i64 ev])) .nilIface).run Try.prog w = .ok (.bool false) w := fun _ => by kernel_rfl
  have hta : ∀ w : World, (Instr.typeAssert (.iface 87 (.agg #[.int .i64 ev])) 20 87 true).run Try.prog w = .ok (.tuple #[.agg #[.int .i64 ev], .bool true]) w := fun _ => by kernel_rfl
  apply wpS_seq
  apply wpS_region
  simp [wpOpsS, go_sem, recoverD, hu, Try.ntmps52, Exit.thenS]
  refine wpS_of_wp ?_
  have ht : (#[Value.pointer (some ⟨L, 0, none⟩), Value.pointer (some ⟨S, 0, none⟩), Value.pointer (some ⟨E, 0, none⟩)] ++ (Array.replicate 12 undef).setIfInBounds 3 (.iface 87 (.agg #[.int .i64 ev]))) = #[Value.pointer (some ⟨L, 0, none⟩), Value.pointer (some ⟨S, 0, none⟩), Value.pointer (some ⟨E, 0, none⟩), undef, undef, undef, (.iface 87 (.agg #[.int .i64 ev])), undef, undef, undef, undef, undef, undef, undef, undef] := by rfl
  rw [ht]
  clear ht
  go_wp2
  have hb0 : Below B W (W.alloc (.cells #[.int .i64 ev] 87)) := (Below.refl _ _).alloc hB _
  have J : CJ B L S E W.heap.size ev W (W.alloc (.cells #[.int .i64 ev] 87)).drew v0 v1 v2 v3 := ⟨hb0.drew, blk_alloc hL _, blk_alloc hS _, blk_alloc hE _, blk_new W _⟩
  clear hb0 hL hS hE
  refine start_ (n := 6) (S := fun V => V.heap[W.heap.size]? = some (.cells #[.int .i64 ev] 87 (0, 0))) (ds := [5]) #[false, false, false, false, false, false] (by kernel_rfl) rfl rfl J.bx (fun hHeld => ?_)
  generalize (W.alloc (.cells #[.int .i64 ev] 87)).drew = W0 at J hHeld ⊢
  refine pure_ (i := 0) (N := some 12) (v := ?_) (a' := ?_) #[true, false, false, false, false, false] rfl rfl (by kernel_rfl) (fun _ _ _ h => h) (Or.inl ⟨by rfl, ?_⟩) ?_ ?_
  rotate_left
  · intro w'
    go_simp
    with_reducible rfl
  rotate_left
  · simp only [Act.put, List.setIfInBounds_toArray, List.set_cons_zero, List.set_cons_succ, i64_w, i32_w]
    rfl
  refine pure_ (i := 1) (N := some 13) (v := ?_) (a' := ?_) #[true, true, false, false, false, false] rfl rfl (by kernel_rfl) (fun _ _ _ h => h) (Or.inl ⟨by rfl, ?_⟩) ?_ ?_
  rotate_left
  · intro w'
    go_simp
    with_reducible rfl
  rotate_left
  · simp only [Act.put, List.setIfInBounds_toArray, List.set_cons_zero, List.set_cons_succ, i64_w, i32_w]
    rfl
  refine take_ (i := 2) (N := some 14) (v := ?_) (a' := ?_) #[true, true, true, false, false, false] rfl rfl (by kernel_rfl) (fun _ _ _ h => h) (Or.inl ⟨by rfl, ?_⟩) hHeld ?_ ?_
  rotate_left
  · rintro w' hw
    have hc0 := blk_cell hw 0
    go_simp
    with_reducible rfl
  rotate_left
  · simp only [Act.put, List.setIfInBounds_toArray, List.set_cons_zero, List.set_cons_succ, i64_w, i32_w]
    rfl
  have hcz := blk_cell J.xL 0
  have hfz := blk_frozen J.xL 0
  refine one_ (i := 3) (N := none) #[true, true, true, true, false, false] rfl rfl (by kernel_rfl) (by decide) (fun K hK => ?_)
  refine skip_ (w1 := ?_) (by rfl) rfl ?_ ?_
  rotate_left
  · go_simp
    rfl
  replace J := J.set0 hBL (.slice none 0 0)
  clear hcz hfz
  refine hK.out _ _ J.bx (fun hHeld => ?_)
  clear hK K
  revert J
  generalize W0.setCell _ _ = W1
  intro J
  have hcz := blk_cell J.xS 0
  have hfz := blk_frozen J.xS 0
  have hcz1 := blk_cell J.xS 1
  have hfz1 := blk_frozen J.xS 1
  refine one_ (i := 4) (N := none) #[true, true, true, true, true, false] rfl rfl (by kernel_rfl) (by decide) (fun K hK => ?_)
  refine skip_ (w1 := ?_) (by rfl) rfl ?_ ?_
  rotate_left
  · go_simp
    rfl
  replace J := (J.set1 hBS (.slice none 0 0)).set2 hBS (.int .i64 0)
  clear hcz hfz hcz1 hfz1
  refine hK.out _ _ J.bx (fun hHeld => ?_)
  clear hK K
  revert J
  generalize (W1.setCell _ _).setCell _ _ = W2
  intro J
  have hcz := blk_cell J.xE 0
  have hfz := blk_frozen J.xE 0
  refine last_ (i := 5) (N := none) #[true, true, true, true, true, true] rfl rfl (by kernel_rfl) (by decide) (fun K hK => ?_)
  refine skip_ (w1 := ?_) (by rfl) rfl ?_ ?_
  rotate_left
  · go_simp
    rfl
  replace J := J.set3 hBE (.int .i64 ev)
  clear hcz hfz
  refine hK.out _ _ ?_
  clear hK K
  revert J
  generalize W2.setCell _ _ = W3
  intro J
  refine done_ (by kernel_rfl) ?_
  cases c₀
  simp only [Exit.inBlock, bodyPostS]
  exact ⟨rfl, _, rfl, _, results_none rfl _ _ _, rfl, rfl, J.below, J.xL, J.xS, J.xE⟩
end Go.Proofs.Ytkcmkoolcakfjaa.P

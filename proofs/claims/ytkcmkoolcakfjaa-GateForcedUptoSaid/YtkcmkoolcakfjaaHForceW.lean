/- lin.Force walked, where the literals are those of different variables; what propagation makes of a formula's constraints. -/
import Derived.Test.YtkcmkoolcakfjaaHNormW
/- lin.Force: its two closures, the folds, and Force itself where the literals are those of different variables. -/
namespace Go.Proofs.Ytkcmkoolcakfjaa.P
open Go.RowKit Go.Proofs.YtkcmkoolcakfjaaW.PrintWords Go.Proofs.YtkcmkoolcakfjaaW.PrintLast Go.Proofs.YtkcmkoolcakfjaaW.PrintMore Go.Proofs.Ytkcmkoolcakfjaa.Aid
set_option linter.unusedVariables false
set_option linter.unusedSimpArgs false

/-- The map of literals by their variables. -/
def lz (lits : List Int) : List (Int × Value) := lits.map fun y => (absF y, .int .i64 y)
theorem getV_lz (lits : List Int) (k : Int) : (getV (lz lits) k).getD (.int .i64 0) = .int .i64 (isL lits k) := by
  induction lits with
  | nil => rfl
  | cons y ys ih =>
    simp only [lz, List.map_cons, getV, isL] at ih ⊢
    split
    · rfl
    · exact ih
set_option maxRecDepth 100000 in
set_option maxHeartbeats 1000000 in
theorem spareStep.calls (n c lit : Int) (b mb : Nat) (lits : List Int) (w : World) (hbx : w.heap[b]? = some (.cells #[.map (some mb)] 73 (0, 0))) (hM : MapAt w mb (lz lits)) (h0 : -65536 ≤ lit) (h1 : lit ≤ 65536) (hn0 : -4611686018427387904 ≤ n) (hn1 : n ≤ 4611686018427387904) (hc0 : -1152921504606846976 ≤ c) (hc1 : c ≤ 1152921504606846976) :
    Calls Try.prog 48 #[.int .i64 n, .int .i64 c, .int .i64 lit, .pointer (some ⟨b, 0, none⟩)] w fun e w' => e = .returned (.int .i64 (spareG lits n c lit)) ∧ Below w.heap.size w w' := by
  have HOF := Aside0.mk (fun W => of.calls lit W h0 h1)
  have HBX := Aside0.mk hbx
  have HM := Aside0.mk hM
  have HLK := Aside0.mk (getV_lz lits (absF lit))
  have HD := Aside0.mk (below_drew (Below.refl w.heap.size w))
  clear hbx hM
  obtain ⟨y, hy⟩ : ∃ y, isL lits (absF lit) = y := ⟨_, rfl⟩
  have HV : Aside0 (spareG lits n c lit = if y = -lit then n else n + c) := ⟨by unfold spareG; rw [hy]⟩
  rw [hy] at HLK
  obtain ⟨v, hv⟩ : ∃ v, absF lit = v := ⟨_, rfl⟩
  rw [hv] at HLK HOF
  clear hy hv
  have hwr : wrap64 (-lit) = -lit := IntWalk.wrap64_in _ (by omega)
  by_cases h : y = -lit
  · have hd : (y == wrap64 (-lit)) = true := by rw [hwr]; simpa using h
    rw [if_pos h] at HV
    clear h hwr
    go_enter Try.func48, Try.ntmps48
    go_wp2_with fail
    refine start_ (n := 7) (S := fun V => V.heap[b]? = some (.cells #[.map (some mb)] 73 (0, 0)) ∧ MapAt V mb (lz lits)) (ds := []) #[false, false, false, false, false, false, false] (by kernel_rfl) rfl rfl ⟨HBX.out, HM.out.move rfl⟩ (fun hHeld => ?_)
    generalize w.drew = W0 at HD hHeld ⊢
    refine pure_ (i := 1) (N := some 9) (v := ?_) (a' := ?_) #[false, true, false, false, false, false, false] rfl rfl (by kernel_rfl) (fun _ _ _ h => h) (Or.inl ⟨by rfl, ?_⟩) ?_ ?_
    rotate_left
    · intro w'
      go_simp
      with_reducible rfl
    rotate_left
    · simp only [Act.put, List.setIfInBounds_toArray, List.set_cons_zero, List.set_cons_succ, i64_w, i32_w]
      rfl
    refine take_ (i := 0) (N := some 8) (v := ?_) (a' := ?_) #[true, true, false, false, false, false, false] rfl rfl (by kernel_rfl) (fun _ _ _ h => h) (Or.inl ⟨by rfl, ?_⟩) hHeld ?_ ?_
    rotate_left
    · rintro w' hw
      have hc0 := blk_cell hw.1 0
      go_simp
      with_reducible rfl
    rotate_left
    · simp only [Act.put, List.setIfInBounds_toArray, List.set_cons_zero, List.set_cons_succ, i64_w, i32_w]
      rfl
    refine pure_ (i := 4) (N := some 12) (v := ?_) (a' := ?_) #[true, true, false, false, true, false, false] rfl rfl (by kernel_rfl) (fun _ _ _ h => h) (Or.inl ⟨by rfl, ?_⟩) ?_ ?_
    rotate_left
    · intro w'
      go_simp
      with_reducible rfl
    rotate_left
    · simp only [Act.put, List.setIfInBounds_toArray, List.set_cons_zero, List.set_cons_succ, i64_w, i32_w]
      rfl
    refine pure_ (i := 5) (N := some 13) (v := ?_) (a' := ?_) #[true, true, false, false, true, true, false] rfl rfl (by kernel_rfl) (fun _ _ _ h => h) (Or.inl ⟨by rfl, ?_⟩) ?_ ?_
    rotate_left
    · intro w'
      go_simp
      with_reducible rfl
    rotate_left
    · simp only [Act.put, List.setIfInBounds_toArray, List.set_cons_zero, List.set_cons_succ, i64_w, i32_w]
      rfl
    refine one_ (i := 2) (N := some 10) #[true, true, true, false, true, true, false] rfl rfl (by kernel_rfl) (by decide) (fun K hK => ?_)
    refine goes_ Try.func45 (by kernel_rfl) rfl #[.int .i64 lit] (by rfl) rfl rfl (by simp only [List.map_toArray, List.map_cons, List.map_nil]; rfl) ?_
    refine (HOF.out _).mono ?_
    rintro e w4 ⟨rfl, rfl⟩
    refine ⟨_, rfl, ?_⟩
    refine hK.out _ _ hHeld (fun hHeld => ?_)
    clear hK K
    refine norm_ (a' := ?_) ?_ ?_
    rotate_left
    · show Act.put _ (some 10) _ = _
      simp only [Act.put, List.setIfInBounds_toArray, List.set_cons_zero, List.set_cons_succ, i64_w, i32_w]
      rfl
    refine take_ (i := 3) (N := some 11) (v := ?_) (a' := ?_) #[true, true, true, true, true, true, false] rfl rfl (by kernel_rfl) (fun _ _ _ h => h) (Or.inl ⟨by rfl, ?_⟩) hHeld ?_ ?_
    rotate_left
    · rintro w' hw
      have hc0 := run_lookup_map (P := Try.prog) Try.underlying73 Try.underlying3 hw.2 v (z := .int .i64 0) (by kernel_rfl); rw [HLK.out] at hc0
      go_simp
      with_reducible rfl
    rotate_left
    · simp only [Act.put, List.setIfInBounds_toArray, List.set_cons_zero, List.set_cons_succ, i64_w, i32_w]
      rfl
    refine pure_ (i := 6) (N := some 14) (v := ?_) (a' := ?_) #[true, true, true, true, true, true, true] rfl rfl (by kernel_rfl) (fun _ _ _ h => h) (Or.inl ⟨by rfl, ?_⟩) ?_ ?_
    rotate_left
    · intro w'
      go_simp
      try rfl
    rotate_left
    · simp only [Act.put, List.setIfInBounds_toArray, List.set_cons_zero, List.set_cons_succ, i64_w, i32_w]
      rfl
    refine done_ (by kernel_rfl) ?_
    go_wp2_with fail
    go_ret
    exact ⟨by rw [HV.out]; rfl, HD.out⟩
  · have hd : (y == wrap64 (-lit)) = false := by rw [hwr]; simpa using h
    rw [if_neg h] at HV
    clear h hwr
    go_enter Try.func48, Try.ntmps48
    go_wp2_with fail
    refine start_ (n := 7) (S := fun V => V.heap[b]? = some (.cells #[.map (some mb)] 73 (0, 0)) ∧ MapAt V mb (lz lits)) (ds := []) #[false, false, false, false, false, false, false] (by kernel_rfl) rfl rfl ⟨HBX.out, HM.out.move rfl⟩ (fun hHeld => ?_)
    generalize w.drew = W0 at HD hHeld ⊢
    refine pure_ (i := 1) (N := some 9) (v := ?_) (a' := ?_) #[false, true, false, false, false, false, false] rfl rfl (by kernel_rfl) (fun _ _ _ h => h) (Or.inl ⟨by rfl, ?_⟩) ?_ ?_
    rotate_left
    · intro w'
      go_simp
      with_reducible rfl
    rotate_left
    · simp only [Act.put, List.setIfInBounds_toArray, List.set_cons_zero, List.set_cons_succ, i64_w, i32_w]
      rfl
    refine take_ (i := 0) (N := some 8) (v := ?_) (a' := ?_) #[true, true, false, false, false, false, false] rfl rfl (by kernel_rfl) (fun _ _ _ h => h) (Or.inl ⟨by rfl, ?_⟩) hHeld ?_ ?_
    rotate_left
    · rintro w' hw
      have hc0 := blk_cell hw.1 0
      go_simp
      with_reducible rfl
    rotate_left
    · simp only [Act.put, List.setIfInBounds_toArray, List.set_cons_zero, List.set_cons_succ, i64_w, i32_w]
      rfl
    refine pure_ (i := 4) (N := some 12) (v := ?_) (a' := ?_) #[true, true, false, false, true, false, false] rfl rfl (by kernel_rfl) (fun _ _ _ h => h) (Or.inl ⟨by rfl, ?_⟩) ?_ ?_
    rotate_left
    · intro w'
      go_simp
      with_reducible rfl
    rotate_left
    · simp only [Act.put, List.setIfInBounds_toArray, List.set_cons_zero, List.set_cons_succ, i64_w, i32_w]
      rfl
    refine pure_ (i := 5) (N := some 13) (v := ?_) (a' := ?_) #[true, true, false, false, true, true, false] rfl rfl (by kernel_rfl) (fun _ _ _ h => h) (Or.inl ⟨by rfl, ?_⟩) ?_ ?_
    rotate_left
    · intro w'
      go_simp
      with_reducible rfl
    rotate_left
    · simp only [Act.put, List.setIfInBounds_toArray, List.set_cons_zero, List.set_cons_succ, i64_w, i32_w]
      rfl
    refine one_ (i := 2) (N := some 10) #[true, true, true, false, true, true, false] rfl rfl (by kernel_rfl) (by decide) (fun K hK => ?_)
    refine goes_ Try.func45 (by kernel_rfl) rfl #[.int .i64 lit] (by rfl) rfl rfl (by simp only [List.map_toArray, List.map_cons, List.map_nil]; rfl) ?_
    refine (HOF.out _).mono ?_
    rintro e w4 ⟨rfl, rfl⟩
    refine ⟨_, rfl, ?_⟩
    refine hK.out _ _ hHeld (fun hHeld => ?_)
    clear hK K
    refine norm_ (a' := ?_) ?_ ?_
    rotate_left
    · show Act.put _ (some 10) _ = _
      simp only [Act.put, List.setIfInBounds_toArray, List.set_cons_zero, List.set_cons_succ, i64_w, i32_w]
      rfl
    refine take_ (i := 3) (N := some 11) (v := ?_) (a' := ?_) #[true, true, true, true, true, true, false] rfl rfl (by kernel_rfl) (fun _ _ _ h => h) (Or.inl ⟨by rfl, ?_⟩) hHeld ?_ ?_
    rotate_left
    · rintro w' hw
      have hc0 := run_lookup_map (P := Try.prog) Try.underlying73 Try.underlying3 hw.2 v (z := .int .i64 0) (by kernel_rfl); rw [HLK.out] at hc0
      go_simp
      with_reducible rfl
    rotate_left
    · simp only [Act.put, List.setIfInBounds_toArray, List.set_cons_zero, List.set_cons_succ, i64_w, i32_w]
      rfl
    refine pure_ (i := 6) (N := some 14) (v := ?_) (a' := ?_) #[true, true, true, true, true, true, true] rfl rfl (by kernel_rfl) (fun _ _ _ h => h) (Or.inl ⟨by rfl, ?_⟩) ?_ ?_
    rotate_left
    · intro w'
      go_simp
      try rfl
    rotate_left
    · simp only [Act.put, List.setIfInBounds_toArray, List.set_cons_zero, List.set_cons_succ, i64_w, i32_w]
      rfl
    refine done_ (by kernel_rfl) ?_
    go_wp2_with fail
    go_ret
    exact ⟨by rw [HV.out]; rfl, HD.out⟩

set_option maxRecDepth 100000 in
set_option maxHeartbeats 1000000 in
theorem forceStep.calls (B : Nat) (vl : Value) (xs : List Int) (c lit : Int) (b mb q : Nat) (sp : Int) (lits : List Int) (w : World) (hr : IRow w B vl xs) (hB : B ≤ w.heap.size) (hxl : xs.length ≤ 1048576) (hbx : w.heap[b]? = some (.cells #[.map (some mb)] 73 (0, 0))) (hM : MapAt w mb (lz lits)) (hq : w.heap[q]? = some (.cells #[.int .i64 sp] 3 (0, 0))) (h0 : -65536 ≤ lit) (h1 : lit ≤ 65536) :
    Calls Try.prog 50 #[vl, .int .i64 c, .int .i64 lit, .pointer (some ⟨b, 0, none⟩), .pointer (some ⟨q, 0, none⟩)] w fun e w' => ∃ v', e = .returned v' ∧ IRow w' B v' (forceG lits sp xs c lit) ∧ Below B w w' := by
  have HOF := Aside0.mk (fun W => of.calls lit W h0 h1)
  have HBX := Aside0.mk hbx
  have HQX := Aside0.mk hq
  have HM := Aside0.mk hM
  have HLK := Aside0.mk (getV_lz lits (absF lit))
  have HD := Aside0.mk (below_drew (Below.refl B w))
  have HRW : Aside0 (IRow w.drew B vl xs ∧ w.drew.heap.size = w.heap.size) := ⟨hr, rfl⟩
  clear hbx hM hq hr
  obtain ⟨y, hy⟩ : ∃ y, isL lits (absF lit) = y := ⟨_, rfl⟩
  have HV : Aside0 (forceG lits sp xs c lit = if y = 0 ∧ sp < c then xs ++ [lit] else xs) := ⟨by unfold forceG; rw [hy]⟩
  rw [hy] at HLK
  obtain ⟨v, hv⟩ : ∃ v, absF lit = v := ⟨_, rfl⟩
  rw [hv] at HLK HOF
  clear hy hv
  by_cases h : y = 0
  · have hd : (y == 0) = true := by simpa using h
    by_cases hc : sp < c
    · rw [if_pos ⟨h, hc⟩] at HV
      have hcd : decide (sp < c) = true := decide_eq_true hc
      have hcd2 : decide (c > sp) = true := decide_eq_true hc
      clear h
      go_enter Try.func50, Try.ntmps50
      go_wp2_with fail
      refine start_ (n := 10) (S := fun V => V.heap[b]? = some (.cells #[.map (some mb)] 73 (0, 0)) ∧ MapAt V mb (lz lits) ∧ V.heap[q]? = some (.cells #[.int .i64 sp] 3 (0, 0))) (ds := []) #[false, false, false, false, false, false, false, false, false, false] (by kernel_rfl) rfl rfl ⟨HBX.out, HM.out.move rfl, HQX.out⟩ (fun hHeld => ?_)
      generalize w.drew = W0 at HD HRW hHeld ⊢
      refine pure_ (i := 1) (N := some 10) (v := ?_) (a' := ?_) #[false, true, false, false, false, false, false, false, false, false] rfl rfl (by kernel_rfl) (fun _ _ _ h => h) (Or.inl ⟨by rfl, ?_⟩) ?_ ?_
      rotate_left
      · intro w'
        go_simp
        with_reducible rfl
      rotate_left
      · simp only [Act.put, List.setIfInBounds_toArray, List.set_cons_zero, List.set_cons_succ, i64_w, i32_w]
        rfl
      refine take_ (i := 0) (N := some 9) (v := ?_) (a' := ?_) #[true, true, false, false, false, false, false, false, false, false] rfl rfl (by kernel_rfl) (fun _ _ _ h => h) (Or.inl ⟨by rfl, ?_⟩) hHeld ?_ ?_
      rotate_left
      · rintro w' hw
        have hc0 := blk_cell hw.1 0
        go_simp
        with_reducible rfl
      rotate_left
      · simp only [Act.put, List.setIfInBounds_toArray, List.set_cons_zero, List.set_cons_succ, i64_w, i32_w]
        rfl
      refine one_ (i := 2) (N := some 11) #[true, true, true, false, false, false, false, false, false, false] rfl rfl (by kernel_rfl) (by decide) (fun K hK => ?_)
      refine goes_ Try.func45 (by kernel_rfl) rfl #[.int .i64 lit] (by rfl) rfl rfl (by simp only [List.map_toArray, List.map_cons, List.map_nil]; rfl) ?_
      refine (HOF.out _).mono ?_
      rintro e w4 ⟨rfl, rfl⟩
      refine ⟨_, rfl, ?_⟩
      refine hK.out _ _ hHeld (fun hHeld => ?_)
      clear hK K
      refine norm_ (a' := ?_) ?_ ?_
      rotate_left
      · show Act.put _ (some 11) _ = _
        simp only [Act.put, List.setIfInBounds_toArray, List.set_cons_zero, List.set_cons_succ, i64_w, i32_w]
        rfl
      refine take_ (i := 3) (N := some 12) (v := ?_) (a' := ?_) #[true, true, true, true, false, false, false, false, false, false] rfl rfl (by kernel_rfl) (fun _ _ _ h => h) (Or.inl ⟨by rfl, ?_⟩) hHeld ?_ ?_
      rotate_left
      · rintro w' hw
        have hc0 := run_lookup_map (P := Try.prog) Try.underlying73 Try.underlying3 hw.2.1 v (z := .int .i64 0) (by kernel_rfl); rw [HLK.out] at hc0
        go_simp
        with_reducible rfl
      rotate_left
      · simp only [Act.put, List.setIfInBounds_toArray, List.set_cons_zero, List.set_cons_succ, i64_w, i32_w]
        rfl
      refine pure_ (i := 4) (N := some 13) (v := ?_) (a' := ?_) #[true, true, true, true, true, false, false, false, false, false] rfl rfl (by kernel_rfl) (fun _ _ _ h => h) (Or.inl ⟨by rfl, ?_⟩) ?_ ?_
      rotate_left
      · intro w'
        go_simp
        try rfl
      rotate_left
      · simp only [Act.put, List.setIfInBounds_toArray, List.set_cons_zero, List.set_cons_succ, i64_w, i32_w]
        rfl
      refine pure_ (i := 5) (N := some 14) (v := ?_) (a' := ?_) #[true, true, true, true, true, true, false, false, false, false] rfl rfl (by kernel_rfl) (fun _ _ _ h => h) (Or.inl ⟨by rfl, ?_⟩) ?_ ?_
      rotate_left
      · intro w'
        go_simp
        try rfl
      rotate_left
      · simp only [Act.put, List.setIfInBounds_toArray, List.set_cons_zero, List.set_cons_succ, i64_w, i32_w]
        rfl
      refine pure_ (i := 6) (N := some 15) (v := ?_) (a' := ?_) #[true, true, true, true, true, true, true, false, false, false] rfl rfl (by kernel_rfl) (fun _ _ _ h => h) (Or.inl ⟨by rfl, ?_⟩) ?_ ?_
      rotate_left
      · intro w'
        go_simp
        with_reducible rfl
      rotate_left
      · simp only [Act.put, List.setIfInBounds_toArray, List.set_cons_zero, List.set_cons_succ, i64_w, i32_w]
        rfl
      refine take_ (i := 7) (N := some 16) (v := ?_) (a' := ?_) #[true, true, true, true, true, true, true, true, false, false] rfl rfl (by kernel_rfl) (fun _ _ _ h => h) (Or.inl ⟨by rfl, ?_⟩) hHeld ?_ ?_
      rotate_left
      · rintro w' hw
        have hc0 := blk_cell hw.2.2 0
        go_simp
        with_reducible rfl
      rotate_left
      · simp only [Act.put, List.setIfInBounds_toArray, List.set_cons_zero, List.set_cons_succ, i64_w, i32_w]
        rfl
      refine pure_ (i := 8) (N := some 17) (v := ?_) (a' := ?_) #[true, true, true, true, true, true, true, true, true, false] rfl rfl (by kernel_rfl) (fun _ _ _ h => h) (Or.inl ⟨by rfl, ?_⟩) ?_ ?_
      rotate_left
      · intro w'
        go_simp
        try rfl
      rotate_left
      · simp only [Act.put, List.setIfInBounds_toArray, List.set_cons_zero, List.set_cons_succ, i64_w, i32_w]
        rfl
      refine pure_ (i := 9) (N := some 18) (v := ?_) (a' := ?_) #[true, true, true, true, true, true, true, true, true, true] rfl rfl (by kernel_rfl) (fun _ _ _ h => h) (Or.inl ⟨by rfl, ?_⟩) ?_ ?_
      rotate_left
      · intro w'
        go_simp
        try rfl
      rotate_left
      · simp only [Act.put, List.setIfInBounds_toArray, List.set_cons_zero, List.set_cons_succ, i64_w, i32_w]
        rfl
      refine done_ (by kernel_rfl) ?_
      go_wp2_with (at_builtin; (refine app1_list (enc := Value.int .i64) B rfl (.tmp 19) (.tmp 21) 34 3 (.int .i64 0) 8 rfl Try.underlying34 info3 rfl (by omega) (fun _ => rfl) rfl rfl (HRW.out.1.below (below_alloc (Below.refl W0.heap.size W0) _)) (blk_new W0 _) (by rw [World.size_alloc]; have := HRW.out.2; omega) (by omega) ?_; intro v9 w9 hr9 hg9 hat9 _; have HR9 := Aside0.mk hr9; have HB9 : Aside0 (Below B w w9) := ⟨(HD.out.alloc (by have := HRW.out.2; omega) _).grown hg9 (by rw [World.size_alloc]; have := HRW.out.2; omega) (fun k hk => (HRW.out.1.lt k hk).1)⟩; clear hr9 hg9 hat9))
      go_ret
      exact ⟨_, rfl, by rw [HV.out]; exact HR9.out, HB9.out⟩
    · rw [if_neg (fun h => hc h.2)] at HV
      have hcd : decide (sp < c) = false := decide_eq_false hc
      have hcd2 : decide (c > sp) = false := decide_eq_false hc
      clear h
      go_enter Try.func50, Try.ntmps50
      go_wp2_with fail
      refine start_ (n := 10) (S := fun V => V.heap[b]? = some (.cells #[.map (some mb)] 73 (0, 0)) ∧ MapAt V mb (lz lits) ∧ V.heap[q]? = some (.cells #[.int .i64 sp] 3 (0, 0))) (ds := []) #[false, false, false, false, false, false, false, false, false, false] (by kernel_rfl) rfl rfl ⟨HBX.out, HM.out.move rfl, HQX.out⟩ (fun hHeld => ?_)
      generalize w.drew = W0 at HD HRW hHeld ⊢
      refine pure_ (i := 1) (N := some 10) (v := ?_) (a' := ?_) #[false, true, false, false, false, false, false, false, false, false] rfl rfl (by kernel_rfl) (fun _ _ _ h => h) (Or.inl ⟨by rfl, ?_⟩) ?_ ?_
      rotate_left
      · intro w'
        go_simp
        with_reducible rfl
      rotate_left
      · simp only [Act.put, List.setIfInBounds_toArray, List.set_cons_zero, List.set_cons_succ, i64_w, i32_w]
        rfl
      refine take_ (i := 0) (N := some 9) (v := ?_) (a' := ?_) #[true, true, false, false, false, false, false, false, false, false] rfl rfl (by kernel_rfl) (fun _ _ _ h => h) (Or.inl ⟨by rfl, ?_⟩) hHeld ?_ ?_
      rotate_left
      · rintro w' hw
        have hc0 := blk_cell hw.1 0
        go_simp
        with_reducible rfl
      rotate_left
      · simp only [Act.put, List.setIfInBounds_toArray, List.set_cons_zero, List.set_cons_succ, i64_w, i32_w]
        rfl
      refine one_ (i := 2) (N := some 11) #[true, true, true, false, false, false, false, false, false, false] rfl rfl (by kernel_rfl) (by decide) (fun K hK => ?_)
      refine goes_ Try.func45 (by kernel_rfl) rfl #[.int .i64 lit] (by rfl) rfl rfl (by simp only [List.map_toArray, List.map_cons, List.map_nil]; rfl) ?_
      refine (HOF.out _).mono ?_
      rintro e w4 ⟨rfl, rfl⟩
      refine ⟨_, rfl, ?_⟩
      refine hK.out _ _ hHeld (fun hHeld => ?_)
      clear hK K
      refine norm_ (a' := ?_) ?_ ?_
      rotate_left
      · show Act.put _ (some 11) _ = _
        simp only [Act.put, List.setIfInBounds_toArray, List.set_cons_zero, List.set_cons_succ, i64_w, i32_w]
        rfl
      refine take_ (i := 3) (N := some 12) (v := ?_) (a' := ?_) #[true, true, true, true, false, false, false, false, false, false] rfl rfl (by kernel_rfl) (fun _ _ _ h => h) (Or.inl ⟨by rfl, ?_⟩) hHeld ?_ ?_
      rotate_left
      · rintro w' hw
        have hc0 := run_lookup_map (P := Try.prog) Try.underlying73 Try.underlying3 hw.2.1 v (z := .int .i64 0) (by kernel_rfl); rw [HLK.out] at hc0
        go_simp
        with_reducible rfl
      rotate_left
      · simp only [Act.put, List.setIfInBounds_toArray, List.set_cons_zero, List.set_cons_succ, i64_w, i32_w]
        rfl
      refine pure_ (i := 4) (N := some 13) (v := ?_) (a' := ?_) #[true, true, true, true, true, false, false, false, false, false] rfl rfl (by kernel_rfl) (fun _ _ _ h => h) (Or.inl ⟨by rfl, ?_⟩) ?_ ?_
      rotate_left
      · intro w'
        go_simp
        try rfl
      rotate_left
      · simp only [Act.put, List.setIfInBounds_toArray, List.set_cons_zero, List.set_cons_succ, i64_w, i32_w]
        rfl
      refine pure_ (i := 5) (N := some 14) (v := ?_) (a' := ?_) #[true, true, true, true, true, true, false, false, false, false] rfl rfl (by kernel_rfl) (fun _ _ _ h => h) (Or.inl ⟨by rfl, ?_⟩) ?_ ?_
      rotate_left
      · intro w'
        go_simp
        try rfl
      rotate_left
      · simp only [Act.put, List.setIfInBounds_toArray, List.set_cons_zero, List.set_cons_succ, i64_w, i32_w]
        rfl
      refine pure_ (i := 6) (N := some 15) (v := ?_) (a' := ?_) #[true, true, true, true, true, true, true, false, false, false] rfl rfl (by kernel_rfl) (fun _ _ _ h => h) (Or.inl ⟨by rfl, ?_⟩) ?_ ?_
      rotate_left
      · intro w'
        go_simp
        with_reducible rfl
      rotate_left
      · simp only [Act.put, List.setIfInBounds_toArray, List.set_cons_zero, List.set_cons_succ, i64_w, i32_w]
        rfl
      refine take_ (i := 7) (N := some 16) (v := ?_) (a' := ?_) #[true, true, true, true, true, true, true, true, false, false] rfl rfl (by kernel_rfl) (fun _ _ _ h => h) (Or.inl ⟨by rfl, ?_⟩) hHeld ?_ ?_
      rotate_left
      · rintro w' hw
        have hc0 := blk_cell hw.2.2 0
        go_simp
        with_reducible rfl
      rotate_left
      · simp only [Act.put, List.setIfInBounds_toArray, List.set_cons_zero, List.set_cons_succ, i64_w, i32_w]
        rfl
      refine pure_ (i := 8) (N := some 17) (v := ?_) (a' := ?_) #[true, true, true, true, true, true, true, true, true, false] rfl rfl (by kernel_rfl) (fun _ _ _ h => h) (Or.inl ⟨by rfl, ?_⟩) ?_ ?_
      rotate_left
      · intro w'
        go_simp
        try rfl
      rotate_left
      · simp only [Act.put, List.setIfInBounds_toArray, List.set_cons_zero, List.set_cons_succ, i64_w, i32_w]
        rfl
      refine pure_ (i := 9) (N := some 18) (v := ?_) (a' := ?_) #[true, true, true, true, true, true, true, true, true, true] rfl rfl (by kernel_rfl) (fun _ _ _ h => h) (Or.inl ⟨by rfl, ?_⟩) ?_ ?_
      rotate_left
      · intro w'
        go_simp
        try rfl
      rotate_left
      · simp only [Act.put, List.setIfInBounds_toArray, List.set_cons_zero, List.set_cons_succ, i64_w, i32_w]
        rfl
      refine done_ (by kernel_rfl) ?_
      go_wp2_with fail
      go_ret
      exact ⟨_, rfl, by rw [HV.out]; exact HRW.out.1, HD.out⟩
  · have hd : (y == 0) = false := by simpa using h
    rw [if_neg (fun h2 => h h2.1)] at HV
    clear h
    go_enter Try.func50, Try.ntmps50
    go_wp2_with fail
    refine start_ (n := 10) (S := fun V => V.heap[b]? = some (.cells #[.map (some mb)] 73 (0, 0)) ∧ MapAt V mb (lz lits) ∧ V.heap[q]? = some (.cells #[.int .i64 sp] 3 (0, 0))) (ds := []) #[false, false, false, false, false, false, false, false, false, false] (by kernel_rfl) rfl rfl ⟨HBX.out, HM.out.move rfl, HQX.out⟩ (fun hHeld => ?_)
    generalize w.drew = W0 at HD HRW hHeld ⊢
    refine pure_ (i := 1) (N := some 10) (v := ?_) (a' := ?_) #[false, true, false, false, false, false, false, false, false, false] rfl rfl (by kernel_rfl) (fun _ _ _ h => h) (Or.inl ⟨by rfl, ?_⟩) ?_ ?_
    rotate_left
    · intro w'
      go_simp
      with_reducible rfl
    rotate_left
    · simp only [Act.put, List.setIfInBounds_toArray, List.set_cons_zero, List.set_cons_succ, i64_w, i32_w]
      rfl
    refine take_ (i := 0) (N := some 9) (v := ?_) (a' := ?_) #[true, true, false, false, false, false, false, false, false, false] rfl rfl (by kernel_rfl) (fun _ _ _ h => h) (Or.inl ⟨by rfl, ?_⟩) hHeld ?_ ?_
    rotate_left
    · rintro w' hw
      have hc0 := blk_cell hw.1 0
      go_simp
      with_reducible rfl
    rotate_left
    · simp only [Act.put, List.setIfInBounds_toArray, List.set_cons_zero, List.set_cons_succ, i64_w, i32_w]
      rfl
    refine one_ (i := 2) (N := some 11) #[true, true, true, false, false, false, false, false, false, false] rfl rfl (by kernel_rfl) (by decide) (fun K hK => ?_)
    refine goes_ Try.func45 (by kernel_rfl) rfl #[.int .i64 lit] (by rfl) rfl rfl (by simp only [List.map_toArray, List.map_cons, List.map_nil]; rfl) ?_
    refine (HOF.out _).mono ?_
    rintro e w4 ⟨rfl, rfl⟩
    refine ⟨_, rfl, ?_⟩
    refine hK.out _ _ hHeld (fun hHeld => ?_)
    clear hK K
    refine norm_ (a' := ?_) ?_ ?_
    rotate_left
    · show Act.put _ (some 11) _ = _
      simp only [Act.put, List.setIfInBounds_toArray, List.set_cons_zero, List.set_cons_succ, i64_w, i32_w]
      rfl
    refine take_ (i := 3) (N := some 12) (v := ?_) (a' := ?_) #[true, true, true, true, false, false, false, false, false, false] rfl rfl (by kernel_rfl) (fun _ _ _ h => h) (Or.inl ⟨by rfl, ?_⟩) hHeld ?_ ?_
    rotate_left
    · rintro w' hw
      have hc0 := run_lookup_map (P := Try.prog) Try.underlying73 Try.underlying3 hw.2.1 v (z := .int .i64 0) (by kernel_rfl); rw [HLK.out] at hc0
      go_simp
      with_reducible rfl
    rotate_left
    · simp only [Act.put, List.setIfInBounds_toArray, List.set_cons_zero, List.set_cons_succ, i64_w, i32_w]
      rfl
    refine pure_ (i := 4) (N := some 13) (v := ?_) (a' := ?_) #[true, true, true, true, true, false, false, false, false, false] rfl rfl (by kernel_rfl) (fun _ _ _ h => h) (Or.inl ⟨by rfl, ?_⟩) ?_ ?_
    rotate_left
    · intro w'
      go_simp
      try rfl
    rotate_left
    · simp only [Act.put, List.setIfInBounds_toArray, List.set_cons_zero, List.set_cons_succ, i64_w, i32_w]
      rfl
    refine pure_ (i := 5) (N := some 14) (v := ?_) (a' := ?_) #[true, true, true, true, true, true, false, false, false, false] rfl rfl (by kernel_rfl) (fun _ _ _ h => h) (Or.inl ⟨by rfl, ?_⟩) ?_ ?_
    rotate_left
    · intro w'
      go_simp
      try rfl
    rotate_left
    · simp only [Act.put, List.setIfInBounds_toArray, List.set_cons_zero, List.set_cons_succ, i64_w, i32_w]
      rfl
    refine pure_ (i := 6) (N := some 15) (v := undef) (a' := ?_) #[true, true, true, true, true, true, true, false, false, false] rfl rfl (by kernel_rfl) (fun _ _ _ h => h) (Or.inr ⟨by rfl, rfl⟩) ?_ ?_
    rotate_left
    · simp only [Act.put, List.setIfInBounds_toArray, List.set_cons_zero, List.set_cons_succ, i64_w, i32_w]
      rfl
    refine pure_ (i := 7) (N := some 16) (v := undef) (a' := ?_) #[true, true, true, true, true, true, true, true, false, false] rfl rfl (by kernel_rfl) (fun _ _ _ h => h) (Or.inr ⟨by rfl, rfl⟩) ?_ ?_
    rotate_left
    · simp only [Act.put, List.setIfInBounds_toArray, List.set_cons_zero, List.set_cons_succ, i64_w, i32_w]
      rfl
    refine pure_ (i := 8) (N := some 17) (v := undef) (a' := ?_) #[true, true, true, true, true, true, true, true, true, false] rfl rfl (by kernel_rfl) (fun _ _ _ h => h) (Or.inr ⟨by rfl, rfl⟩) ?_ ?_
    rotate_left
    · simp only [Act.put, List.setIfInBounds_toArray, List.set_cons_zero, List.set_cons_succ, i64_w, i32_w]
      rfl
    refine pure_ (i := 9) (N := some 18) (v := ?_) (a' := ?_) #[true, true, true, true, true, true, true, true, true, true] rfl rfl (by kernel_rfl) (fun _ _ _ h => h) (Or.inl ⟨by rfl, ?_⟩) ?_ ?_
    rotate_left
    · intro w'
      go_simp
      try rfl
    rotate_left
    · simp only [Act.put, List.setIfInBounds_toArray, List.set_cons_zero, List.set_cons_succ, i64_w, i32_w]
      rfl
    refine done_ (by kernel_rfl) ?_
    go_wp2_with fail
    go_ret
    exact ⟨_, rfl, by rw [HV.out]; exact HRW.out.1, HD.out⟩

theorem force_len (lits : List Int) (sp : Int) (cs ls : List Int) : ∀ i : Nat, (foldA (forceG lits sp) cs ls [] i).length ≤ i
  | 0 => Nat.le_refl _
  | i + 1 => by
    have ih := force_len lits sp cs ls i
    rw [foldA]
    generalize foldA (forceG lits sp) cs ls [] i = X at ih ⊢
    unfold forceG
    split
    · rw [List.length_append, List.length_singleton]; omega
    · omega
set_option maxRecDepth 100000 in
set_option maxHeartbeats 1000000 in
theorem fold_slice.calls (b mb q : Nat) (sp : Int) (lits : List Int) (A0 : Option Addr) (c0 : Nat) (cs : List Int) (A1 : Option Addr) (c1 : Nat) (ls : List Int) (least : Int) (w : World) (hC0 : Kd.C (Kd.int .i64) w A0 cs.length cs) (hC1 : Kd.C (Kd.int .i64) w A1 ls.length ls) (hl : cs.length = ls.length) (hl1 : ls.length ≤ 4096)
    (hbx : w.heap[b]? = some (.cells #[.map (some mb)] 73 (0, 0))) (hM : MapAt w mb (lz lits)) (hq : w.heap[q]? = some (.cells #[.int .i64 sp] 3 (0, 0))) (hy : ∀ y ∈ ls, -65536 ≤ y ∧ y ≤ 65536) :
    Calls Try.prog 49 #[.agg #[.slice A0 cs.length c0, .slice A1 ls.length c1, .int .i64 least], .slice none 0 0, .func (.func 50) #[] #[.pointer (some ⟨b, 0, none⟩), .pointer (some ⟨q, 0, none⟩)]] w fun e w' => ∃ v', e = .returned v' ∧ IRow w' (w.heap.size + 1) v' (foldA (forceG lits sp) cs ls [] ls.length) ∧ Below w.heap.size w w' := by
  have HC0 := Aside0.mk hC0
  have HC1 := Aside0.mk hC1
  have HL := Aside0.mk hl
  have HY := Aside0.mk hy
  have HBX := Aside0.mk hbx
  have HM := Aside0.mk hM
  have HQ := Aside0.mk hq
  have HENT := Aside0.mk (fun (args : Array Value) w => enters_ Try.func50 (by kernel_rfl) rfl args w)
  have hx0 := blk_new w (.cells #[.slice A0 cs.length c0, .slice A1 ls.length c1, .int .i64 least] 40)
  have HX0 := Aside0.mk hx0
  have HB0 := Aside0.mk (below_alloc (Below.refl w.heap.size w) (.cells #[.slice A0 cs.length c0, .slice A1 ls.length c1, .int .i64 least] 40))
  have HZ0 : Aside0 ((w.alloc (.cells #[.slice A0 cs.length c0, .slice A1 ls.length c1, .int .i64 least] 40)).heap.size = w.heap.size + 1) := ⟨World.size_alloc _ _⟩
  clear hC0 hC1 hl hx0 hbx hM hq hy
  go_enter Try.func49, Try.ntmps49
  go_wp2_with fail
  go_loopw [1, 12] (fun v1 v12 wr => ∃ i : Nat, i ≤ ls.length ∧ v12 = .int .i64 i ∧ Aside0 (IRow wr (w.heap.size + 1) v1 (foldA (forceG lits sp) cs ls [] i)) ∧ Aside0 (Below w.heap.size w wr) ∧ Aside0 (w.heap.size + 1 ≤ wr.heap.size) ∧ Aside0 (wr.heap[w.heap.size]? = some (.cells #[.slice A0 cs.length c0, .slice A1 ls.length c1, .int .i64 least] 40 (0, 0)))) (fun _ v12 _ => (ls.length - intOf v12).toNat)
  case atStart => exact ⟨0, by omega, rfl, ⟨Row.nil _ _ _ _⟩, HB0, ⟨by rw [HZ0.out]; exact Nat.le_refl _⟩, HX0⟩
  case round =>
    obtain ⟨i, hi1, rfl, HR, HB, HS, HX⟩ := hrel
    by_cases hlt : i < ls.length
    · obtain ⟨ad, rfl, x0⟩ := Kd.at_int HC1.out i (by omega) (by omega)
      obtain ⟨ad0, rfl, x1⟩ := Kd.at_int HC0.out i (by omega) (by have := HL.out; omega)
      replace x0 := (HB.out.cell (World.block_lt_of_cell? w _ x0)).trans x0
      replace x1 := (HB.out.cell (World.block_lt_of_cell? w _ x1)).trans x1
      simp only [Int.toNat_natCast] at x0 x1
      have hyi := HY.out _ (rd_mem' hlt)
      have HCALL := Aside0.mk (forceStep.calls (w.heap.size + 1) _ (foldA (forceG lits sp) cs ls [] i) (rd cs i) (rd ls i) b mb q sp lits wr HR.out HS.out (by have := force_len lits sp cs ls i; omega) (blk_below HBX.out HB.out) (HM.out.below HB.out) (blk_below HQ.out HB.out) hyi.1 hyi.2)
      have hent' := HENT.out
      have y0 : wr.cell? ⟨w.heap.size, 0, none⟩ = some (.slice (some ad0) cs.length c0) := (blk_cell HX.out 0).trans rfl
      have hltc : (i : Int) < cs.length := by have := HL.out; omega
      have hltd : i < cs.length := by have := HL.out; omega
      clear hyi
      go_wp2_with fail
      clear x0 x1 y0 HENT hent'
      refine HCALL.out.mono ?_
      rintro e w2 ⟨v2, rfl, hr2, hb2⟩
      have HR2 := Aside0.mk hr2
      have HB2 := Aside0.mk (HB.out.trans (hb2.mono (by omega)))
      have HS2 := Aside0.mk (Nat.le_trans HS.out hb2.size)
      have HX2 : Aside0 (w2.heap[w.heap.size]? = some (.cells #[.slice (some ad0) cs.length c0, .slice (some ad) ls.length c1, .int .i64 least] 40 (0, 0))) := ⟨(hb2.block _ (by omega)).trans HX.out⟩
      clear hr2 hb2 HCALL
      go_wp2_with fail
      go_roundw
      case rel => exact ⟨i + 1, by omega, by go_num, HR2, HB2, HS2, HX2⟩
      case measure => simp [intOf]; omega
    · have hi : i = ls.length := by omega
      subst hi
      go_wp2_with fail
      go_ret
      exact ⟨_, rfl, HR.out, HB.out⟩

theorem sumI_cap (m : Int) : ∀ cs : List Int, sumI (cs.map fun n => if n < m then n else m) ≤ sumI cs
  | [] => Int.le_refl _
  | c :: cs => by
    have ih := sumI_cap m cs
    simp only [List.map_cons, sumI]
    split <;> omega
theorem norm_bounds {cs ls : List Int} {least : Int} (h : linF cs ls least 65536 = 0) : sumI (normF cs ls least).f0 ≤ 18014398509481984 ∧ 0 ≤ (normF cs ls least).f2 ∧ (normF cs ls least).f2 ≤ 18014398509481984 ∧ (normF cs ls least).f1.length ≤ 4096 := by
  have hs := part_small h (sortI (keysZ (sumsZ cs ls))).length
  have hl := part_len cs ls least (sortI (keysZ (sumsZ cs ls))).length
  rw [part_all] at hs hl
  obtain ⟨_, _, h3, _, _, _, h7⟩ := linF_zero h
  have hk := keys_len (cs := cs) (ls := ls) ls.length
  change (sumsZ cs ls).length ≤ _ at hk
  have h8 : (sortI (keysZ (sumsZ cs ls))).length ≤ 4096 := by unfold sortI keysZ; rw [List.length_mergeSort, List.length_map]; omega
  unfold normF capF
  split
  · simp [sumI]
  · split
    · simp [sumI]
    · have h9 := sumI_cap (rawF cs ls least).f2 (rawF cs ls least).f0
      simp only
      omega
theorem spare_bounds {cs ls : List Int} {first : Int} (lits : List Int) (hp : ∀ c ∈ cs, 0 < c) : ∀ i : Nat, i ≤ cs.length → first ≤ foldF (spareG lits) cs ls first i ∧ foldF (spareG lits) cs ls first i ≤ first + sumI (cs.take i)
  | 0, _ => by simp [foldF, sumI]
  | i + 1, h => by
    have ih := spare_bounds (ls := ls) (first := first) lits hp i (by omega)
    have h1 := hp _ (rd_mem' (l := cs) (i := i) (by omega))
    have h4 : sumI (cs.take (i + 1)) = sumI (cs.take i) + rd cs i := by
      rw [List.take_succ_eq_append_getElem (by omega), sumI_append, rd_eq (by omega)]
      simp [sumI]
    rw [foldF]
    unfold spareG at *
    split <;> omega
end Go.Proofs.Ytkcmkoolcakfjaa.P

/- lin.Force where the literals are those of different variables. -/
namespace Go.Proofs.Ytkcmkoolcakfjaa.P
open Go.RowKit Go.Proofs.YtkcmkoolcakfjaaW.PrintWords Go.Proofs.YtkcmkoolcakfjaaW.PrintLast Go.Proofs.YtkcmkoolcakfjaaW.PrintMore Go.Proofs.Ytkcmkoolcakfjaa.Aid
set_option linter.unusedVariables false
set_option linter.unusedSimpArgs false

/-! Force -/
def GoodLits (lits : List Int) : Prop := (lits.map absF).Nodup ∧ ∀ y ∈ lits, y ≠ 0 ∧ -65536 ≤ y ∧ y ≤ 65536
theorem getV_lz_none {lits : List Int} {i : Nat} (hg : (lits.map absF).Nodup) (hi : i < lits.length) : getV (lz (lits.take i)) (absF (rd lits i)) = none := by
  have h : ∀ (l : List Int) (k : Int), k ∉ l.map absF → getV (lz l) k = none := by
    intro l k
    induction l with
    | nil => intro _; rfl
    | cons y ys ih =>
      intro hk
      simp only [List.map_cons, List.mem_cons, not_or] at hk
      simp only [lz, List.map_cons, getV] at ih ⊢
      rw [if_neg (fun e => hk.1 e.symm)]
      exact ih hk.2
  refine h _ _ (fun hm => ?_)
  rw [rd_eq hi] at hm
  have h1 : lits = lits.take i ++ lits[i] :: lits.drop (i + 1) := by rw [← List.drop_eq_getElem_cons hi, List.take_append_drop]
  have h2 := congrArg (List.map absF) h1
  rw [List.map_append, List.map_cons] at h2
  rw [h2, List.nodup_append] at hg
  exact hg.2.2 _ hm _ List.mem_cons_self rfl
theorem lz_snoc {lits : List Int} {i : Nat} (hg : (lits.map absF).Nodup) (hi : i < lits.length) : setV (lz (lits.take i)) (absF (rd lits i)) (.int .i64 (rd lits i)) = lz (lits.take (i + 1)) := by
  rw [setV_new (getV_lz_none hg hi), List.take_succ_eq_append_getElem hi, rd_eq hi]
  simp only [lz, List.map_append, List.map_cons, List.map_nil]
set_option maxRecDepth 100000 in
set_option maxHeartbeats 4000000 in
theorem Force.calls (A0 : Option Addr) (c0 : Nat) (cs : List Int) (A1 : Option Addr) (c1 : Nat) (ls : List Int) (least : Int) (A2 : Option Addr) (c2 : Nat) (lits : List Int) (w : World) (hC0 : Kd.C (Kd.int .i64) w A0 cs.length cs) (hc0 : cs.length ≤ c0) (hC1 : Kd.C (Kd.int .i64) w A1 ls.length ls) (hc1 : ls.length ≤ c1) (hC2 : Kd.C (Kd.int .i64) w A2 lits.length lits) (hc2 : lits.length ≤ c2) (hlin : linF cs ls least 65536 = 0) (hgl : GoodLits lits) (hl2 : lits.length ≤ 1048576) :
    Calls Try.prog 26 #[.agg #[.slice A0 cs.length c0, .slice A1 ls.length c1, .int .i64 least], .slice A2 lits.length c2] w fun e w' => ∃ v', e = .returned (.tuple #[v', .bool (forceF cs ls least lits).2]) ∧ IRow w' w.heap.size v' (forceF cs ls least lits).1 ∧ Below w.heap.size w w' := by
  have hlin' := linF_zero hlin
  have hb0 := below_alloc (Below.refl w.heap.size w) (.cells #[.slice A0 cs.length c0, .slice A1 ls.length c1, .int .i64 least] 40)
  have hx0 := blk_new w (.cells #[.slice A0 cs.length c0, .slice A1 ls.length c1, .int .i64 least] 40)
  have HRIGHT := Aside0.mk (right.calls A0 c0 cs A1 c1 ls least w _ hb0 hC0 hc0 hC1 hc1 (by omega) (by omega))
  rw [hlin] at HRIGHT
  have HNORM : Aside0 (∀ W, Below w.heap.size w W → Calls Try.prog 46 #[.agg #[.slice A0 cs.length c0, .slice A1 ls.length c1, .int .i64 least]] W fun e w' => NormR W e w' (normF cs ls least)) := ⟨fun W hW => Norm.calls A0 c0 cs A1 c1 ls least W (Kd.C_below hC0 hW) hc0 (Kd.C_below hC1 hW) hc1 hlin⟩
  have HC2 := Aside0.mk hC2
  have HB0 := Aside0.mk hb0
  have HX0 := Aside0.mk hx0
  have HGL := Aside0.mk hgl
  have hmm := @run_makeMap Try.prog
  have HLIN := Aside0.mk hlin
  clear hb0 hx0 hC0 hC1 hC2 hgl hlin hlin'
  go_enter Try.func26, Try.ntmps26
  go_wp2_with (go_at_call 44; refine HRIGHT.out.mono ?_; rintro e w1 ⟨rfl, hb⟩; have HB1 := Aside0.mk (below_step HB0.out hb); have HX1 := Aside0.mk (blk_below HX0.out hb); clear hb)
  obtain ⟨mb, hmb⟩ : ∃ m, w1.heap.size = m := ⟨_, rfl⟩
  have hwm : w.heap.size < mb := by rw [← hmb]; exact blk_lt HX1.out
  have hbl := below_alloc (below_alloc HB1.out (.map #[] 0)) (.cells #[.map (some mb)] 73)
  have hml := (MapAt.new w1).below (below_alloc (Below.refl _ _) (.cells #[.map (some mb)] 73))
  have hil := blk_new (w1.alloc (.map #[] 0)) (.cells #[.map (some mb)] 73)
  have hxl := blk_alloc (blk_alloc HX1.out (.map #[] 0)) (.cells #[.map (some mb)] 73)
  rw [World.size_alloc, hmb] at hil
  rw [hmb] at hml ⊢
  generalize (w1.alloc (.map #[] 0)).alloc (.cells #[.map (some mb)] 73) = WL at hbl hml hil hxl ⊢
  have HBL := Aside0.mk hbl
  have HML := Aside0.mk hml
  have HIL := Aside0.mk hil
  have HXL := Aside0.mk hxl
  clear hbl hml hil hxl HB1 HX1 HRIGHT HB0 HX0 hmm hmb
  go_loopw [4, 19] (fun v4 v19 wr => ∃ i : Nat, i ≤ lits.length ∧ v19 = .int .i64 i ∧ v4 = .slice none 0 0 ∧ Aside0 (WL.grownBy wr (some mb)) ∧ Aside0 (MapAt wr mb (lz (lits.take i)))) (fun _ v19 _ => (lits.length - intOf v19).toNat)
  case atStart => exact ⟨0, by omega, rfl, rfl, ⟨World.grownBy.refl _ _⟩, ⟨by rw [List.take_zero]; exact HML.out⟩⟩
  case round =>
    obtain ⟨i, hi1, rfl, rfl, HG, HMW⟩ := hrel
    have HBW : Aside0 (Below w.heap.size w wr) := ⟨HBL.out.grown HG.out HBL.out.size (fun k hk => by injection hk with hk; omega)⟩
    have HIB : Aside0 (wr.heap[mb + 1]? = some (.cells #[.map (some mb)] 73 (0, 0))) := ⟨blk_grown HIL.out HG.out (fun e => by injection e with e; omega)⟩
    by_cases hlt : i < lits.length
    · obtain ⟨ad, rfl, x0⟩ := Kd.at_int HC2.out i (by omega) (by omega)
      replace x0 := (HBW.out.cell (World.block_lt_of_cell? w _ x0)).trans x0
      simp only [Int.toNat_natCast] at x0
      have hyb := HGL.out.2 _ (rd_mem' hlt)
      have HNEW := Aside0.mk (getV_lz_none HGL.out.1 hlt)
      have HSN := Aside0.mk (lz_snoc HGL.out.1 hlt)
      have hvb : 0 ≤ absF (rd lits i) ∧ absF (rd lits i) ≤ 65536 := by unfold absF; split <;> omega
      have HOF := Aside0.mk (fun W => of.calls (rd lits i) W hyb.2.1 hyb.2.2)
      obtain ⟨v, hv⟩ : ∃ v, absF (rd lits i) = v := ⟨_, rfl⟩
      rw [hv] at HNEW HSN HOF hvb
      obtain ⟨y, hy⟩ : ∃ y, rd lits i = y := ⟨_, rfl⟩
      rw [hy] at x0 hyb HSN HOF
      clear hv hy
      have t1 : (y == 0) = false := by simpa using hyb.1
      have t2 : decide (y < -65536) = false := decide_eq_false (by omega)
      have t3 : decide (v > 65536) = false := decide_eq_false (by omega)
      have t4 : decide (65536 < v) = false := decide_eq_false (by omega)
      go_wp2_with fail
      refine start_ (n := 9) (S := fun V => V.heap[mb + 1]? = some (.cells #[.map (some mb)] 73 (0, 0)) ∧ MapAt V mb (lz (lits.take i))) (ds := []) #[false, false, false, false, false, false, false, false, false] (by kernel_rfl) rfl rfl ⟨HIB.out, HMW.out.move rfl⟩ (fun hHeld => ?_)
      have HGD := Aside0.mk (grown_drew HG.out)
      clear HG HMW HIB
      generalize wr.drew = W0 at HGD hHeld ⊢
      refine pure_ (i := 1) (N := some 25) (v := ?_) (a' := ?_) #[false, true, false, false, false, false, false, false, false] rfl rfl (by kernel_rfl) (fun _ _ _ h => h) (Or.inl ⟨by rfl, ?_⟩) ?_ ?_
      rotate_left
      · intro w'
        go_simp
        with_reducible rfl
      rotate_left
      · simp only [Act.put, List.setIfInBounds_toArray, List.set_cons_zero, List.set_cons_succ, i64_w, i32_w]
        rfl
      refine take_ (i := 0) (N := some 24) (v := ?_) (a' := ?_) #[true, true, false, false, false, false, false, false, false] rfl rfl (by kernel_rfl) (fun _ _ _ h => h) (Or.inl ⟨by rfl, ?_⟩) hHeld ?_ ?_
      rotate_left
      · rintro w' hw
        have hc0 := blk_cell hw.1 0
        go_simp
        with_reducible rfl
      rotate_left
      · simp only [Act.put, List.setIfInBounds_toArray, List.set_cons_zero, List.set_cons_succ, i64_w, i32_w]
        rfl
      refine one_ (i := 2) (N := some 26) #[true, true, true, false, false, false, false, false, false] rfl rfl (by kernel_rfl) (by decide) (fun K hK => ?_)
      refine goes_ Try.func45 (by kernel_rfl) rfl #[.int .i64 y] (by rfl) rfl rfl (by simp only [List.map_toArray, List.map_cons, List.map_nil]; rfl) ?_
      refine (HOF.out _).mono ?_
      rintro e w4 ⟨rfl, rfl⟩
      refine ⟨_, rfl, ?_⟩
      refine hK.out _ _ hHeld (fun hHeld => ?_)
      clear hK K
      refine norm_ (a' := ?_) ?_ ?_
      rotate_left
      · show Act.put _ (some 26) _ = _
        simp only [Act.put, List.setIfInBounds_toArray, List.set_cons_zero, List.set_cons_succ, i64_w, i32_w]
        rfl
      refine take_ (i := 3) (N := some 27) (v := ?_) (a' := ?_) #[true, true, true, true, false, false, false, false, false] rfl rfl (by kernel_rfl) (fun _ _ _ h => h) (Or.inl ⟨by rfl, ?_⟩) hHeld ?_ ?_
      rotate_left
      · rintro w' hw
        have hc0 := run_lookup_ok (P := Try.prog) Try.underlying73 Try.underlying3 hw.2 v (z := .int .i64 0) (by kernel_rfl) HNEW.out
        go_simp
        with_reducible rfl
      rotate_left
      · simp only [Act.put, List.setIfInBounds_toArray, List.set_cons_zero, List.set_cons_succ, i64_w, i32_w]
        rfl
      refine pure_ (i := 4) (N := some 23) (v := ?_) (a' := ?_) #[true, true, true, true, true, false, false, false, false] rfl rfl (by kernel_rfl) (fun _ _ _ h => h) (Or.inl ⟨by rfl, ?_⟩) ?_ ?_
      rotate_left
      · intro w'
        go_simp
        with_reducible rfl
      rotate_left
      · simp only [Act.put, List.setIfInBounds_toArray, List.set_cons_zero, List.set_cons_succ, i64_w, i32_w]
        rfl
      refine pure_ (i := 5) (N := some 28) (v := ?_) (a' := ?_) #[true, true, true, true, true, true, false, false, false] rfl rfl (by kernel_rfl) (fun _ _ _ h => h) (Or.inl ⟨by rfl, ?_⟩) ?_ ?_
      rotate_left
      · intro w'
        go_simp
        with_reducible rfl
      rotate_left
      · simp only [Act.put, List.setIfInBounds_toArray, List.set_cons_zero, List.set_cons_succ, i64_w, i32_w]
        rfl
      refine pure_ (i := 6) (N := some 29) (v := ?_) (a' := ?_) #[true, true, true, true, true, true, true, false, false] rfl rfl (by kernel_rfl) (fun _ _ _ h => h) (Or.inl ⟨by rfl, ?_⟩) ?_ ?_
      rotate_left
      · intro w'
        go_simp
        with_reducible rfl
      rotate_left
      · simp only [Act.put, List.setIfInBounds_toArray, List.set_cons_zero, List.set_cons_succ, i64_w, i32_w]
        rfl
      refine pure_ (i := 7) (N := some 9) (v := ?_) (a' := ?_) #[true, true, true, true, true, true, true, true, false] rfl rfl (by kernel_rfl) (fun _ _ _ h => h) (Or.inl ⟨by rfl, ?_⟩) ?_ ?_
      rotate_left
      · intro w'
        go_simp
        with_reducible rfl
      rotate_left
      · simp only [Act.put, List.setIfInBounds_toArray, List.set_cons_zero, List.set_cons_succ, i64_w, i32_w]
        rfl
      refine pure_ (i := 8) (N := some 10) (v := ?_) (a' := ?_) #[true, true, true, true, true, true, true, true, true] rfl rfl (by kernel_rfl) (fun _ _ _ h => h) (Or.inl ⟨by rfl, ?_⟩) ?_ ?_
      rotate_left
      · intro w'
        go_simp
        with_reducible rfl
      rotate_left
      · simp only [Act.put, List.setIfInBounds_toArray, List.set_cons_zero, List.set_cons_succ, i64_w, i32_w]
        rfl
      refine done_ (by kernel_rfl) ?_
      go_wp2_with (go_at_call 45; refine (HOF.out _).mono ?_; rintro e w4 ⟨rfl, rfl⟩)
      refine start_ (n := 5) (S := fun V => V.heap[mb + 1]? = some (.cells #[.map (some mb)] 73 (0, 0)) ∧ MapAt V mb (lz (lits.take i))) (ds := [4]) #[false, false, false, false, false] (by kernel_rfl) rfl rfl ⟨hHeld.1, hHeld.2.move rfl⟩ (fun hHeld => ?_)
      have HGE := Aside0.mk (grown_drew HGD.out)
      clear HGD
      generalize W0.drew = W1 at HGE hHeld ⊢
      refine pure_ (i := 1) (N := some 45) (v := ?_) (a' := ?_) #[false, true, false, false, false] rfl rfl (by kernel_rfl) (fun _ _ _ h => h) (Or.inl ⟨by rfl, ?_⟩) ?_ ?_
      rotate_left
      · intro w'
        go_simp
        with_reducible rfl
      rotate_left
      · simp only [Act.put, List.setIfInBounds_toArray, List.set_cons_zero, List.set_cons_succ, i64_w, i32_w]
        rfl
      refine pure_ (i := 3) (N := some 47) (v := ?_) (a' := ?_) #[false, true, false, true, false] rfl rfl (by kernel_rfl) (fun _ _ _ h => h) (Or.inl ⟨by rfl, ?_⟩) ?_ ?_
      rotate_left
      · intro w'
        go_simp
        with_reducible rfl
      rotate_left
      · simp only [Act.put, List.setIfInBounds_toArray, List.set_cons_zero, List.set_cons_succ, i64_w, i32_w]
        rfl
      refine take_ (i := 0) (N := some 44) (v := ?_) (a' := ?_) #[true, true, false, true, false] rfl rfl (by kernel_rfl) (fun _ _ _ h => h) (Or.inl ⟨by rfl, ?_⟩) hHeld ?_ ?_
      rotate_left
      · rintro w' hw
        have hc0 := blk_cell hw.1 0
        go_simp
        with_reducible rfl
      rotate_left
      · simp only [Act.put, List.setIfInBounds_toArray, List.set_cons_zero, List.set_cons_succ, i64_w, i32_w]
        rfl
      refine one_ (i := 2) (N := some 46) #[true, true, true, true, false] rfl rfl (by kernel_rfl) (by decide) (fun K hK => ?_)
      refine goes_ Try.func45 (by kernel_rfl) rfl #[.int .i64 y] (by rfl) rfl rfl (by simp only [List.map_toArray, List.map_cons, List.map_nil]; rfl) ?_
      refine (HOF.out _).mono ?_
      rintro e w4 ⟨rfl, rfl⟩
      refine ⟨_, rfl, ?_⟩
      refine hK.out _ _ hHeld (fun hHeld => ?_)
      clear hK K
      refine norm_ (a' := ?_) ?_ ?_
      rotate_left
      · show Act.put _ (some 46) _ = _
        simp only [Act.put, List.setIfInBounds_toArray, List.set_cons_zero, List.set_cons_succ, i64_w, i32_w]
        rfl
      refine last_ (i := 4) (N := none) #[true, true, true, true, true] rfl rfl (by kernel_rfl) (by decide) (fun K hK => ?_)
      obtain ⟨w5, hrun, hM5, hg5⟩ := run_mapUpdate_map (P := Try.prog) Try.underlying73 Try.underlying3 hHeld.2 v (.int .i64 y)
      refine skip_ (w1 := w5) (by rfl) rfl ?hr_ ?_
      case hr_ =>
        go_simp
        try rfl
      refine hK.out _ _ ?_
      clear hK K
      refine done_ (by kernel_rfl) ?_
      go_wp2_with fail
      go_roundw
      case rel => exact ⟨i + 1, by omega, by go_num, rfl, ⟨HGE.out.trans hg5⟩, ⟨by rw [← HSN.out]; exact hM5⟩⟩
      case measure => simp [intOf]; omega
    · have hi : i = lits.length := by omega
      subst hi
      have hM1 : MapAt wr mb (lz lits) := by have h := HMW.out; rwa [List.take_length] at h
      have hx1 : wr.heap[w.heap.size]? = some (.cells #[.slice A0 cs.length c0, .slice A1 ls.length c1, .int .i64 least] 40 (0, 0)) := blk_grown HXL.out HG.out (fun e => by injection e with e; omega)
      have hgood := norm_good (least := least) (linF_zero HLIN.out).2.2.1 (fun y hy => ((linF_zero HLIN.out).2.2.2.2.2.1 y hy).1)
      have hlim := fun y hy => ((linF_zero HLIN.out).2.2.2.2.2.1 y hy)
      have hbd := norm_bounds HLIN.out
      have HF : Aside0 (forceF cs ls least lits = if spareF (normF cs ls least) lits < 0 then ([], false) else (foldA (forceG lits (spareF (normF cs ls least) lits)) (normF cs ls least).f0 (normF cs ls least).f1 [] (normF cs ls least).f1.length, true)) := ⟨rfl⟩
      obtain ⟨X, hX⟩ : ∃ X, normF cs ls least = X := ⟨_, rfl⟩
      rw [hX] at HF HNORM hbd hgood
      have hXl : ∀ y ∈ X.f1, -65536 ≤ y ∧ y ≤ 65536 := fun y hy => by
        obtain ⟨z, hz, e⟩ := (hgood.from_ y hy).2
        have := hlim z hz
        unfold absF at e
        split at e <;> split at e <;> omega
      have HM1 := Aside0.mk hM1
      have HX1 := Aside0.mk hx1
      have HXG := Aside0.mk hgood
      have HXL2 := Aside0.mk hXl
      have z0 : wr.cell? ⟨w.heap.size, 0, none⟩ = some (.slice A0 cs.length c0) := (blk_cell hx1 0).trans rfl
      have z1 : wr.cell? ⟨w.heap.size, 1, none⟩ = some (.slice A1 ls.length c1) := (blk_cell hx1 1).trans rfl
      have z2 : wr.cell? ⟨w.heap.size, 2, none⟩ = some (.int .i64 least) := (blk_cell hx1 2).trans rfl
      clear hM1 hx1 hgood hlim hXl hX hlt HG HMW HXL HLIN HGL
      obtain ⟨f0, f1, f2⟩ := X
      simp only at HF hbd HXL2
      have HN2 : Aside0 (∀ W, Below w.heap.size w W → Calls Try.prog 46 #[.agg #[.slice A0 cs.length c0, .slice A1 ls.length c1, .int .i64 least]] W fun e w' => ∃ A cA B cB, e = .returned (.agg #[.slice A f0.length cA, .slice B f1.length cB, .int .i64 f2]) ∧ Kd.C (Kd.int .i64) w' A f0.length f0 ∧ Kd.C (Kd.int .i64) w' B f1.length f1 ∧ f0.length ≤ cA ∧ f1.length ≤ cB ∧ Below W.heap.size W w') := HNORM
      have hneg : wrap64 (-f2) = -f2 := IntWalk.wrap64_in _ (by omega)
      clear HNORM
      go_wp2_with (go_at_call 46; refine (HN2.out _ HBW.out).mono ?_; rintro e wN ⟨AX, cX, BX, dX, rfl, hX0, hX1, hX2, hX3, hbN⟩; have HXA := Aside0.mk hX0; have HXB := Aside0.mk hX1; have HBN := Aside0.mk (below_step HBW.out hbN); have HMN := Aside0.mk (HM1.out.below hbN); have HIN := Aside0.mk (blk_below HIB.out hbN); clear hX0 hX1 hbN)
      have HLN : Aside0 (f0.length = f1.length) := ⟨HXG.out.len⟩
      have HPS : Aside0 (∀ c ∈ f0, 0 < c) := ⟨HXG.out.pos⟩
      -- the spare
      have HS0 : Aside0 (∀ W, Below wN.heap.size wN W → Calls Try.prog 47 #[.agg #[.slice AX f0.length cX, .slice BX f1.length dX, .int .i64 f2], .int .i64 (-f2), .func (.func 48) #[] #[.pointer (some ⟨mb + 1, 0, none⟩)]] W fun e w' => e = .returned (.int .i64 (spareF ⟨f0, f1, f2⟩ lits)) ∧ Below W.heap.size W w') := ⟨fun W hW => by
        have h := fold_int.calls 48 #[.pointer (some ⟨mb + 1, 0, none⟩)] (spareG lits) AX cX f0 BX dX f1 f2 (-f2) wN W hW HXA.out HXB.out HLN.out (by omega) (fun args w => enters_ Try.func48 (by kernel_rfl) rfl args w) (fun i hi V hV => by
          have h1 := spare_bounds (ls := f1) (first := -f2) lits HPS.out i (by have := HLN.out; omega)
          have h2 := sumI_take_le HPS.out i
          have h3 := HPS.out _ (rd_mem' (l := f0) (i := i) (by have := HLN.out; omega))
          have h4 := HXL2.out _ (rd_mem' (l := f1) (i := i) hi)
          have h5 : rd f0 i ≤ sumI f0 := by
            have h6 := sumI_take_le HPS.out (i + 1)
            have h7 : sumI (f0.take (i + 1)) = sumI (f0.take i) + rd f0 i := by
              rw [List.take_succ_eq_append_getElem (by have := HLN.out; omega), sumI_append, rd_eq (by have := HLN.out; omega)]
              simp [sumI]
            omega
          rw [foldF]
          exact spareStep.calls _ _ _ (mb + 1) mb lits V (blk_below (blk_below HIN.out hW) hV) ((HMN.out.below hW).below hV) h4.1 h4.2 (by omega) (by omega) (by omega) (by omega))
        rw [foldF_foldA] at h
        exact h⟩
      refine (HS0.out _ (below_alloc (Below.refl _ _) _)).mono ?_
      rintro e wS ⟨rfl, hbS⟩
      have HBS : Aside0 (Below w.heap.size w wS) := ⟨HBN.out.trans ((below_step (below_alloc (Below.refl _ _) _) hbS).mono HBN.out.size)⟩
      have HBNS := Aside0.mk (below_step (below_alloc (Below.refl wN.heap.size wN) _) hbS)
      have hXN := blk_below (blk_new wN (.cells #[.slice AX f0.length cX, .slice BX f1.length dX, .int .i64 f2] 40)) hbS
      have HXN := Aside0.mk hXN
      have y0 : wS.cell? ⟨wN.heap.size, 0, none⟩ = some (.slice AX f0.length cX) := (blk_cell hXN 0).trans rfl
      have y1 : wS.cell? ⟨wN.heap.size, 1, none⟩ = some (.slice BX f1.length dX) := (blk_cell hXN 1).trans rfl
      have y2 : wS.cell? ⟨wN.heap.size, 2, none⟩ = some (.int .i64 f2) := (blk_cell hXN 2).trans rfl
      clear hbS hXN HS0 z0 z1 z2 HN2
      obtain ⟨sp, hsp⟩ : ∃ s, spareF ⟨f0, f1, f2⟩ lits = s := ⟨_, rfl⟩
      rw [hsp] at HF ⊢
      clear hsp
      by_cases hs : sp < 0
      · rw [if_pos hs] at HF
        have hd := decide_eq_true hs
        clear hs
        go_wp2_with fail
        go_ret2
        rw [HF.out]
        exact ⟨_, rfl, Row.nil _ _ _ _, below_alloc HBS.out _⟩
      · rw [if_neg hs] at HF
        have hd := decide_eq_false hs
        clear hs
        have HS1 : Aside0 (∀ W, Below wS.heap.size wS W → W.heap[wS.heap.size]? = some (.cells #[.int .i64 sp] 3 (0, 0)) → Calls Try.prog 49 #[.agg #[.slice AX f0.length cX, .slice BX f1.length dX, .int .i64 f2], .slice none 0 0, .func (.func 50) #[] #[.pointer (some ⟨mb + 1, 0, none⟩), .pointer (some ⟨wS.heap.size, 0, none⟩)]] W fun e w' => ∃ v', e = .returned v' ∧ IRow w' (W.heap.size + 1) v' (foldA (forceG lits sp) f0 f1 [] f1.length) ∧ Below W.heap.size W w') := ⟨fun W hW hq =>
          fold_slice.calls (mb + 1) mb wS.heap.size sp lits AX cX f0 BX dX f1 f2 W (Kd.C_below (Kd.C_below HXA.out HBNS.out) hW) (Kd.C_below (Kd.C_below HXB.out HBNS.out) hW) HLN.out (by have := HLN.out; omega) (blk_below (blk_below HIN.out HBNS.out) hW) ((HMN.out.below HBNS.out).below hW) hq HXL2.out⟩
        have hXA2 := blk_alloc HXN.out (.cells #[.int .i64 sp] 3)
        replace y0 : (wS.alloc (.cells #[.int .i64 sp] 3)).cell? ⟨wN.heap.size, 0, none⟩ = some (.slice AX f0.length cX) := (blk_cell hXA2 0).trans rfl
        replace y1 : (wS.alloc (.cells #[.int .i64 sp] 3)).cell? ⟨wN.heap.size, 1, none⟩ = some (.slice BX f1.length dX) := (blk_cell hXA2 1).trans rfl
        replace y2 : (wS.alloc (.cells #[.int .i64 sp] 3)).cell? ⟨wN.heap.size, 2, none⟩ = some (.int .i64 f2) := (blk_cell hXA2 2).trans rfl
        clear hXA2
        go_wp2_with (go_at_call 49; refine (HS1.out _ (below_alloc (Below.refl _ _) _) (blk_new _ _)).mono ?_; rintro e wF ⟨vF, rfl, hrF, hbF⟩; have HRF := Aside0.mk hrF; have HBF := Aside0.mk hbF; clear hrF hbF)
        go_ret2
        rw [HF.out]
        exact ⟨_, rfl, HRF.out.lower (by rw [World.size_alloc]; have := HBS.out.size; omega), below_step (below_alloc HBS.out _) HBF.out⟩
/-- In the form that printed callers ask for. -/
instance (lits : List Int) : Decidable (GoodLits lits) := inferInstanceAs (Decidable (_ ∧ _))
def lin_Force.f (cs ls : List Int) (least : Int) (lits : List Int) : Option (List Int × Bool) := if linF cs ls least 65536 = 0 ∧ GoodLits lits ∧ lits.length ≤ 1048576 then some (forceF cs ls least lits) else none
theorem lin_Force.tells {cs ls : List Int} {least : Int} {lits : List Int} (h1 : linF cs ls least 65536 = 0) (h2 : GoodLits lits) (h3 : lits.length ≤ 1048576) : lin_Force.f cs ls least lits = some (forceF cs ls least lits) := if_pos ⟨h1, h2, h3⟩
theorem lin_Force.calls (A0 : Option Addr) (c0 : Nat) (cs : List Int) (A1 : Option Addr) (c1 : Nat) (ls : List Int) (least : Int) (A2 : Option Addr) (c2 : Nat) (lits : List Int) (r1 : List Int) (r2 : Bool) (w : World) (hC0 : Kd.C (Kd.int .i64) w A0 cs.length cs) (hc0 : cs.length ≤ c0) (hC1 : Kd.C (Kd.int .i64) w A1 ls.length ls) (hc1 : ls.length ≤ c1) (hC2 : Kd.C (Kd.int .i64) w A2 lits.length lits) (hc2 : lits.length ≤ c2) (h : lin_Force.f cs ls least lits = some (r1, r2)) :
    Calls Try.prog 26 #[.agg #[.slice A0 cs.length c0, .slice A1 ls.length c1, .int .i64 least], .slice A2 lits.length c2] w fun e w' => ∃ v0, e = .returned (.tuple #[v0, .bool r2]) ∧ (Kd.int .i64).R 3 w' w.heap.size (fun k_ => w.heap.size ≤ k_) v0 r1 ∧ Below w.heap.size w w' := by
  unfold lin_Force.f at h
  split at h
  · rename_i hs
    have h := Option.some.inj h
    refine (Force.calls A0 c0 cs A1 c1 ls least A2 c2 lits w hC0 hc0 hC1 hc1 hC2 hc2 hs.1 hs.2.1 hs.2.2).mono ?_
    rw [h]
    rintro e w' ⟨v, rfl, hr, hb⟩
    exact ⟨v, rfl, hr.toR _ (fun k hk => (hr.lt k hk).1), hb⟩
  · cases h
end Go.Proofs.Ytkcmkoolcakfjaa.P

/- Each constraint of a formula propagated once, in order, determines its new variables. -/
namespace Go.Proofs.Ytkcmkoolcakfjaa.P
open Go.RowKit Go.Proofs.YtkcmkoolcakfjaaW.PrintWords Go.Proofs.YtkcmkoolcakfjaaW.PrintMore
set_option linter.unusedVariables false
set_option linter.unusedSimpArgs false

theorem lits_mem {a : List Bool} (ha : 1 ≤ a.length) : ∀ y ∈ litsOf a, 1 ≤ absF y ∧ absF y < a.length := by
  cases a with
  | nil => simp at ha
  | cons b bs =>
    have hall : ∀ (bs : List Bool) (i : Int), 1 ≤ i → ∀ y ∈ litsFrom bs i, i ≤ absF y ∧ absF y < i + bs.length := by
      intro bs
      induction bs with
      | nil => intro i _ y hy; simp [litsFrom] at hy
      | cons b bs ih =>
        intro i hi y hy
        simp only [litsFrom, List.mem_cons] at hy
        rcases hy with rfl | hy
        · have e : absF (if b = true then i else -i) = i := by
            cases b
            · simp [absF_neg, absF_of_pos (show 0 < i by omega)]
            · simp [absF_of_pos (show 0 < i by omega)]
          rw [e]; simp; omega
        · have := ih (i + 1) (by omega) y hy
          simp; omega
    intro y hy
    have := hall bs 1 (by omega) y hy
    simp; omega
theorem lits_nodup {a : List Bool} : ((litsOf a).map absF).Nodup := by
  have hall : ∀ (bs : List Bool) (i : Int), 1 ≤ i → (∀ v ∈ (litsFrom bs i).map absF, i ≤ v) ∧ ((litsFrom bs i).map absF).Nodup := by
    intro bs
    induction bs with
    | nil => intro i _; simp [litsFrom]
    | cons b bs ih =>
      intro i hi
      have e : absF (if b = true then i else -i) = i := by
        cases b
        · simp [absF_neg, absF_of_pos (show 0 < i by omega)]
        · simp [absF_of_pos (show 0 < i by omega)]
      obtain ⟨h1, h2⟩ := ih (i + 1) (by omega)
      simp only [litsFrom, List.map_cons, e, List.nodup_cons, List.mem_cons]
      refine ⟨fun v hv => ?_, fun hm => ?_, h2⟩
      · rcases hv with rfl | hv
        · exact Int.le_refl _
        · have := h1 v hv; omega
      · have := h1 i hm; omega
  exact (hall a.tail 1 (by omega)).2
theorem lits_good {a : List Bool} (h1 : 1 ≤ a.length) (h2 : a.length ≤ 65537) : GoodLits (litsOf a) ∧ (litsOf a).length ≤ 1048576 := by
  refine ⟨⟨lits_nodup, fun y hy => ?_⟩, by rw [litsOf_length]; omega⟩
  have h := lits_mem h1 y hy
  have e : absF y = y ∨ absF y = -y := by unfold absF; split <;> omega
  have e0 : y ≠ 0 := fun e0 => by subst e0; have : absF 0 = 0 := rfl; omega
  omega
def addF (ls : List Int) (y : Int) : List Int := if y ∈ ls then ls else ls ++ [y]
/-- Each constraint propagated once, in order. -/
def propF : List S40 → List Int → Option (List Int)
  | [], lits => some lits
  | s :: l, lits => if linF s.f0 s.f1 s.f2 65536 = 0 ∧ GoodLits lits ∧ lits.length ≤ 1048576 then (if (forceF s.f0 s.f1 s.f2 lits).2 = false then none else propF l ((forceF s.f0 s.f1 s.f2 lits).1.foldl addF lits)) else none
theorem prop_append : ∀ (l1 l2 : List S40) (lits : List Int), propF (l1 ++ l2) lits = (propF l1 lits).bind (propF l2)
  | [], _, _ => rfl
  | s :: l, l2, lits => by
    simp only [List.cons_append, propF]
    split
    · split
      · rfl
      · exact prop_append l l2 _
    · rfl
theorem prop_all : ∀ (l : List S40) (a : List Bool), 1 ≤ a.length → a.length ≤ 65537 → (∀ s ∈ l, okC (a.length - 1) s) → holdsF l a = true → propF l (litsOf a) = some (litsOf a)
  | [], _, _, _, _, _ => rfl
  | s :: l, a, h1, h2, h3, h4 => by
    simp only [holdsF, List.all_cons, Bool.and_eq_true] at h4
    rw [propF, if_pos ⟨linF_ok (okC_mono (h3 s List.mem_cons_self) (by omega)) (by omega) (by omega), lits_good h1 h2⟩, force_all (h3 s List.mem_cons_self) h1 h2 h4.1]
    simp only [List.foldl_nil]
    exact prop_all l a h1 h2 (fun t ht => h3 t (List.mem_cons_of_mem _ ht)) (by simp only [holdsF]; exact h4.2)
theorem prop_one : ∀ (l : List S40) (a : List Bool) (r : Bool), 1 ≤ a.length → a.length ≤ 65536 → (∀ s ∈ l, okC a.length s) → holdsF l (a ++ [r]) = true → holdsF l (a ++ [!r]) = false → propF l (litsOf a) = some (litsOf (a ++ [r]))
  | [], _, _, _, _, _, _, h => by simp [holdsF] at h
  | s :: l, a, r, h1, h2, h3, h4, h5 => by
    simp only [holdsF, List.all_cons, Bool.and_eq_true] at h4
    simp only [holdsF, List.all_cons] at h5
    have h3' : ∀ t ∈ l, okC a.length t := fun t ht => h3 t (List.mem_cons_of_mem _ ht)
    rw [propF, if_pos ⟨linF_ok (okC_mono (h3 s List.mem_cons_self) (by omega)) (by omega) (by omega), lits_good h1 (by omega)⟩, force_one (h3 s List.mem_cons_self) h1 h2 h4.1]
    by_cases h6 : linValF s.f0 s.f1 s.f2 (a ++ [!r]) = true
    · rw [h6, Bool.true_and] at h5
      simp only [h6, if_true, List.foldl_nil]
      exact prop_one l a r h1 h2 h3' (by simp only [holdsF]; exact h4.2) (by simp only [holdsF]; exact h5)
    · rw [if_neg h6]
      simp only [List.foldl_cons, List.foldl_nil]
      have hn : ¬ (if r = true then (a.length : Int) else -(a.length : Int)) ∈ litsOf a := fun hm => by
        have h7 := lits_mem h1 _ hm
        have e : absF (if r = true then (a.length : Int) else -(a.length : Int)) = a.length := by
          cases r
          · simp [absF_neg, absF_of_pos (show (0 : Int) < a.length by omega)]
          · simp [absF_of_pos (show (0 : Int) < a.length by omega)]
        omega
      rw [addF, if_neg (c := _ ∈ litsOf a) hn, ← litsOf_snoc h1 r]
      refine (if_neg (by simp)).trans ?_
      exact prop_all l (a ++ [r]) (by simp) (by simp; omega) (fun t ht => by
        have := h3' t ht
        simpa using this) (by simp only [holdsF]; exact h4.2)

mutual
/-- Propagating a formula's constraints determines its new variables. -/
theorem prop_tree : ∀ (t : S24) (n next : Int) (base A : List Bool), formedT t n = true → wideT t = false → 0 ≤ n → n < next → (litF t next).2.2 ≤ 65537 → (A.length : Int) = next → n < base.length → A.take base.length = base →
    propF (litF t next).2.1 (litsOf A) = some (litsOf (readF t A).2)
  | ⟨kind, v, q, ts⟩, n, next, base, A, hf, hw, h0, h1, hb, hA, hn, hAb => by
    simp only [formedT, Bool.and_eq_true] at hf
    simp only [wideT, Bool.or_eq_false_iff, decide_eq_false_iff_not] at hw
    have hg := litsF_grows ts next
    have hlt := litsF_lit ts n next hf.2 h0 h1
    have hsl := litsF_length ts next
    by_cases k2 : kind = 2
    · subst k2
      have e1 : litF ⟨2, v, q, ts⟩ next = (v, [], next) := by rw [litF]; rfl
      have e2 : readF ⟨2, v, q, ts⟩ A = (v, A) := by rw [readF]; rfl
      rw [e1, e2]
      rfl
    · by_cases k3 : kind = 3
      · subst k3
        have e1 : litF ⟨3, v, q, ts⟩ next = (-((litsF ts next).1.headD 0), (litsF ts next).2.1, (litsF ts next).2.2) := by rw [litF]; rfl
        have e2 : readF ⟨3, v, q, ts⟩ A = (-((readsF ts A).1.headD 0), (readsF ts A).2.2) := by rw [readF]; rfl
        rw [e1] at hb
        rw [e1, e2]
        exact props_tree ts n next base A hf.2 hw.2 h0 h1 hb hA hn hAb
      · have e1 : litF ⟨kind, v, q, ts⟩ next = ((litsF ts next).2.2, (litsF ts next).2.1 ++ sumsF (litsF ts next).2.2 (thr kind v q ts.length) (litsF ts next).1, (litsF ts next).2.2 + 1) := by rw [litF]; rw [if_neg k2, if_neg k3]
        have e2 : readF ⟨kind, v, q, ts⟩ A = (((readsF ts A).2.2.length : Int), (readsF ts A).2.2 ++ [isF kind v q ts.length (readsF ts A).2.1]) := by rw [readF]; rw [if_neg k2, if_neg k3]
        rw [e1] at hb ⊢
        rw [e2]
        simp only at hb ⊢
        have ih := props_tree ts n next base A hf.2 hw.2 h0 h1 (by omega) hA hn hAb
        obtain ⟨g1, g2, g3, g4⟩ := reads_ok ts n next base A hf.2 hw.2 h0 h1 (by omega) hA hn hAb
        rw [prop_append, ih]
        show propF _ _ = _
        generalize hA' : (readsF ts A).2.2 = A' at g2 g4 ⊢
        generalize hcnt : (readsF ts A).2.1 = cnt at g3 ⊢
        generalize hmid : (litsF ts next).2.2 = mid at hb hg hlt g2 ⊢
        generalize hlits : (litsF ts next).1 = lits at hlt hsl g4 ⊢
        have hlen := g2.len
        have hc1 := cntT_le lits A'
        rw [g4 A' List.take_length] at hc1
        have hthr := thr_is (cnt := cnt) hf.1 k2 k3 (by omega) (by omega)
        have hh : ∀ b : Bool, holdsF (sumsF mid (thr kind v q ts.length) lits) (A' ++ [b]) = (b == isF kind v q ts.length cnt) := fun b => by
          have htr : trueF mid (A' ++ [b]) = b := by
            unfold trueF
            rw [if_neg (by omega), decide_eq_true (show mid < (((A' ++ [b]).length : Nat) : Int) by rw [List.length_append, List.length_singleton]; omega)]
            unfold rdOf
            rw [show mid.toNat = A'.length by omega, List.getD_eq_getElem?_getD, List.getElem?_append_right (Nat.le_refl _)]
            simp
          rw [sums_holds mid (thr kind v q ts.length) lits (A' ++ [b]) (by omega) (by omega) (fun y hy => by have := hlt y hy; omega), htr, g4 _ (by rw [List.take_append_of_le_length (Nat.le_refl _), List.take_length]), ← g3, hthr]
        refine prop_one _ A' _ (by omega) (by omega) (fun s hs => ?_) (by rw [hh]; simp) (by rw [hh]; simp)
        rw [show (A'.length : Int) = mid by omega]
        exact sumsF_ok mid (thr kind v q ts.length) lits mid (by omega) (by omega) (fun y hy => by have := hlt y hy; omega) s hs
theorem props_tree : ∀ (ts : List S24) (n next : Int) (base A : List Bool), formedTs ts n = true → wideTs ts = false → 0 ≤ n → n < next → (litsF ts next).2.2 ≤ 65537 → (A.length : Int) = next → n < base.length → A.take base.length = base →
    propF (litsF ts next).2.1 (litsOf A) = some (litsOf (readsF ts A).2.2)
  | [], n, next, base, A, hf, hw, h0, h1, hb, hA, hn, hAb => rfl
  | t :: ts, n, next, base, A, hf, hw, h0, h1, hb, hA, hn, hAb => by
    simp only [formedTs, Bool.and_eq_true] at hf
    simp only [wideTs, Bool.or_eq_false_iff] at hw
    have hg := litF_grows t next
    have hg2 := litsF_grows ts (litF t next).2.2
    have e1 : litsF (t :: ts) next = ((litF t next).1 :: (litsF ts (litF t next).2.2).1, (litF t next).2.1 ++ (litsF ts (litF t next).2.2).2.1, (litsF ts (litF t next).2.2).2.2) := by rw [litsF]
    have e2 : readsF (t :: ts) A = ((readF t A).1 :: (readsF ts (readF t A).2).1, (if trueF (readF t A).1 (readF t A).2 = true then 1 else 0) + (readsF ts (readF t A).2).2.1, (readsF ts (readF t A).2).2.2) := by rw [readsF]
    rw [e1] at hb ⊢
    rw [e2]
    simp only at hb ⊢
    have ih := prop_tree t n next base A hf.1 hw.1 h0 h1 (by omega) hA hn hAb
    obtain ⟨g1, g2, g3⟩ := read_ok t n next base A hf.1 hw.1 h0 h1 (by omega) hA hn hAb
    have hle : base.length ≤ A.length := by
      have := congrArg List.length hAb
      rw [List.length_take] at this
      omega
    have hbase : (readF t A).2.take base.length = base := by rw [take_of_take g2.pre hle, hAb]
    rw [prop_append, ih]
    exact props_tree ts n (litF t next).2.2 base (readF t A).2 hf.2 hw.2 h0 (by omega) hb g2.len hn hbase
end
end Go.Proofs.Ytkcmkoolcakfjaa.P

/- gate.Gates and gate.All. -/
import Derived.Test.YtkcmkoolcakfjaaHMade
namespace Go.Proofs.Ytkcmkoolcakfjaa.P
open Go.RowKit Go.Proofs.YtkcmkoolcakfjaaW.PrintWords Go.Proofs.YtkcmkoolcakfjaaW.PrintLast Go.Proofs.YtkcmkoolcakfjaaW.PrintMore Go.Proofs.Ytkcmkoolcakfjaa.Aid
set_option linter.unusedVariables false
set_option linter.unusedSimpArgs false

theorem results4 {fn : Func} {a b c d : Tmp} (h : fn.results = #[.tmp a, .tmp b, .tmp c, .tmp d]) (tmps : Array Value) (P : Program) (w : World) :
    (results fn tmps).run P w = .ok (.tuple #[tmps.getD a undef, tmps.getD b undef, tmps.getD c undef, tmps.getD d undef]) w := by
  simp [results, h]

set_option maxRecDepth 100000 in
set_option maxHeartbeats 2000000 in
theorem All.calls (ts : List S24) (A : Option Addr) (c : Nat) (next : Int) (w : World) (hC : Kd.C k24 w A ts.length ts) (hc : ts.length ≤ c) (hlen : ts.length ≤ 1048576) (hsz : ∀ t ∈ ts, sizeT t ≤ 1048576) :
    Calls Try.prog 16 #[.slice A ts.length c, .int .i64 next] w fun e w' => ∃ lv vl, e = .returned (.tuple #[lv, vl, .int .i64 (madeF ts next).2.2.1, .int .i64 (madeF ts next).2.2.2]) ∧
      IRow w' w.heap.size lv (madeF ts next).1 ∧ Kd.N k40 40 w' w.heap.size (fun q => w.heap.size ≤ q ∧ some q ≠ lv.ownBlock) vl (madeF ts next).2.1 ∧ Below w.heap.size w w' := by
  have HMD := Aside0.mk (made.calls ts A c next w hC hc hlen hsz)
  clear hC hsz
  go_enter Try.func16, Try.ntmps16
  go_wp2_with (go_at_call 29; refine HMD.out.mono ?_; rintro e w2 ⟨lv, vl, rfl, hr, hN, hb⟩; obtain ⟨Av, cv, ev⟩ := Kd.N_slice hN; obtain ⟨A5, n5, c5, e5⟩ := hr.form; obtain ⟨nv, hnv⟩ : ∃ n, n = (madeF ts next).2.1.length := ⟨_, rfl⟩; rw [← hnv] at ev; clear hnv; subst ev e5; have HR := Aside0.mk hr; have HN := Aside0.mk hN; have HB := Aside0.mk hb; clear hr hN hb)
  obtain ⟨nx, hnx⟩ : ∃ nx, (madeF ts next).2.2.1 = nx := ⟨_, rfl⟩
  obtain ⟨er, her⟩ : ∃ er, (madeF ts next).2.2.2 = er := ⟨_, rfl⟩
  simp only [hnx, her]
  have HNX := Aside0.mk hnx
  have HER := Aside0.mk her
  clear hnx her
  have xG := blk_new w2 (.cells #[.slice Av nv cv, .int .i64 nx] 56)
  have HR1 := Aside0.mk (HR.out.below (below_alloc (Below.refl w2.heap.size w2) (.cells #[.slice Av nv cv, .int .i64 nx] 56)).drew)
  have HN1 := Aside0.mk (Kd.N_below HN.out (below_alloc (Below.refl w2.heap.size w2) (.cells #[.slice Av nv cv, .int .i64 nx] 56)).drew)
  have HB1 := Aside0.mk (below_step HB.out (below_alloc (Below.refl w2.heap.size w2) (.cells #[.slice Av nv cv, .int .i64 nx] 56)).drew)
  clear HR HN HB
  generalize hG : w2.heap.size = G at xG
  refine start_ (n := 10) (S := fun V => V.heap[G]? = some (.cells #[.slice Av nv cv, .int .i64 nx] 56 (0, 0))) (ds := []) #[false, false, false, false, false, false, false, false, false, false] (by kernel_rfl) rfl rfl xG (fun hHeld => ?_)
  refine pure_ (i := 0) (N := some 16) (v := ?_) (a' := ?_) #[true, false, false, false, false, false, false, false, false, false] rfl rfl (by kernel_rfl) (fun _ _ _ h => h) (Or.inl ⟨by rfl, ?_⟩) ?_ ?_
  rotate_left
  · intro w'
    go_simp
    with_reducible rfl
  rotate_left
  · simp only [Act.put, List.setIfInBounds_toArray, List.set_cons_zero, List.set_cons_succ, i64_w, i32_w]
    rfl
  refine pure_ (i := 1) (N := some 17) (v := ?_) (a' := ?_) #[true, true, false, false, false, false, false, false, false, false] rfl rfl (by kernel_rfl) (fun _ _ _ h => h) (Or.inl ⟨by rfl, ?_⟩) ?_ ?_
  rotate_left
  · intro w'
    go_simp
    with_reducible rfl
  rotate_left
  · simp only [Act.put, List.setIfInBounds_toArray, List.set_cons_zero, List.set_cons_succ, i64_w, i32_w]
    rfl
  refine pure_ (i := 3) (N := some 19) (v := ?_) (a' := ?_) #[true, true, false, true, false, false, false, false, false, false] rfl rfl (by kernel_rfl) (fun _ _ _ h => h) (Or.inl ⟨by rfl, ?_⟩) ?_ ?_
  rotate_left
  · intro w'
    go_simp
    with_reducible rfl
  rotate_left
  · simp only [Act.put, List.setIfInBounds_toArray, List.set_cons_zero, List.set_cons_succ, i64_w, i32_w]
    rfl
  refine pure_ (i := 5) (N := some 21) (v := ?_) (a' := ?_) #[true, true, false, true, false, true, false, false, false, false] rfl rfl (by kernel_rfl) (fun _ _ _ h => h) (Or.inl ⟨by rfl, ?_⟩) ?_ ?_
  rotate_left
  · intro w'
    go_simp
    with_reducible rfl
  rotate_left
  · simp only [Act.put, List.setIfInBounds_toArray, List.set_cons_zero, List.set_cons_succ, i64_w, i32_w]
    rfl
  refine take_ (i := 2) (N := some 18) (v := ?_) (a' := ?_) #[true, true, true, true, false, true, false, false, false, false] rfl rfl (by kernel_rfl) (fun _ _ _ h => h) (Or.inl ⟨by rfl, ?_⟩) hHeld ?_ ?_
  rotate_left
  · rintro w' hw0
    have hc0 := blk_cell hw0 0
    go_simp
    with_reducible rfl
  rotate_left
  · simp only [Act.put, List.setIfInBounds_toArray, List.set_cons_zero, List.set_cons_succ, i64_w, i32_w]
    rfl
  refine take_ (i := 4) (N := some 20) (v := ?_) (a' := ?_) #[true, true, true, true, true, true, false, false, false, false] rfl rfl (by kernel_rfl) (fun _ _ _ h => h) (Or.inl ⟨by rfl, ?_⟩) hHeld ?_ ?_
  rotate_left
  · rintro w' hw0
    have hc0 := blk_cell hw0 1
    go_simp
    with_reducible rfl
  rotate_left
  · simp only [Act.put, List.setIfInBounds_toArray, List.set_cons_zero, List.set_cons_succ, i64_w, i32_w]
    rfl
  refine pure_ (i := 6) (N := some 4) (v := ?_) (a' := ?_) #[true, true, true, true, true, true, true, false, false, false] rfl rfl (by kernel_rfl) (fun _ _ _ h => h) (Or.inl ⟨by rfl, ?_⟩) ?_ ?_
  rotate_left
  · intro w'
    go_simp
    with_reducible rfl
  rotate_left
  · simp only [Act.put, List.setIfInBounds_toArray, List.set_cons_zero, List.set_cons_succ, i64_w, i32_w]
    rfl
  refine pure_ (i := 7) (N := some 5) (v := ?_) (a' := ?_) #[true, true, true, true, true, true, true, true, false, false] rfl rfl (by kernel_rfl) (fun _ _ _ h => h) (Or.inl ⟨by rfl, ?_⟩) ?_ ?_
  rotate_left
  · intro w'
    go_simp
    with_reducible rfl
  rotate_left
  · simp only [Act.put, List.setIfInBounds_toArray, List.set_cons_zero, List.set_cons_succ, i64_w, i32_w]
    rfl
  refine pure_ (i := 8) (N := some 6) (v := ?_) (a' := ?_) #[true, true, true, true, true, true, true, true, true, false] rfl rfl (by kernel_rfl) (fun _ _ _ h => h) (Or.inl ⟨by rfl, ?_⟩) ?_ ?_
  rotate_left
  · intro w'
    go_simp
    with_reducible rfl
  rotate_left
  · simp only [Act.put, List.setIfInBounds_toArray, List.set_cons_zero, List.set_cons_succ, i64_w, i32_w]
    rfl
  refine pure_ (i := 9) (N := some 7) (v := ?_) (a' := ?_) #[true, true, true, true, true, true, true, true, true, true] rfl rfl (by kernel_rfl) (fun _ _ _ h => h) (Or.inl ⟨by rfl, ?_⟩) ?_ ?_
  rotate_left
  · intro w'
    go_simp
    with_reducible rfl
  rotate_left
  · simp only [Act.put, List.setIfInBounds_toArray, List.set_cons_zero, List.set_cons_succ, i64_w, i32_w]
    rfl
  refine done_ (by kernel_rfl) ?_
  go_wp2_with fail
  refine bodyPost_ret (results4 rfl _ _ _) rfl ?_
  rw [HNX.out, HER.out]
  exact ⟨_, _, rfl, HR1.out, HN1.out, HB1.out⟩

/-- A literal of one tree. -/
theorem C_one24 {W : World} {g : Nat} {T : S24} {A : Option Addr} {c : Nat} (hb : W.heap[g]? = some (.cells #[.int .i64 T.f0, .int .i64 T.f1, .int .i64 T.f2, .slice A T.f3.length c] 24 (0, 0))) (hC : Kd.C k24 W A T.f3.length T.f3) (hc : T.f3.length ≤ c) : Kd.C k24 W (some ⟨g, 0, none⟩) 1 [T] := by
  refine ⟨rfl, by omega, fun _ => ⟨_, rfl, fun j p hj => ?_⟩⟩
  have hj0 : j = 0 := by
    rcases j with _ | j
    · rfl
    · simp at hj
  subst hj0
  obtain rfl : T = p := by simpa using hj
  refine ⟨_, rfl, k24_mk W T hc hC, fun i u hu => ?_⟩
  have e : (⟨g, 0, none⟩ : Addr).add (0 * k24.sz + i) = ⟨g, i, none⟩ := by
    rw [Nat.zero_mul, Nat.zero_add]
    rcases i with _ | i <;> simp [Addr.add]
  rw [e]
  refine (blk_cell hb i).trans ?_
  rw [← hu]
  simp

theorem madeF_err {ts : List S24} {next : Int} (h : ¬ (madeF ts next).2.2.2 = 0) : madeF ts next = ([], [], 0, (madeF ts next).2.2.2) := by
  unfold madeF at h ⊢
  split
  · rfl
  · split
    · rfl
    · split
      · rename_i h1 h2 h3
        rw [if_neg h1, if_neg h2, if_pos h3] at h
        exact absurd rfl h
      · rfl
theorem madeF_ok {ts : List S24} {next : Int} (h : (madeF ts next).2.2.2 = 0) : madeF ts next = ((litsF ts next).1, (litsF ts next).2.1, (litsF ts next).2.2, 0) ∧ 1 ≤ next ∧ next ≤ 65537 ∧ madeE ts next = 0 := by
  unfold madeF at h ⊢
  split
  · rename_i h1
    rw [if_pos h1] at h
    cases h
  · rename_i h1
    rw [if_neg h1] at h
    split
    · rename_i h2
      rw [if_pos h2] at h
      cases h
    · rename_i h2
      rw [if_neg h2] at h
      split
      · rename_i h3
        exact ⟨rfl, by omega, by omega, h3⟩
      · rename_i h3
        rw [if_neg h3] at h
        exact absurd h h3

set_option maxRecDepth 100000 in
set_option maxHeartbeats 2000000 in
theorem Gates.calls (T : S24) (A : Option Addr) (c : Nat) (next : Int) (w : World) (hC : Kd.C k24 w A T.f3.length T.f3) (hc : T.f3.length ≤ c) (hsz : sizeT T ≤ 1048576) :
    Calls Try.prog 12 #[.agg #[.int .i64 T.f0, .int .i64 T.f1, .int .i64 T.f2, .slice A T.f3.length c], .int .i64 next] w fun e w' => ∃ vl, e = .returned (.tuple #[.int .i64 ((madeF [T] next).1.headD 0), vl, .int .i64 (madeF [T] next).2.2.1, .int .i64 (madeF [T] next).2.2.2]) ∧
      Kd.N k40 40 w' w.heap.size (fun q => w.heap.size ≤ q) vl (madeF [T] next).2.1 ∧ Below w.heap.size w w' := by
  have hb2 : Below w.heap.size w ((w.alloc (.cells #[.int .i64 T.f0, .int .i64 T.f1, .int .i64 T.f2, .slice A T.f3.length c] 24)).alloc (.cells #[.int .i64 T.f0, .int .i64 T.f1, .int .i64 T.f2, .slice A T.f3.length c] 24)) := below_alloc (below_alloc (Below.refl _ _) _) _
  have hg2 : ((w.alloc (.cells #[.int .i64 T.f0, .int .i64 T.f1, .int .i64 T.f2, .slice A T.f3.length c] 24)).alloc (.cells #[.int .i64 T.f0, .int .i64 T.f1, .int .i64 T.f2, .slice A T.f3.length c] 24)).heap[w.heap.size + 1]? = some (.cells #[.int .i64 T.f0, .int .i64 T.f1, .int .i64 T.f2, .slice A T.f3.length c] 24 (0, 0)) := by
    have h := blk_new (w.alloc (.cells #[.int .i64 T.f0, .int .i64 T.f1, .int .i64 T.f2, .slice A T.f3.length c] 24)) (.cells #[.int .i64 T.f0, .int .i64 T.f1, .int .i64 T.f2, .slice A T.f3.length c] 24)
    rwa [World.size_alloc] at h
  have HMD := Aside0.mk (made.calls [T] (some ⟨w.heap.size + 1, 0, none⟩) 1 next _ (C_one24 hg2 (Kd.C_below hC hb2) hc) (Nat.le_refl _) (by simp) (fun t ht => by rw [List.mem_singleton] at ht; subst ht; exact hsz))
  have HB2 := Aside0.mk hb2
  clear hC hsz hb2 hg2
  by_cases h0 : (madeF [T] next).2.2.2 = 0
  · obtain ⟨hm, _⟩ := madeF_ok h0
    obtain ⟨x, hx⟩ : ∃ x, (litsF [T] next).1 = [x] := ⟨_, rfl⟩
    rw [hx] at hm
    rw [hm] at HMD ⊢
    clear hm hx h0
    generalize (litsF [T] next).2.1 = l at HMD ⊢
    generalize (litsF [T] next).2.2 = nx at HMD ⊢
    go_enter Try.func12, Try.ntmps12
    go_wp2_with (go_at_call 29; refine HMD.out.mono ?_; rintro e w2 ⟨lv, vl, rfl, hr, hN, hb⟩; obtain ⟨Av, cv, ev⟩ := Kd.N_slice hN; obtain ⟨g5, c5, e5, hg5, _⟩ := World.ownsRow.form hr (by simp); obtain ⟨x5, _⟩ := own_at (g := g5) (n := 1) (cap := c5) (k := .i64) (xs := [x]) (by rw [e5] at hr; exact hr) 0 (by omega) (by omega); replace x5 : w2.cell? ⟨g5, 0, none⟩ = some (.int .i64 x) := x5; simp only [List.length_cons, List.length_nil, Nat.zero_add] at e5; obtain ⟨nv, hnv⟩ : ∃ n, n = l.length := ⟨_, rfl⟩; rw [← hnv] at ev; clear hnv; subst ev e5; have HN := Aside0.mk (Kd.N_lower hN HB2.out.size); have HB := Aside0.mk (HB2.out.trans (hb.mono HB2.out.size)); have HZ := Aside0.mk HB2.out.size; clear hr hN hb HMD)
    have xG := blk_new w2 (.cells #[.slice Av nv cv, .int .i64 nx] 56)
    have HN1 := Aside0.mk (Kd.N_below HN.out (below_alloc (Below.refl w2.heap.size w2) (.cells #[.slice Av nv cv, .int .i64 nx] 56)).drew)
    have HB1 := Aside0.mk (below_step HB.out (below_alloc (Below.refl w2.heap.size w2) (.cells #[.slice Av nv cv, .int .i64 nx] 56)).drew)
    replace x5 : (w2.alloc (.cells #[.slice Av nv cv, .int .i64 nx] 56)).cell? ⟨g5, 0, none⟩ = some (.int .i64 x) := pw_cell_below (below_alloc (Below.refl w2.heap.size w2) _) x5
    clear HN HB
    generalize hG : w2.heap.size = G at xG
    refine start_ (n := 12) (S := fun V => V.heap[G]? = some (.cells #[.slice Av nv cv, .int .i64 nx] 56 (0, 0)) ∧ V.cell? ⟨g5, 0, none⟩ = some (.int .i64 x)) (ds := []) #[false, false, false, false, false, false, false, false, false, false, false, false] (by kernel_rfl) rfl rfl ⟨xG, x5⟩ (fun hHeld => ?_)
    refine pure_ (i := 0) (N := some 21) (v := ?_) (a' := ?_) #[true, false, false, false, false, false, false, false, false, false, false, false] rfl rfl (by kernel_rfl) (fun _ _ _ h => h) (Or.inl ⟨by rfl, ?_⟩) ?_ ?_
    rotate_left
    · intro w'
      go_simp
      with_reducible rfl
    rotate_left
    · simp only [Act.put, List.setIfInBounds_toArray, List.set_cons_zero, List.set_cons_succ, i64_w, i32_w]
      rfl
    refine pure_ (i := 1) (N := some 22) (v := ?_) (a' := ?_) #[true, true, false, false, false, false, false, false, false, false, false, false] rfl rfl (by kernel_rfl) (fun _ _ _ h => h) (Or.inl ⟨by rfl, ?_⟩) ?_ ?_
    rotate_left
    · intro w'
      go_simp
      with_reducible rfl
    rotate_left
    · simp only [Act.put, List.setIfInBounds_toArray, List.set_cons_zero, List.set_cons_succ, i64_w, i32_w]
      rfl
    refine pure_ (i := 3) (N := some 24) (v := ?_) (a' := ?_) #[true, true, false, true, false, false, false, false, false, false, false, false] rfl rfl (by kernel_rfl) (fun _ _ _ h => h) (Or.inl ⟨by rfl, ?_⟩) ?_ ?_
    rotate_left
    · intro w'
      go_simp
      with_reducible rfl
    rotate_left
    · simp only [Act.put, List.setIfInBounds_toArray, List.set_cons_zero, List.set_cons_succ, i64_w, i32_w]
      rfl
    refine pure_ (i := 5) (N := some 26) (v := ?_) (a' := ?_) #[true, true, false, true, false, true, false, false, false, false, false, false] rfl rfl (by kernel_rfl) (fun _ _ _ h => h) (Or.inl ⟨by rfl, ?_⟩) ?_ ?_
    rotate_left
    · intro w'
      go_simp
      with_reducible rfl
    rotate_left
    · simp only [Act.put, List.setIfInBounds_toArray, List.set_cons_zero, List.set_cons_succ, i64_w, i32_w]
      rfl
    refine pure_ (i := 7) (N := some 28) (v := ?_) (a' := ?_) #[true, true, false, true, false, true, false, true, false, false, false, false] rfl rfl (by kernel_rfl) (fun _ _ _ h => h) (Or.inl ⟨by rfl, ?_⟩) ?_ ?_
    rotate_left
    · intro w'
      go_simp
      with_reducible rfl
    rotate_left
    · simp only [Act.put, List.setIfInBounds_toArray, List.set_cons_zero, List.set_cons_succ, i64_w, i32_w]
      rfl
    refine take_ (i := 2) (N := some 23) (v := ?_) (a' := ?_) #[true, true, true, true, false, true, false, true, false, false, false, false] rfl rfl (by kernel_rfl) (fun _ _ _ h => h) (Or.inl ⟨by rfl, ?_⟩) hHeld ?_ ?_
    rotate_left
    · rintro w' ⟨hw0, hw1⟩
      have hc0 := hw1
      go_simp
      with_reducible rfl
    rotate_left
    · simp only [Act.put, List.setIfInBounds_toArray, List.set_cons_zero, List.set_cons_succ, i64_w, i32_w]
      rfl
    refine take_ (i := 4) (N := some 25) (v := ?_) (a' := ?_) #[true, true, true, true, true, true, false, true, false, false, false, false] rfl rfl (by kernel_rfl) (fun _ _ _ h => h) (Or.inl ⟨by rfl, ?_⟩) hHeld ?_ ?_
    rotate_left
    · rintro w' ⟨hw0, hw1⟩
      have hc0 := blk_cell hw0 0
      go_simp
      with_reducible rfl
    rotate_left
    · simp only [Act.put, List.setIfInBounds_toArray, List.set_cons_zero, List.set_cons_succ, i64_w, i32_w]
      rfl
    refine take_ (i := 6) (N := some 27) (v := ?_) (a' := ?_) #[true, true, true, true, true, true, true, true, false, false, false, false] rfl rfl (by kernel_rfl) (fun _ _ _ h => h) (Or.inl ⟨by rfl, ?_⟩) hHeld ?_ ?_
    rotate_left
    · rintro w' ⟨hw0, hw1⟩
      have hc0 := blk_cell hw0 1
      go_simp
      with_reducible rfl
    rotate_left
    · simp only [Act.put, List.setIfInBounds_toArray, List.set_cons_zero, List.set_cons_succ, i64_w, i32_w]
      rfl
    refine pure_ (i := 8) (N := some 4) (v := ?_) (a' := ?_) #[true, true, true, true, true, true, true, true, true, false, false, false] rfl rfl (by kernel_rfl) (fun _ _ _ h => h) (Or.inl ⟨by rfl, ?_⟩) ?_ ?_
    rotate_left
    · intro w'
      go_simp
      with_reducible rfl
    rotate_left
    · simp only [Act.put, List.setIfInBounds_toArray, List.set_cons_zero, List.set_cons_succ, i64_w, i32_w]
      rfl
    refine pure_ (i := 9) (N := some 5) (v := ?_) (a' := ?_) #[true, true, true, true, true, true, true, true, true, true, false, false] rfl rfl (by kernel_rfl) (fun _ _ _ h => h) (Or.inl ⟨by rfl, ?_⟩) ?_ ?_
    rotate_left
    · intro w'
      go_simp
      with_reducible rfl
    rotate_left
    · simp only [Act.put, List.setIfInBounds_toArray, List.set_cons_zero, List.set_cons_succ, i64_w, i32_w]
      rfl
    refine pure_ (i := 10) (N := some 6) (v := ?_) (a' := ?_) #[true, true, true, true, true, true, true, true, true, true, true, false] rfl rfl (by kernel_rfl) (fun _ _ _ h => h) (Or.inl ⟨by rfl, ?_⟩) ?_ ?_
    rotate_left
    · intro w'
      go_simp
      with_reducible rfl
    rotate_left
    · simp only [Act.put, List.setIfInBounds_toArray, List.set_cons_zero, List.set_cons_succ, i64_w, i32_w]
      rfl
    refine pure_ (i := 11) (N := some 7) (v := ?_) (a' := ?_) #[true, true, true, true, true, true, true, true, true, true, true, true] rfl rfl (by kernel_rfl) (fun _ _ _ h => h) (Or.inl ⟨by rfl, ?_⟩) ?_ ?_
    rotate_left
    · intro w'
      go_simp
      with_reducible rfl
    rotate_left
    · simp only [Act.put, List.setIfInBounds_toArray, List.set_cons_zero, List.set_cons_succ, i64_w, i32_w]
      rfl
    refine done_ (by kernel_rfl) ?_
    go_wp2_with fail
    refine bodyPost_ret (results4 rfl _ _ _) rfl ?_
    exact ⟨_, rfl, Kd.N_mono HN1.out (fun k hk => Nat.le_trans HZ.out hk.1), HB1.out⟩
  · have hm := madeF_err h0
    obtain ⟨er, her⟩ : ∃ er, (madeF [T] next).2.2.2 = er := ⟨_, rfl⟩
    rw [her] at hm h0
    rw [hm] at HMD ⊢
    clear her hm
    have h0b : (er != 0) = true := by simpa using h0
    go_enter Try.func12, Try.ntmps12
    go_wp2_with (go_at_call 29; refine HMD.out.mono ?_; rintro e w2 ⟨lv, vl, rfl, hr, hN, hb⟩; obtain ⟨Av, cv, ev⟩ := Kd.N_slice hN; obtain ⟨A5, n5, c5, e5⟩ := hr.form; subst ev e5; have HB := Aside0.mk (HB2.out.trans (hb.mono HB2.out.size)); clear hr hN hb HMD)
    refine bodyPost_ret (results4 rfl _ _ _) rfl ?_
    exact ⟨_, rfl, Kd.N_nil _ _ _ _ _, below_step HB.out (below_alloc (Below.refl _ _) _)⟩

/-- In the form that printed callers ask for. -/
def gate_Gates.f (kind v q : Int) (l : List S24) (next : Int) : Option (Int × List S40 × Int × Int) :=
  if sizeT ⟨kind, v, q, l⟩ ≤ 1048576 then some ((madeF [⟨kind, v, q, l⟩] next).1.headD 0, (madeF [⟨kind, v, q, l⟩] next).2.1, (madeF [⟨kind, v, q, l⟩] next).2.2.1, (madeF [⟨kind, v, q, l⟩] next).2.2.2) else none
theorem gate_Gates.calls (kind v q : Int) (A : Option Addr) (c : Nat) (l : List S24) (next : Int) (r1 : Int) (r2 : List S40) (r3 r4 : Int) (w : World) (hC : Kd.C k24 w A l.length l) (hc : l.length ≤ c) (h : gate_Gates.f kind v q l next = some (r1, r2, r3, r4)) :
    Calls Try.prog 12 #[.agg #[.int .i64 kind, .int .i64 v, .int .i64 q, .slice A l.length c], .int .i64 next] w fun e w' => ∃ v1, e = .returned (.tuple #[.int .i64 r1, v1, .int .i64 r3, .int .i64 r4]) ∧ Kd.N k40 40 w' w.heap.size (fun k_ => w.heap.size ≤ k_) v1 r2 ∧ Below w.heap.size w w' := by
  unfold gate_Gates.f at h
  by_cases hs : sizeT ⟨kind, v, q, l⟩ ≤ 1048576
  · rw [if_pos hs] at h
    have h := Option.some.inj h
    simp only [Prod.mk.injEq] at h
    obtain ⟨rfl, rfl, rfl, rfl⟩ := h
    exact Gates.calls ⟨kind, v, q, l⟩ A c next w hC hc hs
  · rw [if_neg hs] at h
    cases h
/-- All trees are small. -/
def smallTs (l : List S24) : Bool := decide (l.length ≤ 1048576) && l.all fun t => decide (sizeT t ≤ 1048576)
def gate_All.f (l : List S24) (next : Int) : Option (List Int × List S40 × Int × Int) := if smallTs l = true then some (madeF l next) else none
theorem gate_All.calls (A : Option Addr) (c : Nat) (l : List S24) (next : Int) (r1 : List Int) (r2 : List S40) (r3 r4 : Int) (w : World) (hC : Kd.C k24 w A l.length l) (hc : l.length ≤ c) (h : gate_All.f l next = some (r1, r2, r3, r4)) :
    Calls Try.prog 16 #[.slice A l.length c, .int .i64 next] w fun e w' => ∃ v0 v1, e = .returned (.tuple #[v0, v1, .int .i64 r3, .int .i64 r4]) ∧ (Kd.int .i64).R 3 w' w.heap.size (fun k_ => w.heap.size ≤ k_) v0 r1 ∧ Kd.N k40 40 w' w.heap.size (fun k_ => w.heap.size ≤ k_ ∧ some k_ ≠ v0.ownBlock) v1 r2 ∧ Below w.heap.size w w' := by
  unfold gate_All.f at h
  by_cases hs : smallTs l = true
  · rw [if_pos hs] at h
    have h := Option.some.inj h
    simp only [smallTs, Bool.and_eq_true, decide_eq_true_eq, List.all_eq_true] at hs
    refine (All.calls l A c next w hC hc hs.1 hs.2).mono ?_
    rw [h]
    rintro e w' ⟨lv, vl, rfl, hr, hN, hb⟩
    exact ⟨lv, vl, rfl, hr.toR _ (fun k hk => (hr.lt k hk).1), hN, hb⟩
  · rw [if_neg hs] at h
    cases h
end Go.Proofs.Ytkcmkoolcakfjaa.P

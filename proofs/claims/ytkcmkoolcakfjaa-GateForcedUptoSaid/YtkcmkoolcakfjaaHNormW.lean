/- lin.Norm walked whole. -/
import Derived.Test.YtkcmkoolcakfjaaHSort
/- lin.Norm's table of sums: one term, and the fold over all terms. -/
namespace Go.Proofs.Ytkcmkoolcakfjaa.P
open Go.RowKit Go.Proofs.YtkcmkoolcakfjaaW.PrintWords Go.Proofs.YtkcmkoolcakfjaaW.PrintLast Go.Proofs.YtkcmkoolcakfjaaW.PrintMore Go.Proofs.Ytkcmkoolcakfjaa.Aid
set_option linter.unusedVariables false
set_option linter.unusedSimpArgs false

theorem grown_drew {w W : World} {r : Option Nat} (h : w.grownBy W r) : w.grownBy W.drew r := ⟨h.os, h.tape, h.output, h.size, h.block⟩
def pairV (x : Int × Int) : Value := .agg #[.int .i64 x.1, .int .i64 x.2]
def mz (m : MZ) : List (Int × Value) := m.map fun p => (p.1, pairV p.2)
theorem getV_mz (m : MZ) (k : Int) : (getV (mz m) k).getD (pairV (0, 0)) = pairV (getZ m k) := by
  induction m with
  | nil => rfl
  | cons p m ih =>
    simp only [mz, List.map_cons, getV, getZ] at ih ⊢
    split
    · rfl
    · exact ih
theorem setV_mz (m : MZ) (k : Int) (v : Int × Int) : setV (mz m) k (pairV v) = mz (setZ m k v) := by
  induction m with
  | nil => rfl
  | cons p m ih =>
    simp only [mz, List.map_cons, setV, setZ] at ih ⊢
    split
    · rfl
    · rw [ih]; rfl
set_option maxRecDepth 100000 in
set_option maxHeartbeats 1000000 in
theorem sumStep.calls (b : Nat) (m : MZ) (c lit : Int) (w : World) (hM : MapAt w b (mz m)) (h0 : -65536 ≤ lit) (h1 : lit ≤ 65536) (hc0 : -1099511627776 ≤ c) (hc1 : c ≤ 1099511627776)
    (ha : -4611686018427387904 ≤ (getZ m (absF lit)).1 ∧ (getZ m (absF lit)).1 ≤ 4611686018427387904) (hb : -4611686018427387904 ≤ (getZ m (absF lit)).2 ∧ (getZ m (absF lit)).2 ≤ 4611686018427387904) :
    Calls Try.prog 62 #[.map (some b), .int .i64 c, .int .i64 lit] w fun e w' => e = .returned (.map (some b)) ∧ MapAt w' b (mz (sumStep m c lit)) ∧ w.grownBy w' (some b) := by
  have HOF := Aside0.mk (fun W => of.calls lit W h0 h1)
  have HV : Aside0 (sumStep m c lit = setZ m (absF lit) (putZ (getZ m (absF lit)) c lit)) := ⟨rfl⟩
  have hlook := run_lookup_map Try.underlying91 Try.underlying3 hM (absF lit) (z := pairV (0, 0)) (by kernel_rfl)
  rw [getV_mz] at hlook
  have HM := Aside0.mk hM
  obtain ⟨k, hk⟩ : ∃ k, absF lit = k := ⟨_, rfl⟩
  obtain ⟨⟨x, y⟩, hx⟩ : ∃ x, getZ m (absF lit) = x := ⟨_, rfl⟩
  rw [hx] at hlook ha hb HV
  rw [hk] at hlook HOF HV hx
  simp only [pairV] at hlook
  simp only at ha hb
  have HX := Aside0.mk hx
  clear hM hx hk
  by_cases h : 0 < lit
  · have hd : decide (0 < lit) = true := decide_eq_true h
    go_enter Try.func62, Try.ntmps62
    go_wp2_with (go_at_call 45; refine (HOF.out _).mono ?_; rintro e w2 ⟨rfl, rfl⟩)
    refine start_ (n := 5) (S := fun V => V.heap[w.heap.size]? = some (.cells #[.int .i64 (x + c), .int .i64 y] 93 (0, 0))) (ds := [4]) #[false, false, false, false, false] (by kernel_rfl) rfl rfl (blk_new w _) (fun hHeld => ?_)
    have hB : Below w.heap.size w (w.alloc (.cells #[.int .i64 (x + c), .int .i64 y] 93)).drew := below_drew (below_alloc (Below.refl _ _) _)
    have hg0 : w.grownBy (w.alloc (.cells #[.int .i64 (x + c), .int .i64 y] 93)).drew (some b) := grown_drew (World.grownBy_alloc w _ (some b))
    generalize (w.alloc (.cells #[.int .i64 (x + c), .int .i64 y] 93)).drew = W0 at hB hg0 hHeld ⊢
    refine pure_ (i := 0) (N := some 24) (v := ?_) (a' := ?_) #[true, false, false, false, false] rfl rfl (by kernel_rfl) (fun _ _ _ h => h) (Or.inl ⟨by rfl, ?_⟩) ?_ ?_
    rotate_left
    · intro w'
      go_simp
      with_reducible rfl
    rotate_left
    · simp only [Act.put, List.setIfInBounds_toArray, List.set_cons_zero, List.set_cons_succ, i64_w, i32_w]
      rfl
    refine pure_ (i := 1) (N := some 25) (v := ?_) (a' := ?_) #[true, true, false, false, false] rfl rfl (by kernel_rfl) (fun _ _ _ h => h) (Or.inl ⟨by rfl, ?_⟩) ?_ ?_
    rotate_left
    · intro w'
      go_simp
      with_reducible rfl
    rotate_left
    · simp only [Act.put, List.setIfInBounds_toArray, List.set_cons_zero, List.set_cons_succ, i64_w, i32_w]
      rfl
    refine take_ (i := 3) (N := some 27) (v := ?_) (a' := ?_) #[true, true, false, true, false] rfl rfl (by kernel_rfl) (fun _ _ _ h => h) (Or.inl ⟨by rfl, ?_⟩) hHeld ?_ ?_
    rotate_left
    · rintro w' hw
      have hc0 := blk_cell hw 0; have hc1 := blk_cell hw 1
      go_simp
      with_reducible rfl
    rotate_left
    · simp only [Act.put, List.setIfInBounds_toArray, List.set_cons_zero, List.set_cons_succ, i64_w, i32_w]
      rfl
    refine one_ (i := 2) (N := some 26) #[true, true, true, true, false] rfl rfl (by kernel_rfl) (by decide) (fun K hK => ?_)
    refine goes_ Try.func45 (by kernel_rfl) rfl #[.int .i64 lit] (by rfl) rfl rfl (by simp only [List.map_toArray, List.map_cons, List.map_nil]; rfl) ?_
    refine (HOF.out _).mono ?_
    rintro e w4 ⟨rfl, rfl⟩
    refine ⟨_, rfl, ?_⟩
    refine hK.out _ _ hHeld (fun hHeld => ?_)
    clear hK K
    refine norm_ (a' := ?_) ?_ ?_
    rotate_left
    · show Act.put _ (some 26) _ = _
      simp only [Act.put, List.setIfInBounds_toArray, List.set_cons_zero, List.set_cons_succ, i64_w, i32_w]
      rfl
    refine last_ (i := 4) (N := none) #[true, true, true, true, true] rfl rfl (by kernel_rfl) (by decide) (fun K hK => ?_)
    obtain ⟨w5, hrun, hM5, hg5⟩ := run_mapUpdate_map (P := Try.prog) Try.underlying91 Try.underlying3 (HM.out.below hB) (k) (pairV ((x + c), y))
    simp only [pairV] at hrun
    refine skip_ (w1 := w5) (by rfl) rfl ?hr_ ?_
    case hr_ =>
      go_simp
      try rfl
    refine hK.out _ _ ?_
    clear hK K
    refine done_ (by kernel_rfl) ?_
    go_wp2_with fail
    go_ret
    refine ⟨rfl, ?_, hg0.trans hg5⟩
    rw [HV.out, ← setV_mz]
    simp only [putZ, HX.out]
    first | rw [if_pos h] | rw [if_neg (by omega)]
    exact hM5
  · have hd : decide (0 < lit) = false := decide_eq_false h
    go_enter Try.func62, Try.ntmps62
    go_wp2_with (go_at_call 45; refine (HOF.out _).mono ?_; rintro e w2 ⟨rfl, rfl⟩)
    refine start_ (n := 5) (S := fun V => V.heap[w.heap.size]? = some (.cells #[.int .i64 x, .int .i64 (y + c)] 93 (0, 0))) (ds := [4]) #[false, false, false, false, false] (by kernel_rfl) rfl rfl (blk_new w _) (fun hHeld => ?_)
    have hB : Below w.heap.size w (w.alloc (.cells #[.int .i64 x, .int .i64 (y + c)] 93)).drew := below_drew (below_alloc (Below.refl _ _) _)
    have hg0 : w.grownBy (w.alloc (.cells #[.int .i64 x, .int .i64 (y + c)] 93)).drew (some b) := grown_drew (World.grownBy_alloc w _ (some b))
    generalize (w.alloc (.cells #[.int .i64 x, .int .i64 (y + c)] 93)).drew = W0 at hB hg0 hHeld ⊢
    refine pure_ (i := 0) (N := some 24) (v := ?_) (a' := ?_) #[true, false, false, false, false] rfl rfl (by kernel_rfl) (fun _ _ _ h => h) (Or.inl ⟨by rfl, ?_⟩) ?_ ?_
    rotate_left
    · intro w'
      go_simp
      with_reducible rfl
    rotate_left
    · simp only [Act.put, List.setIfInBounds_toArray, List.set_cons_zero, List.set_cons_succ, i64_w, i32_w]
      rfl
    refine pure_ (i := 1) (N := some 25) (v := ?_) (a' := ?_) #[true, true, false, false, false] rfl rfl (by kernel_rfl) (fun _ _ _ h => h) (Or.inl ⟨by rfl, ?_⟩) ?_ ?_
    rotate_left
    · intro w'
      go_simp
      with_reducible rfl
    rotate_left
    · simp only [Act.put, List.setIfInBounds_toArray, List.set_cons_zero, List.set_cons_succ, i64_w, i32_w]
      rfl
    refine take_ (i := 3) (N := some 27) (v := ?_) (a' := ?_) #[true, true, false, true, false] rfl rfl (by kernel_rfl) (fun _ _ _ h => h) (Or.inl ⟨by rfl, ?_⟩) hHeld ?_ ?_
    rotate_left
    · rintro w' hw
      have hc0 := blk_cell hw 0; have hc1 := blk_cell hw 1
      go_simp
      with_reducible rfl
    rotate_left
    · simp only [Act.put, List.setIfInBounds_toArray, List.set_cons_zero, List.set_cons_succ, i64_w, i32_w]
      rfl
    refine one_ (i := 2) (N := some 26) #[true, true, true, true, false] rfl rfl (by kernel_rfl) (by decide) (fun K hK => ?_)
    refine goes_ Try.func45 (by kernel_rfl) rfl #[.int .i64 lit] (by rfl) rfl rfl (by simp only [List.map_toArray, List.map_cons, List.map_nil]; rfl) ?_
    refine (HOF.out _).mono ?_
    rintro e w4 ⟨rfl, rfl⟩
    refine ⟨_, rfl, ?_⟩
    refine hK.out _ _ hHeld (fun hHeld => ?_)
    clear hK K
    refine norm_ (a' := ?_) ?_ ?_
    rotate_left
    · show Act.put _ (some 26) _ = _
      simp only [Act.put, List.setIfInBounds_toArray, List.set_cons_zero, List.set_cons_succ, i64_w, i32_w]
      rfl
    refine last_ (i := 4) (N := none) #[true, true, true, true, true] rfl rfl (by kernel_rfl) (by decide) (fun K hK => ?_)
    obtain ⟨w5, hrun, hM5, hg5⟩ := run_mapUpdate_map (P := Try.prog) Try.underlying91 Try.underlying3 (HM.out.below hB) (k) (pairV (x, (y + c)))
    simp only [pairV] at hrun
    refine skip_ (w1 := w5) (by rfl) rfl ?hr_ ?_
    case hr_ =>
      go_simp
      try rfl
    refine hK.out _ _ ?_
    clear hK K
    refine done_ (by kernel_rfl) ?_
    go_wp2_with fail
    go_ret
    refine ⟨rfl, ?_, hg0.trans hg5⟩
    rw [HV.out, ← setV_mz]
    simp only [putZ, HX.out]
    first | rw [if_pos h] | rw [if_neg (by omega)]
    exact hM5
/-- The sums stay small. -/
theorem getZ_set (m : MZ) (k k' : Int) (v : Int × Int) : getZ (setZ m k v) k' = if k = k' then v else getZ m k' := by
  induction m with
  | nil => simp [setZ, getZ]
  | cons p m ih =>
    by_cases h : p.1 = k
    · rw [setZ, if_pos h]
      by_cases h2 : k = k'
      · simp [getZ, h2]
      · rw [if_neg h2]; simp [getZ, h2]
        exact fun e => absurd (by rw [← h, e]) h2
    · rw [setZ, if_neg h]
      by_cases h3 : p.1 = k'
      · simp only [getZ, if_pos h3]
        rw [if_neg (fun e => h (by rw [h3, e]))]
      · simp only [getZ, if_neg h3, ih]
theorem sums_bound {cs ls : List Int} (hl : cs.length = ls.length) (hc : ∀ c ∈ cs, -1099511627776 ≤ c ∧ c ≤ 1099511627776) : ∀ (i : Nat), i ≤ ls.length → ∀ k, -(1099511627776 * (i : Int)) ≤ (getZ (foldA sumStep cs ls [] i) k).1 ∧ (getZ (foldA sumStep cs ls [] i) k).1 ≤ 1099511627776 * (i : Int) ∧ -(1099511627776 * (i : Int)) ≤ (getZ (foldA sumStep cs ls [] i) k).2 ∧ (getZ (foldA sumStep cs ls [] i) k).2 ≤ 1099511627776 * (i : Int)
  | 0, _, k => by simp [foldA, getZ]
  | i + 1, h, k => by
    have ih := sums_bound hl hc i (by omega)
    have h1 := hc _ (rd_mem' (l := cs) (i := i) (by omega))
    have i1 := ih k
    have i2 := ih (absF (rd ls i))
    rw [foldA, sumStep, getZ_set]
    split
    · unfold putZ
      split <;> simp only <;> omega
    · omega
theorem keys_len {cs ls : List Int} : ∀ i : Nat, (foldA sumStep cs ls [] i).length ≤ i
  | 0 => Nat.le_refl _
  | i + 1 => by
    have ih := keys_len (cs := cs) (ls := ls) i
    have h : ∀ (m : MZ) (k : Int) (v : Int × Int), (setZ m k v).length ≤ m.length + 1 := by
      intro m k v
      induction m with
      | nil => simp [setZ]
      | cons p m ih => rw [setZ]; split <;> simp <;> omega
    rw [foldA, sumStep]
    have := h (foldA sumStep cs ls [] i) (absF (rd ls i)) (putZ (getZ (foldA sumStep cs ls [] i) (absF (rd ls i))) (rd cs i) (rd ls i))
    omega
set_option maxRecDepth 100000 in
set_option maxHeartbeats 1000000 in
theorem fold_map.calls (b : Nat) (A0 : Option Addr) (c0 : Nat) (cs : List Int) (A1 : Option Addr) (c1 : Nat) (ls : List Int) (least : Int) (w0 w : World) (hW : Below w0.heap.size w0 w) (hC0 : Kd.C (Kd.int .i64) w0 A0 cs.length cs) (hC1 : Kd.C (Kd.int .i64) w0 A1 ls.length ls) (hl : cs.length = ls.length) (hl1 : ls.length ≤ 4096)
    (hM : MapAt w b (mz [])) (hb : w0.heap.size ≤ b) (hc : ∀ c ∈ cs, -1099511627776 ≤ c ∧ c ≤ 1099511627776) (hy : ∀ y ∈ ls, -65536 ≤ y ∧ y ≤ 65536) :
    Calls Try.prog 61 #[.agg #[.slice A0 cs.length c0, .slice A1 ls.length c1, .int .i64 least], .map (some b), .func (.func 62) #[] #[]] w fun e w' => e = .returned (.map (some b)) ∧ MapAt w' b (mz (sumsZ cs ls)) ∧ w.grownBy w' (some b) := by
  have HW := Aside0.mk hW
  have HC0 := Aside0.mk hC0
  have HC1 := Aside0.mk hC1
  have HL := Aside0.mk hl
  have HC := Aside0.mk hc
  have HY := Aside0.mk hy
  have HBL := Aside0.mk hM.lt
  have HBG := Aside0.mk hb
  have HENT := Aside0.mk (fun (args : Array Value) w => enters_ Try.func62 (by kernel_rfl) rfl args w)
  have hx0 := blk_new w (.cells #[.slice A0 cs.length c0, .slice A1 ls.length c1, .int .i64 least] 40)
  have HX0 := Aside0.mk hx0
  have HG0 := Aside0.mk (World.grownBy_alloc w (.cells #[.slice A0 cs.length c0, .slice A1 ls.length c1, .int .i64 least] 40) (some b))
  have HM0 := Aside0.mk (hM.below (below_alloc (Below.refl _ _) (.cells #[.slice A0 cs.length c0, .slice A1 ls.length c1, .int .i64 least] 40)))
  clear hW hC0 hC1 hl hx0 hM hc hy hb
  go_enter Try.func61, Try.ntmps61
  go_wp2_with fail
  go_loopw [1, 12] (fun v1 v12 wr => ∃ i : Nat, i ≤ ls.length ∧ v12 = .int .i64 i ∧ v1 = .map (some b) ∧ Aside0 (w.grownBy wr (some b)) ∧ Aside0 (MapAt wr b (mz (foldA sumStep cs ls [] i))) ∧ Aside0 (wr.heap[w.heap.size]? = some (.cells #[.slice A0 cs.length c0, .slice A1 ls.length c1, .int .i64 least] 40 (0, 0)))) (fun _ v12 _ => (ls.length - intOf v12).toNat)
  case atStart => exact ⟨0, by omega, rfl, rfl, HG0, HM0, HX0⟩
  case round =>
    obtain ⟨i, hi1, rfl, rfl, HG, HM, HX⟩ := hrel
    by_cases hlt : i < ls.length
    · obtain ⟨ad, rfl, x0⟩ := Kd.at_int HC1.out i (by omega) (by omega)
      obtain ⟨ad0, rfl, x1⟩ := Kd.at_int HC0.out i (by omega) (by have := HL.out; omega)
      have HBW : Aside0 (Below w0.heap.size w0 wr) := ⟨HW.out.grown HG.out HW.out.size (fun k hk => by injection hk with hk; have := HBG.out; omega)⟩
      replace x0 := (HBW.out.cell (World.block_lt_of_cell? w0 _ x0)).trans x0
      replace x1 := (HBW.out.cell (World.block_lt_of_cell? w0 _ x1)).trans x1
      simp only [Int.toNat_natCast] at x0 x1
      have hsb := sums_bound HL.out HC.out i hi1 (absF (rd ls i))
      have hci := HC.out _ (rd_mem' (l := cs) (i := i) (by have := HL.out; omega))
      have hyi := HY.out _ (rd_mem' hlt)
      have HCALL := Aside0.mk (sumStep.calls b (foldA sumStep cs ls [] i) (rd cs i) (rd ls i) wr HM.out hyi.1 hyi.2 hci.1 hci.2 (by omega) (by omega))
      have hent' := HENT.out
      have y0 : wr.cell? ⟨w.heap.size, 0, none⟩ = some (.slice (some ad0) cs.length c0) := (blk_cell HX.out 0).trans rfl
      have hltc : (i : Int) < cs.length := by have := HL.out; omega
      have hltd : i < cs.length := by have := HL.out; omega
      clear hsb hci hyi
      go_wp2_with fail
      clear x0 x1 y0 HENT hent'
      refine HCALL.out.mono ?_
      rintro e w2 ⟨rfl, hM2, hg2⟩
      have HG2 := Aside0.mk (HG.out.trans hg2)
      have HM2 := Aside0.mk hM2
      have HX2 : Aside0 (w2.heap[w.heap.size]? = some (.cells #[.slice (some ad0) cs.length c0, .slice (some ad) ls.length c1, .int .i64 least] 40 (0, 0))) := ⟨by
        have h1 := (Array.getElem?_eq_some_iff.1 HX.out).1
        rw [hg2.block w.heap.size h1 (fun e => by injection e with e; have := HBL.out; omega)]
        exact HX.out⟩
      clear hM2 hg2 HCALL
      go_wp2_with fail
      go_roundw
      case rel => exact ⟨i + 1, by omega, by go_num, rfl, HG2, HM2, HX2⟩
      case measure => simp [intOf]; omega
    · have hi : i = ls.length := by omega
      subst hi
      go_wp2_with fail
      go_ret
      exact ⟨rfl, HM.out, HG.out⟩
end Go.Proofs.Ytkcmkoolcakfjaa.P

/- lin.build: put, all, each. -/
namespace Go.Proofs.Ytkcmkoolcakfjaa.P
open Go.RowKit Go.Proofs.YtkcmkoolcakfjaaW.PrintWords Go.Proofs.YtkcmkoolcakfjaaW.PrintLast Go.Proofs.YtkcmkoolcakfjaaW.PrintMore Go.Proofs.Ytkcmkoolcakfjaa.Aid
set_option linter.unusedVariables false
set_option linter.unusedSimpArgs false

/-- What lay below R is kept, block o aside. -/
structure Fr (o R : Nat) (w w' : World) : Prop where
  os : w'.os = w.os
  tape : w'.tape = w.tape
  output : w'.output = w.output
  size : w.heap.size ≤ w'.heap.size
  block : ∀ k, k < R → k ≠ o → w'.heap[k]? = w.heap[k]?
theorem Fr.refl (o R : Nat) (w : World) : Fr o R w w := ⟨rfl, rfl, rfl, Nat.le_refl _, fun _ _ _ => rfl⟩
theorem Fr.trans {o R : Nat} {w w1 w2 : World} (h : Fr o R w w1) (k : Fr o R w1 w2) : Fr o R w w2 :=
  ⟨k.os.trans h.os, k.tape.trans h.tape, k.output.trans h.output, Nat.le_trans h.size k.size, fun j h1 h2 => (k.block j h1 h2).trans (h.block j h1 h2)⟩
theorem Fr.of_below {o R : Nat} {w w1 : World} (h : Below w.heap.size w w1) (hR : R ≤ w.heap.size) : Fr o R w w1 :=
  ⟨h.os, h.tape, h.output, h.size, fun j h1 _ => h.block j (by omega)⟩
theorem Fr.of_grown {o R : Nat} {w w1 : World} {row : Option Nat} (h : w.grownBy w1 row) (hR : R ≤ w.heap.size) (hr : ∀ k, row = some k → R ≤ k) : Fr o R w w1 :=
  ⟨h.os, h.tape, h.output, h.size, fun j h1 _ => h.block j (by omega) (fun e => by have := hr j e.symm; omega)⟩
theorem Fr.drew {o R : Nat} {w w1 : World} (h : Fr o R w w1) : Fr o R w w1.drew := ⟨h.os, h.tape, h.output, h.size, h.block⟩
theorem Fr.setCell {o R : Nat} (w : World) (a : Addr) (v : Value) (ha : a.block = o ∨ R ≤ a.block) : Fr o R w (w.setCell a v) :=
  ⟨rfl, rfl, rfl, by rw [World.size_setCell]; exact Nat.le_refl _, fun j h1 h2 => Below.heap_setCell _ _ _ j (fun e => by omega)⟩
theorem Fr.below {o R B : Nat} {w w1 : World} (h : Fr o R w w1) (hB : B ≤ o) (hR : B ≤ R) : Below B w w1 := ⟨h.os, h.tape, h.output, h.size, fun j hj => h.block j (by omega) (by omega)⟩

/-- The constraint under construction in block o; its rows lie from R on. -/
structure NJ (o R : Nat) (w W : World) (least : Int) (vc vL : Value) (cs ls : List Int) (bc bL : Value) : Prop where
  fr : Fr o R w W
  sz : R ≤ W.heap.size
  lt : o < R
  box : W.heap[o]? = some (.cells #[bc, bL, .int .i64 least] 97 (0, 0))
  hc : IRow W R vc cs
  hL : IRow W R vL ls
  ne : ∀ k, vc.ownBlock = some k → vL.ownBlock ≠ some k
section
variable {o R : Nat} {w W W1 : World} {least : Int} {vc vL v1 bc bL : Value} {cs ls cs' : List Int}
theorem NJ.drew (h : NJ o R w W least vc vL cs ls bc bL) : NJ o R w W.drew least vc vL cs ls bc bL := ⟨h.fr.drew, h.sz, h.lt, h.box, h.hc, h.hL, h.ne⟩
theorem NJ.step (h : NJ o R w W least vc vL cs ls bc bL) (hb : Below W.heap.size W W1) : NJ o R w W1 least vc vL cs ls bc bL :=
  ⟨h.fr.trans (Fr.of_below hb h.sz), Nat.le_trans h.sz hb.size, h.lt, blk_below h.box hb, h.hc.below hb, h.hL.below hb, h.ne⟩
theorem NJ.appc (h : NJ o R w W least vc vL cs ls bc bL) (hg : W.grownBy W1 vc.ownBlock) (hr : IRow W1 R v1 cs') (hat : v1.ownBlock = vc.ownBlock ∨ v1.ownBlock = some W.heap.size) : NJ o R w W1 least v1 vL cs' ls bc bL :=
  ⟨h.fr.trans (Fr.of_grown hg h.sz (fun k hk => (h.hc.lt k hk).1)), Nat.le_trans h.sz hg.size, h.lt, blk_grown h.box hg (fun e => (h.hc.ne_block h.box (by decide) _ e.symm) rfl), hr, h.hL.grown hg (fun k hk e => h.ne k e.symm hk), fun k hk e => by
    rcases hat with hat | hat
    · rw [hat] at hk; exact h.ne k hk e
    · rw [hat] at hk; injection hk with hk; subst hk; exact absurd (h.hL.lt _ e).2 (Nat.lt_irrefl _)⟩
theorem NJ.appL (h : NJ o R w W least vc vL cs ls bc bL) (hg : W.grownBy W1 vL.ownBlock) (hr : IRow W1 R v1 cs') (hat : v1.ownBlock = vL.ownBlock ∨ v1.ownBlock = some W.heap.size) : NJ o R w W1 least vc v1 cs cs' bc bL :=
  ⟨h.fr.trans (Fr.of_grown hg h.sz (fun k hk => (h.hL.lt k hk).1)), Nat.le_trans h.sz hg.size, h.lt, blk_grown h.box hg (fun e => (h.hL.ne_block h.box (by decide) _ e.symm) rfl), h.hc.grown hg (fun k hk e => h.ne k hk e.symm), hr, fun k hk e => by
    rcases hat with hat | hat
    · rw [hat] at e; exact h.ne k hk e
    · rw [hat] at e; injection e with e; subst e; exact absurd (h.hc.lt _ hk).2 (Nat.lt_irrefl _)⟩
theorem NJ.set0 (h : NJ o R w W least vc vL cs ls bc bL) (u : Value) : NJ o R w (W.setCell ⟨o, 0, none⟩ u) least vc vL cs ls u bL :=
  ⟨h.fr.trans (Fr.setCell W _ u (.inl rfl)), by rw [World.size_setCell]; exact h.sz, h.lt, blk_put h.box 0 u rfl, h.hc.far (h.hc.ne_block h.box (by decide)) u, h.hL.far (h.hL.ne_block h.box (by decide)) u, h.ne⟩
theorem NJ.set1 (h : NJ o R w W least vc vL cs ls bc bL) (u : Value) : NJ o R w (W.setCell ⟨o, 1, none⟩ u) least vc vL cs ls bc u :=
  ⟨h.fr.trans (Fr.setCell W _ u (.inl rfl)), by rw [World.size_setCell]; exact h.sz, h.lt, blk_put h.box 1 u rfl, h.hc.far (h.hc.ne_block h.box (by decide)) u, h.hL.far (h.hL.ne_block h.box (by decide)) u, h.ne⟩
theorem NJ.set2 (h : NJ o R w W least vc vL cs ls bc bL) (n : Int) : NJ o R w (W.setCell ⟨o, 2, none⟩ (.int .i64 n)) n vc vL cs ls bc bL :=
  ⟨h.fr.trans (Fr.setCell W _ _ (.inl rfl)), by rw [World.size_setCell]; exact h.sz, h.lt, blk_put h.box 2 (.int .i64 n) rfl, h.hc.far (h.hc.ne_block h.box (by decide)) _, h.hL.far (h.hL.ne_block h.box (by decide)) _, h.ne⟩
theorem NJ.self (h : NJ o R w W least vc vL cs ls bc bL) : NJ o R W W least vc vL cs ls bc bL := ⟨Fr.refl _ _ _, h.sz, h.lt, h.box, h.hc, h.hL, h.ne⟩
theorem NJ.onto (h : NJ o R w W least vc vL cs ls bc bL) {w0 : World} (hf : Fr o R w0 w) : NJ o R w0 W least vc vL cs ls bc bL := ⟨hf.trans h.fr, h.sz, h.lt, h.box, h.hc, h.hL, h.ne⟩
end
set_option maxRecDepth 100000 in
set_option maxHeartbeats 2000000 in
theorem build_put.calls (o R : Nat) (least : Int) (vc vL : Value) (cs ls : List Int) (c x : Int) (w : World) (J0 : NJ o R w w least vc vL cs ls vc vL) (hlc : cs.length ≤ 1048576) (hlL : ls.length ≤ 1048576) :
    Calls Try.prog 66 #[.pointer (some ⟨o, 0, none⟩), .int .i64 c, .int .i64 x] w fun e w' => e = .returned (.tuple #[]) ∧ ∃ vc' vL', NJ o R w w' least vc' vL' (cs ++ [c]) (ls ++ [x]) vc' vL' := by
  go_enter Try.func66, Try.ntmps66
  refine start_ (n := 26) (S := fun W => W.heap[o]? = some (.cells #[vc, vL, .int .i64 least] 97 (0, 0))) (ds := [21, 25]) #[false, false, false, false, false, false, false, false, false, false, false, false, false, false, false, false, false, false, false, false, false, false, false, false, false, false] (by kernel_rfl) rfl rfl J0.box (fun hHeld => ?_)
  have J : NJ o R w w.drew least vc vL cs ls vc vL := J0.drew
  clear J0
  generalize w.drew = W0 at J hHeld ⊢
  refine pure_ (i := 0) (N := some 6) (v := ?_) (a' := ?_) #[true, false, false, false, false, false, false, false, false, false, false, false, false, false, false, false, false, false, false, false, false, false, false, false, false, false] rfl rfl (by kernel_rfl) (fun _ _ _ h => h) (Or.inl ⟨by rfl, ?_⟩) ?_ ?_
  rotate_left
  · intro w'
    go_simp
    with_reducible rfl
  rotate_left
  · simp only [Act.put, List.setIfInBounds_toArray, List.set_cons_zero, List.set_cons_succ, i64_w, i32_w]
    rfl
  refine pure_ (i := 1) (N := some 7) (v := ?_) (a' := ?_) #[true, true, false, false, false, false, false, false, false, false, false, false, false, false, false, false, false, false, false, false, false, false, false, false, false, false] rfl rfl (by kernel_rfl) (fun _ _ _ h => h) (Or.inl ⟨by rfl, ?_⟩) ?_ ?_
  rotate_left
  · intro w'
    go_simp
    with_reducible rfl
  rotate_left
  · simp only [Act.put, List.setIfInBounds_toArray, List.set_cons_zero, List.set_cons_succ, i64_w, i32_w]
    rfl
  refine pure_ (i := 2) (N := some 8) (v := ?_) (a' := ?_) #[true, true, true, false, false, false, false, false, false, false, false, false, false, false, false, false, false, false, false, false, false, false, false, false, false, false] rfl rfl (by kernel_rfl) (fun _ _ _ h => h) (Or.inl ⟨by rfl, ?_⟩) ?_ ?_
  rotate_left
  · intro w'
    go_simp
    with_reducible rfl
  rotate_left
  · simp only [Act.put, List.setIfInBounds_toArray, List.set_cons_zero, List.set_cons_succ, i64_w, i32_w]
    rfl
  refine pure_ (i := 3) (N := some 9) (v := ?_) (a' := ?_) #[true, true, true, true, false, false, false, false, false, false, false, false, false, false, false, false, false, false, false, false, false, false, false, false, false, false] rfl rfl (by kernel_rfl) (fun _ _ _ h => h) (Or.inl ⟨by rfl, ?_⟩) ?_ ?_
  rotate_left
  · intro w'
    go_simp
    with_reducible rfl
  rotate_left
  · simp only [Act.put, List.setIfInBounds_toArray, List.set_cons_zero, List.set_cons_succ, i64_w, i32_w]
    rfl
  refine pure_ (i := 4) (N := some 10) (v := ?_) (a' := ?_) #[true, true, true, true, true, false, false, false, false, false, false, false, false, false, false, false, false, false, false, false, false, false, false, false, false, false] rfl rfl (by kernel_rfl) (fun _ _ _ h => h) (Or.inl ⟨by rfl, ?_⟩) ?_ ?_
  rotate_left
  · intro w'
    go_simp
    with_reducible rfl
  rotate_left
  · simp only [Act.put, List.setIfInBounds_toArray, List.set_cons_zero, List.set_cons_succ, i64_w, i32_w]
    rfl
  refine pure_ (i := 5) (N := some 11) (v := ?_) (a' := ?_) #[true, true, true, true, true, true, false, false, false, false, false, false, false, false, false, false, false, false, false, false, false, false, false, false, false, false] rfl rfl (by kernel_rfl) (fun _ _ _ h => h) (Or.inl ⟨by rfl, ?_⟩) ?_ ?_
  rotate_left
  · intro w'
    go_simp
    with_reducible rfl
  rotate_left
  · simp only [Act.put, List.setIfInBounds_toArray, List.set_cons_zero, List.set_cons_succ, i64_w, i32_w]
    rfl
  refine pure_ (i := 7) (N := some 13) (v := ?_) (a' := ?_) #[true, true, true, true, true, true, false, true, false, false, false, false, false, false, false, false, false, false, false, false, false, false, false, false, false, false] rfl rfl (by kernel_rfl) (fun _ _ _ h => h) (Or.inl ⟨by rfl, ?_⟩) ?_ ?_
  rotate_left
  · intro w'
    go_simp
    with_reducible rfl
  rotate_left
  · simp only [Act.put, List.setIfInBounds_toArray, List.set_cons_zero, List.set_cons_succ, i64_w, i32_w]
    rfl
  refine pure_ (i := 10) (N := some 16) (v := ?_) (a' := ?_) #[true, true, true, true, true, true, false, true, false, false, true, false, false, false, false, false, false, false, false, false, false, false, false, false, false, false] rfl rfl (by kernel_rfl) (fun _ _ _ h => h) (Or.inl ⟨by rfl, ?_⟩) ?_ ?_
  rotate_left
  · intro w'
    go_simp
    with_reducible rfl
  rotate_left
  · simp only [Act.put, List.setIfInBounds_toArray, List.set_cons_zero, List.set_cons_succ, i64_w, i32_w]
    rfl
  refine pure_ (i := 11) (N := some 17) (v := ?_) (a' := ?_) #[true, true, true, true, true, true, false, true, false, false, true, true, false, false, false, false, false, false, false, false, false, false, false, false, false, false] rfl rfl (by kernel_rfl) (fun _ _ _ h => h) (Or.inl ⟨by rfl, ?_⟩) ?_ ?_
  rotate_left
  · intro w'
    go_simp
    with_reducible rfl
  rotate_left
  · simp only [Act.put, List.setIfInBounds_toArray, List.set_cons_zero, List.set_cons_succ, i64_w, i32_w]
    rfl
  refine pure_ (i := 12) (N := some 18) (v := ?_) (a' := ?_) #[true, true, true, true, true, true, false, true, false, false, true, true, true, false, false, false, false, false, false, false, false, false, false, false, false, false] rfl rfl (by kernel_rfl) (fun _ _ _ h => h) (Or.inl ⟨by rfl, ?_⟩) ?_ ?_
  rotate_left
  · intro w'
    go_simp
    with_reducible rfl
  rotate_left
  · simp only [Act.put, List.setIfInBounds_toArray, List.set_cons_zero, List.set_cons_succ, i64_w, i32_w]
    rfl
  refine pure_ (i := 13) (N := some 19) (v := ?_) (a' := ?_) #[true, true, true, true, true, true, false, true, false, false, true, true, true, true, false, false, false, false, false, false, false, false, false, false, false, false] rfl rfl (by kernel_rfl) (fun _ _ _ h => h) (Or.inl ⟨by rfl, ?_⟩) ?_ ?_
  rotate_left
  · intro w'
    go_simp
    with_reducible rfl
  rotate_left
  · simp only [Act.put, List.setIfInBounds_toArray, List.set_cons_zero, List.set_cons_succ, i64_w, i32_w]
    rfl
  refine pure_ (i := 15) (N := some 21) (v := ?_) (a' := ?_) #[true, true, true, true, true, true, false, true, false, false, true, true, true, true, false, true, false, false, false, false, false, false, false, false, false, false] rfl rfl (by kernel_rfl) (fun _ _ _ h => h) (Or.inl ⟨by rfl, ?_⟩) ?_ ?_
  rotate_left
  · intro w'
    go_simp
    with_reducible rfl
  rotate_left
  · simp only [Act.put, List.setIfInBounds_toArray, List.set_cons_zero, List.set_cons_succ, i64_w, i32_w]
    rfl
  refine take_ (i := 6) (N := some 12) (v := ?_) (a' := ?_) #[true, true, true, true, true, true, true, true, false, false, true, true, true, true, false, true, false, false, false, false, false, false, false, false, false, false] rfl rfl (by kernel_rfl) (fun _ _ _ h => h) (Or.inl ⟨by rfl, ?_⟩) hHeld ?_ ?_
  rotate_left
  · rintro w' hw
    have hc0 := blk_cell hw 0
    go_simp
    with_reducible rfl
  rotate_left
  · simp only [Act.put, List.setIfInBounds_toArray, List.set_cons_zero, List.set_cons_succ, i64_w, i32_w]
    rfl
  refine take_ (i := 14) (N := some 20) (v := ?_) (a' := ?_) #[true, true, true, true, true, true, true, true, false, false, true, true, true, true, true, true, false, false, false, false, false, false, false, false, false, false] rfl rfl (by kernel_rfl) (fun _ _ _ h => h) (Or.inl ⟨by rfl, ?_⟩) hHeld ?_ ?_
  rotate_left
  · rintro w' hw
    have hc0 := blk_cell hw 1
    go_simp
    with_reducible rfl
  rotate_left
  · simp only [Act.put, List.setIfInBounds_toArray, List.set_cons_zero, List.set_cons_succ, i64_w, i32_w]
    rfl
  refine join_ (σ := Value × Value × Value) 9 #[true, true, true, true, true, true, true, true, true, true, true, true, true, true, true, true, true, false, false, false, false, false, false, false, false, false] (fun s => [(14, s.1), (15, s.2.1), (22, s.2.2)]) (fun s W => NJ o R w W least s.2.1 vL (cs ++ [c]) ls vc vL ∧ ∃ b, s.2.2 = .slice (some ⟨b, 0, none⟩) 1 1 ∧ W.heap[b]? = some (.cells #[.int .i64 x] 3 (0, 0))) ?jcont ?jall
  case jall =>
    intro jc
    refine two_ (i := 8) (j := 16) (Ni := some 14) (Nj := some 22) #[true, true, true, true, true, true, true, true, true, false, true, true, true, true, true, true, false, false, false, false, false, false, false, false, false, false] #[true, true, true, true, true, true, true, true, false, false, true, true, true, true, true, true, true, false, false, false, false, false, false, false, false, false] rfl rfl rfl rfl (by kernel_rfl) (by decide) (by decide) (fun K hK => ?_) (fun K hK => ?_)
    · refine lit1_step (y := .int .i64 c) (e := 3) (by rfl) ?hr_ ?_
      case hr_ => first | (go_simp; done) | (go_simp; rfl)
      intro b2 hb2 Wb2 cb2 lb2
      have J := J.step lb2
      refine hK.out _ _ J.box (fun hHeld => ?_)
      clear hK K
      refine norm_ (a' := ?_) ?_ ?_
      rotate_left
      · show Act.put _ (some 14) _ = _
        simp only [Act.put, List.setIfInBounds_toArray, List.set_cons_zero, List.set_cons_succ, i64_w, i32_w]
        rfl
      refine two_ (i := 9) (j := 16) (Ni := some 15) (Nj := some 22) #[true, true, true, true, true, true, true, true, true, true, true, true, true, true, true, true, false, false, false, false, false, false, false, false, false, false] #[true, true, true, true, true, true, true, true, true, false, true, true, true, true, true, true, true, false, false, false, false, false, false, false, false, false] rfl rfl rfl rfl (by kernel_rfl) (by decide) (by decide) (fun K hK => ?_) (fun K hK => ?_)
      · refine app1_step (enc := Value.int .i64) R (.tmp 12) (.tmp 14) 34 3 (.int .i64 0) 8 (by rfl) (by rfl) Try.underlying34 info3 rfl (by decide) (fun _ => rfl) (v := vc) (y := c) (b := b2) (by rfl) (by rfl) J.hc cb2 J.sz (by omega) ?_
        intro v3 W3 hr3 hg3 ha3 hn3
        have J3 := J.appc hg3 hr3 ha3
        refine hK.out _ _ J3.box (fun hHeld => ?_)
        clear hK K
        refine norm_ (a' := ?_) ?_ ?_
        rotate_left
        · show Act.put _ (some 15) _ = _
          simp only [Act.put, List.setIfInBounds_toArray, List.set_cons_zero, List.set_cons_succ, i64_w, i32_w]
          rfl
        refine one_ (i := 16) (N := some 22) #[true, true, true, true, true, true, true, true, true, true, true, true, true, true, true, true, true, false, false, false, false, false, false, false, false, false] rfl rfl (by kernel_rfl) (by decide) (fun K hK => ?_)
        refine lit1_step (y := .int .i64 x) (e := 3) (by rfl) ?hr_ ?_
        case hr_ => first | (go_simp; done) | (go_simp; rfl)
        intro b7 hb7 W7 c7 l7
        have J7 := J3.step l7
        refine hK.out _ _ J7.box (fun hHeld => ?_)
        clear hK K
        refine norm_ (a' := ?_) ?_ ?_
        rotate_left
        · show Act.put _ (some 22) _ = _
          simp only [Act.put, List.setIfInBounds_toArray, List.set_cons_zero, List.set_cons_succ, i64_w, i32_w]
          rfl
        exact jc (_, v3, _) W7 ⟨J7, b7, rfl, c7⟩
      · have JJ := J
        refine lit1_step (y := .int .i64 x) (e := 3) (by rfl) ?hr_ ?_
        case hr_ => first | (go_simp; done) | (go_simp; rfl)
        intro b7 hb7 Wb7 cb7 lb7
        have J := J.step lb7
        have cb2 := blk_below cb2 lb7
        refine hK.out _ _ J.box (fun hHeld => ?_)
        clear hK K
        refine norm_ (a' := ?_) ?_ ?_
        rotate_left
        · show Act.put _ (some 22) _ = _
          simp only [Act.put, List.setIfInBounds_toArray, List.set_cons_zero, List.set_cons_succ, i64_w, i32_w]
          rfl
        refine one_ (i := 9) (N := some 15) #[true, true, true, true, true, true, true, true, true, true, true, true, true, true, true, true, true, false, false, false, false, false, false, false, false, false] rfl rfl (by kernel_rfl) (by decide) (fun K hK => ?_)
        refine app1_step (enc := Value.int .i64) R (.tmp 12) (.tmp 14) 34 3 (.int .i64 0) 8 (by rfl) (by rfl) Try.underlying34 info3 rfl (by decide) (fun _ => rfl) (v := vc) (y := c) (b := b2) (by rfl) (by rfl) J.hc cb2 J.sz (by omega) ?_
        intro v3 W3 hr3 hg3 ha3 hn3
        have J3 := J.appc hg3 hr3 ha3
        have c7' := blk_grown cb7 hg3 (fun e => by have := JJ.hc.lt _ e.symm; omega)
        refine hK.out _ _ J3.box (fun hHeld => ?_)
        clear hK K
        refine norm_ (a' := ?_) ?_ ?_
        rotate_left
        · show Act.put _ (some 15) _ = _
          simp only [Act.put, List.setIfInBounds_toArray, List.set_cons_zero, List.set_cons_succ, i64_w, i32_w]
          rfl
        exact jc (_, v3, _) W3 ⟨J3, b7, rfl, c7'⟩
    · have JJ := J
      refine lit1_step (y := .int .i64 x) (e := 3) (by rfl) ?hr_ ?_
      case hr_ => first | (go_simp; done) | (go_simp; rfl)
      intro b7 hb7 Wb7 cb7 lb7
      have J := J.step lb7
      refine hK.out _ _ J.box (fun hHeld => ?_)
      clear hK K
      refine norm_ (a' := ?_) ?_ ?_
      rotate_left
      · show Act.put _ (some 22) _ = _
        simp only [Act.put, List.setIfInBounds_toArray, List.set_cons_zero, List.set_cons_succ, i64_w, i32_w]
        rfl
      refine one_ (i := 8) (N := some 14) #[true, true, true, true, true, true, true, true, true, false, true, true, true, true, true, true, true, false, false, false, false, false, false, false, false, false] rfl rfl (by kernel_rfl) (by decide) (fun K hK => ?_)
      refine lit1_step (y := .int .i64 c) (e := 3) (by rfl) ?hr_ ?_
      case hr_ => first | (go_simp; done) | (go_simp; rfl)
      intro b2 hb2 Wb2 cb2 lb2
      have J := J.step lb2
      have cb7 := blk_below cb7 lb2
      refine hK.out _ _ J.box (fun hHeld => ?_)
      clear hK K
      refine norm_ (a' := ?_) ?_ ?_
      rotate_left
      · show Act.put _ (some 14) _ = _
        simp only [Act.put, List.setIfInBounds_toArray, List.set_cons_zero, List.set_cons_succ, i64_w, i32_w]
        rfl
      refine one_ (i := 9) (N := some 15) #[true, true, true, true, true, true, true, true, true, true, true, true, true, true, true, true, true, false, false, false, false, false, false, false, false, false] rfl rfl (by kernel_rfl) (by decide) (fun K hK => ?_)
      refine app1_step (enc := Value.int .i64) R (.tmp 12) (.tmp 14) 34 3 (.int .i64 0) 8 (by rfl) (by rfl) Try.underlying34 info3 rfl (by decide) (fun _ => rfl) (v := vc) (y := c) (b := b2) (by rfl) (by rfl) J.hc cb2 J.sz (by omega) ?_
      intro v3 W3 hr3 hg3 ha3 hn3
      have J3 := J.appc hg3 hr3 ha3
      have c7' := blk_grown cb7 hg3 (fun e => by have := JJ.hc.lt _ e.symm; omega)
      refine hK.out _ _ J3.box (fun hHeld => ?_)
      clear hK K
      refine norm_ (a' := ?_) ?_ ?_
      rotate_left
      · show Act.put _ (some 15) _ = _
        simp only [Act.put, List.setIfInBounds_toArray, List.set_cons_zero, List.set_cons_succ, i64_w, i32_w]
        rfl
      exact jc (_, v3, _) W3 ⟨J3, b7, rfl, c7'⟩
  case jcont =>
    rintro ⟨v14, v15, v22⟩ W ⟨J, b7, h22, c7⟩
    dsimp only at h22 J
    subst h22
    have hHeld := J.box
    obtain ⟨A15, n15, c15, e15⟩ := J.hc.form
    subst e15
    dsimp only [putAll]
    refine norm_ (a' := ?_) ?_ ?_
    rotate_left
    · simp only [Act.put, List.setIfInBounds_toArray, List.set_cons_zero, List.set_cons_succ, i64_w, i32_w]
      rfl
    refine one_ (i := 17) (N := some 23) #[true, true, true, true, true, true, true, true, true, true, true, true, true, true, true, true, true, true, false, false, false, false, false, false, false, false] rfl rfl (by kernel_rfl) (by decide) (fun K hK => ?_)
    refine app1_step (enc := Value.int .i64) R (.tmp 20) (.tmp 22) 34 3 (.int .i64 0) 8 (by rfl) (by rfl) Try.underlying34 info3 rfl (by decide) (fun _ => rfl) (v := vL) (y := x) (b := b7) (by rfl) (by rfl) J.hL c7 J.sz (by omega) ?_
    intro v8 W8 hr8 hg8 ha8 hn8
    have J8 := J.appL hg8 hr8 ha8
    obtain ⟨A23, n23, c23, e23⟩ := J8.hL.form
    subst e23
    clear J hr8 hg8 ha8 hn8 c7
    refine hK.out _ _ J8.box (fun hHeld => ?_)
    clear hK K
    refine norm_ (a' := ?_) ?_ ?_
    rotate_left
    · show Act.put _ (some 23) _ = _
      simp only [Act.put, List.setIfInBounds_toArray, List.set_cons_zero, List.set_cons_succ, i64_w, i32_w]
      rfl
    refine pure_ (i := 18) (N := some 24) (v := ?_) (a' := ?_) #[true, true, true, true, true, true, true, true, true, true, true, true, true, true, true, true, true, true, true, false, false, false, false, false, false, false] rfl rfl (by kernel_rfl) (fun _ _ _ h => h) (Or.inl ⟨by rfl, ?_⟩) ?_ ?_
    rotate_left
    · intro w'
      go_simp
      with_reducible rfl
    rotate_left
    · simp only [Act.put, List.setIfInBounds_toArray, List.set_cons_zero, List.set_cons_succ, i64_w, i32_w]
      rfl
    refine pure_ (i := 19) (N := some 25) (v := ?_) (a' := ?_) #[true, true, true, true, true, true, true, true, true, true, true, true, true, true, true, true, true, true, true, true, false, false, false, false, false, false] rfl rfl (by kernel_rfl) (fun _ _ _ h => h) (Or.inl ⟨by rfl, ?_⟩) ?_ ?_
    rotate_left
    · intro w'
      go_simp
      with_reducible rfl
    rotate_left
    · simp only [Act.put, List.setIfInBounds_toArray, List.set_cons_zero, List.set_cons_succ, i64_w, i32_w]
      rfl
    refine pure_ (i := 20) (N := some 26) (v := ?_) (a' := ?_) #[true, true, true, true, true, true, true, true, true, true, true, true, true, true, true, true, true, true, true, true, true, false, false, false, false, false] rfl rfl (by kernel_rfl) (fun _ _ _ h => h) (Or.inl ⟨by rfl, ?_⟩) ?_ ?_
    rotate_left
    · intro w'
      go_simp
      with_reducible rfl
    rotate_left
    · simp only [Act.put, List.setIfInBounds_toArray, List.set_cons_zero, List.set_cons_succ, i64_w, i32_w]
      rfl
    have hcz := blk_cell J8.box 0
    have hfz := blk_frozen J8.box 0
    refine last_ (i := 21) (N := none) #[true, true, true, true, true, true, true, true, true, true, true, true, true, true, true, true, true, true, true, true, true, true, false, false, false, false] rfl rfl (by kernel_rfl) (by decide) (fun K hK => ?_)
    refine skip_ (w1 := ?_) (by rfl) rfl ?_ ?_
    rotate_left
    · go_simp
      rfl
    refine hK.out _ _ ?_
    clear hK K
    have J10 := J8.set0 (.slice A15 n15 c15)
    clear J8 hcz hfz hHeld
    revert J10
    generalize W8.setCell _ _ = W10
    intro J10
    refine pure_ (i := 22) (N := some 27) (v := ?_) (a' := ?_) #[true, true, true, true, true, true, true, true, true, true, true, true, true, true, true, true, true, true, true, true, true, true, true, false, false, false] rfl rfl (by kernel_rfl) (fun _ _ _ h => h) (Or.inl ⟨by rfl, ?_⟩) ?_ ?_
    rotate_left
    · intro w'
      go_simp
      with_reducible rfl
    rotate_left
    · simp only [Act.put, List.setIfInBounds_toArray, List.set_cons_zero, List.set_cons_succ, i64_w, i32_w]
      rfl
    refine pure_ (i := 23) (N := some 28) (v := ?_) (a' := ?_) #[true, true, true, true, true, true, true, true, true, true, true, true, true, true, true, true, true, true, true, true, true, true, true, true, false, false] rfl rfl (by kernel_rfl) (fun _ _ _ h => h) (Or.inl ⟨by rfl, ?_⟩) ?_ ?_
    rotate_left
    · intro w'
      go_simp
      with_reducible rfl
    rotate_left
    · simp only [Act.put, List.setIfInBounds_toArray, List.set_cons_zero, List.set_cons_succ, i64_w, i32_w]
      rfl
    refine pure_ (i := 24) (N := some 29) (v := ?_) (a' := ?_) #[true, true, true, true, true, true, true, true, true, true, true, true, true, true, true, true, true, true, true, true, true, true, true, true, true, false] rfl rfl (by kernel_rfl) (fun _ _ _ h => h) (Or.inl ⟨by rfl, ?_⟩) ?_ ?_
    rotate_left
    · intro w'
      go_simp
      with_reducible rfl
    rotate_left
    · simp only [Act.put, List.setIfInBounds_toArray, List.set_cons_zero, List.set_cons_succ, i64_w, i32_w]
      rfl
    have hcz := blk_cell J10.box 1
    have hfz := blk_frozen J10.box 1
    refine last_ (i := 25) (N := none) #[true, true, true, true, true, true, true, true, true, true, true, true, true, true, true, true, true, true, true, true, true, true, true, true, true, true] rfl rfl (by kernel_rfl) (by decide) (fun K hK => ?_)
    refine skip_ (w1 := ?_) (by rfl) rfl ?_ ?_
    rotate_left
    · go_simp
      rfl
    refine hK.out _ _ ?_
    clear hK K
    have J12 := J10.set1 (.slice A23 n23 c23)
    clear J10 hcz hfz
    revert J12
    generalize W10.setCell _ _ = W12
    intro J12
    refine done_ (by kernel_rfl) ?_
    go_wp2_with fail
    go_end0
    exact ⟨rfl, _, _, J12⟩

/-! all -/
theorem sumI_append (a b : List Int) : sumI (a ++ b) = sumI a + sumI b := by
  induction a with
  | nil => simp [sumI]
  | cons x a ih => simp only [List.cons_append, sumI, ih]; omega
theorem foldF_sum (cs ls : List Int) : ∀ i : Nat, i ≤ cs.length → foldF (fun n c _ => n + c) cs ls 0 i = sumI (cs.take i)
  | 0, _ => by simp [foldF, sumI]
  | i + 1, h => by
    rw [foldF, foldF_sum cs ls i (by omega), List.take_succ_eq_append_getElem (by omega), sumI_append, rd_eq (by omega)]
    simp [sumI]
theorem sumI_take_le {cs : List Int} (h : ∀ c ∈ cs, 0 < c) (i : Nat) : 0 ≤ sumI (cs.take i) ∧ sumI (cs.take i) ≤ sumI cs := by
  have h0 : ∀ l : List Int, (∀ c ∈ l, 0 < c) → 0 ≤ sumI l := by
    intro l
    induction l with
    | nil => intro _; simp [sumI]
    | cons x l ih => intro hl; have := ih (fun c hc => hl c (List.mem_cons_of_mem _ hc)); have := hl x List.mem_cons_self; simp only [sumI]; omega
  have e : sumI cs = sumI (cs.take i) + sumI (cs.drop i) := by rw [← sumI_append, List.take_append_drop]
  have h1 := h0 (cs.take i) (fun c hc => h c (List.mem_of_mem_take hc))
  have h2 := h0 (cs.drop i) (fun c hc => h c (List.mem_of_mem_drop hc))
  omega
set_option maxRecDepth 100000 in
theorem allStep.calls (n c lit : Int) (w : World) (hn0 : -4611686018427387904 ≤ n) (hn1 : n ≤ 4611686018427387904) (hc0 : -4611686018427387904 ≤ c) (hc1 : c < 4611686018427387904) :
    Calls Try.prog 79 #[.int .i64 n, .int .i64 c, .int .i64 lit] w fun e w' => e = .returned (.int .i64 (n + c)) ∧ Below w.heap.size w w' := by
  go_enter Try.func79, Try.ntmps79
  go_wp2_with fail
  go_ret
  exact ⟨rfl, Below.refl _ _⟩
set_option maxRecDepth 100000 in
set_option maxHeartbeats 1000000 in
theorem build_all.calls (o : Nat) (A0 : Option Addr) (c0 : Nat) (cs : List Int) (A1 : Option Addr) (c1 : Nat) (ls : List Int) (least : Int) (w : World) (hbox : w.heap[o]? = some (.cells #[.slice A0 cs.length c0, .slice A1 ls.length c1, .int .i64 least] 97 (0, 0)))
    (hC0 : Kd.C (Kd.int .i64) w A0 cs.length cs) (hC1 : Kd.C (Kd.int .i64) w A1 ls.length ls) (hl : cs.length = ls.length) (hl1 : ls.length ≤ 1099511627776) (hp : ∀ c ∈ cs, 0 < c) (hs : sumI cs < 4611686018427387904) :
    Calls Try.prog 67 #[.pointer (some ⟨o, 0, none⟩)] w fun e w' => e = .returned (.int .i64 (sumI cs)) ∧ Below w.heap.size w w' := by
  have HCALL := Aside0.mk (fold_int.calls 79 #[] (fun n c _ => n + c) A0 c0 cs A1 c1 ls least 0 w w (Below.refl _ _) hC0 hC1 hl hl1 (fun args w => enters_ Try.func79 (by kernel_rfl) rfl args w) (fun i hi W hW => by
    have h1 := sumI_take_le hp i
    have h2 := sumI_take_le hp (i + 1)
    rw [foldF, foldF_sum cs ls i (by omega)]
    have h3 := hp _ (rd_mem' (l := cs) (i := i) (by omega))
    have h4 : sumI (cs.take (i + 1)) = sumI (cs.take i) + rd cs i := by
      rw [List.take_succ_eq_append_getElem (by omega), sumI_append, rd_eq (by omega)]
      simp [sumI]
    exact allStep.calls _ _ _ W (by omega) (by omega) (by omega) (by omega)))
  rw [foldF_sum cs ls ls.length (by omega), List.take_of_length_le (by omega)] at HCALL
  have z0 : w.cell? ⟨o, 0, none⟩ = some (.slice A0 cs.length c0) := (blk_cell hbox 0).trans rfl
  have z1 : w.cell? ⟨o, 1, none⟩ = some (.slice A1 ls.length c1) := (blk_cell hbox 1).trans rfl
  have z2 : w.cell? ⟨o, 2, none⟩ = some (.int .i64 least) := (blk_cell hbox 2).trans rfl
  clear hbox hC0 hC1 hl hl1 hp
  go_enter Try.func67, Try.ntmps67
  go_wp2_with (go_at_call 47; refine HCALL.out.mono ?_; rintro e w2 ⟨rfl, hb⟩; have HB := Aside0.mk hb; clear hb)
  go_ret
  exact ⟨rfl, HB.out⟩
end Go.Proofs.Ytkcmkoolcakfjaa.P

/- lin.build: each, at the function that caps. -/
namespace Go.Proofs.Ytkcmkoolcakfjaa.P
open Go.RowKit Go.Proofs.YtkcmkoolcakfjaaW.PrintWords Go.Proofs.YtkcmkoolcakfjaaW.PrintLast Go.Proofs.YtkcmkoolcakfjaaW.PrintMore Go.Proofs.Ytkcmkoolcakfjaa.Aid
attribute [local go_sem] max2_int min2_int max_two min_two
set_option linter.unusedVariables false
set_option linter.unusedSimpArgs false

def capTo (l : List Int) (m : Int) (i : Nat) : List Int := (l.take i).map (fun n => if n < m then n else m) ++ l.drop i
theorem capTo_zero (l : List Int) (m : Int) : capTo l m 0 = l := by simp [capTo]
theorem capTo_all (l : List Int) (m : Int) : capTo l m l.length = l.map (fun n => if n < m then n else m) := by simp [capTo]
theorem capTo_length (l : List Int) (m : Int) (i : Nat) : (capTo l m i).length = l.length := by simp [capTo]; omega
theorem capTo_rd (l : List Int) (m : Int) (i : Nat) (h1 : i < l.length) : rd (capTo l m i) i = rd l i := by
  unfold rd capTo
  rw [Int.toNat_natCast, List.getD_eq_getElem?_getD, List.getD_eq_getElem?_getD, List.getElem?_append_right (by simp; omega)]
  have e : i - ((l.take i).map (fun n => if n < m then n else m)).length = 0 := by simp; omega
  rw [e, List.getElem?_drop, Nat.add_zero]
theorem capTo_set (l : List Int) (m : Int) (i : Nat) (hlt : i < l.length) : (capTo l m i).set i (if rd l i < m then rd l i else m) = capTo l m (i + 1) := by
  unfold capTo
  rw [List.take_succ_eq_append_getElem hlt, List.map_append, List.append_assoc, List.set_append_right _ _ (by simp; omega)]
  have e2 : i - ((l.take i).map (fun n => if n < m then n else m)).length = 0 := by simp; omega
  rw [e2, List.drop_eq_getElem_cons hlt, List.set_cons_zero, rd_eq hlt]
  rfl
theorem row_at {W : World} {B g n c : Nat} {xs : List Int} (h : IRow W B (.slice (some ⟨g, 0, none⟩) n c) xs) (i : Nat) (hi : i < xs.length) : W.cell? ⟨g, i, none⟩ = some (.int .i64 (rd xs i)) ∧ W.frozen? ⟨g, i, none⟩ = false := by
  have hn : xs.length = n := by
    obtain ⟨A, c', e, _, _⟩ := h.reads (h1 := fun _ => rfl)
    injection e with _ e _
    exact e.symm
  have hown : W.ownsRow B 3 1 (.slice (some ⟨g, 0, none⟩) n c) n (nums .i64 xs) := by have h2 := h; unfold IRow Row at h2; rw [hn] at h2; exact h2
  exact own_at hown i (by omega) (by omega)
section
variable {o R : Nat} {w W : World} {least : Int} {vL bc bL : Value} {cs ls : List Int} {gc n c : Nat}
theorem NJ.setC (h : NJ o R w W least (.slice (some ⟨gc, 0, none⟩) n c) vL cs ls bc bL) (i : Nat) (hi : i < cs.length) (y : Int) : NJ o R w (W.setCell ⟨gc, i, none⟩ (.int .i64 y)) least (.slice (some ⟨gc, 0, none⟩) n c) vL (cs.set i y) ls bc bL := by
  have hn : cs.length = n := by
    obtain ⟨A, c', e, _, _⟩ := h.hc.reads (h1 := fun _ => rfl)
    injection e with _ e _
    exact e.symm
  have hown : W.ownsRow R 3 1 (.slice (some ⟨gc, 0, none⟩) n c) n (nums .i64 cs) := by have h2 := h.hc; unfold IRow Row at h2; rw [hn] at h2; exact h2
  have hs := own_store hown i y
  rw [Int.toNat_natCast] at hs
  have hR := (h.hc.lt gc rfl).1
  have ho := h.hc.ne_block h.box (by decide) gc rfl
  refine ⟨h.fr.trans (Fr.setCell W _ _ (.inr hR)), by rw [World.size_setCell]; exact h.sz, h.lt, ?_, ?_, h.hL.far (fun k hk e => h.ne gc rfl (by rw [hk, e])) _, h.ne⟩
  · rw [Below.heap_setCell _ _ _ o (fun e => ho e.symm)]
    exact h.box
  · unfold IRow Row
    rw [List.length_set, hn]
    exact hs.1
theorem blk_row_far {p t : Nat} {cl : Array Value} (h : W.heap[p]? = some (.cells cl t (0, 0))) (g i : Nat) (v : Value) (hne : p ≠ g) : (W.setCell ⟨g, i, none⟩ v).heap[p]? = some (.cells cl t (0, 0)) := by
  rw [Below.heap_setCell _ _ _ p (fun e => hne e)]
  exact h
end
set_option maxRecDepth 100000 in
theorem capStep.calls (n m : Int) (p : Nat) (w : World) (hp : w.heap[p]? = some (.cells #[.int .i64 m] 3 (0, 0))) :
    Calls Try.prog 69 #[.int .i64 n, .pointer (some ⟨p, 0, none⟩)] w fun e w' => e = .returned (.int .i64 (if n < m then n else m)) ∧ w' = w := by
  have z0 : w.cell? ⟨p, 0, none⟩ = some (.int .i64 m) := (blk_cell hp 0).trans rfl
  clear hp
  go_enter Try.func69, Try.ntmps69
  go_wp2_with fail
  all_goals go_ret
  all_goals first | exact ⟨rfl, rfl⟩ | (obtain rfl : n = m := (by omega); exact ⟨rfl, rfl⟩) | (exfalso; omega)
set_option maxRecDepth 100000 in
set_option maxHeartbeats 2000000 in
theorem build_each.calls (o R p : Nat) (m : Int) (gc cc : Nat) (vL : Value) (cs ls : List Int) (w : World) (J0 : NJ o R w w m (.slice (some ⟨gc, 0, none⟩) cs.length cc) vL cs ls (.slice (some ⟨gc, 0, none⟩) cs.length cc) vL) (hp : w.heap[p]? = some (.cells #[.int .i64 m] 3 (0, 0))) (hpne : p ≠ gc) (hlc : cs.length ≤ 1048576) :
    Calls Try.prog 68 #[.pointer (some ⟨o, 0, none⟩), .func (.func 69) #[] #[.pointer (some ⟨p, 0, none⟩)]] w fun e w' => e = .returned (.tuple #[]) ∧ NJ o R w w' m (.slice (some ⟨gc, 0, none⟩) cs.length cc) vL (cs.map fun n => if n < m then n else m) ls (.slice (some ⟨gc, 0, none⟩) cs.length cc) vL := by
  have HENT := Aside0.mk (fun (args : Array Value) w => enters_ Try.func69 (by kernel_rfl) rfl args w)
  have z0 : w.cell? ⟨o, 0, none⟩ = some (.slice (some ⟨gc, 0, none⟩) cs.length cc) := (blk_cell J0.box 0).trans rfl
  have HJ0 := Aside0.mk J0
  have HP0 := Aside0.mk hp
  clear J0 hp
  go_enter Try.func68, Try.ntmps68
  go_wp2_with fail
  go_loopw [12] (fun v12 wr => ∃ i : Nat, i ≤ cs.length ∧ v12 = .int .i64 i ∧ Aside0 (NJ o R w wr m (.slice (some ⟨gc, 0, none⟩) cs.length cc) vL (capTo cs m i) ls (.slice (some ⟨gc, 0, none⟩) cs.length cc) vL) ∧ Aside0 (wr.heap[p]? = some (.cells #[.int .i64 m] 3 (0, 0)))) (fun v12 _ => (cs.length - intOf v12).toNat)
  case atStart => exact ⟨0, by omega, rfl, ⟨by rw [capTo_zero]; exact HJ0.out⟩, HP0⟩
  case round =>
    obtain ⟨i, hi1, rfl, HJ, HPX⟩ := hrel
    by_cases hlt : i < cs.length
    · obtain ⟨x0, _⟩ := row_at HJ.out.hc i (by rw [capTo_length]; exact hlt)
      rw [capTo_rd cs m i hlt] at x0
      clear z0
      go_wp2_with fail
      refine start_ (n := 11) (S := fun W => W.heap[o]? = some (.cells #[.slice (some ⟨gc, 0, none⟩) cs.length cc, vL, .int .i64 m] 97 (0, 0))) (ds := [10]) #[false, false, false, false, false, false, false, false, false, false, false] (by kernel_rfl) rfl rfl HJ.out.box (fun hHeld => ?_)
      have J := HJ.out.drew
      have hP : wr.drew.heap[p]? = some (.cells #[.int .i64 m] 3 (0, 0)) := HPX.out
      clear HJ HPX
      generalize wr.drew = W0 at J hP hHeld ⊢
      refine pure_ (i := 0) (N := some 17) (v := ?_) (a' := ?_) #[true, false, false, false, false, false, false, false, false, false, false] rfl rfl (by kernel_rfl) (fun _ _ _ h => h) (Or.inl ⟨by rfl, ?_⟩) ?_ ?_
      rotate_left
      · intro w'
        go_simp
        with_reducible rfl
      rotate_left
      · simp only [Act.put, List.setIfInBounds_toArray, List.set_cons_zero, List.set_cons_succ, i64_w, i32_w]
        rfl
      refine pure_ (i := 1) (N := some 18) (v := ?_) (a' := ?_) #[true, true, false, false, false, false, false, false, false, false, false] rfl rfl (by kernel_rfl) (fun _ _ _ h => h) (Or.inl ⟨by rfl, ?_⟩) ?_ ?_
      rotate_left
      · intro w'
        go_simp
        with_reducible rfl
      rotate_left
      · simp only [Act.put, List.setIfInBounds_toArray, List.set_cons_zero, List.set_cons_succ, i64_w, i32_w]
        rfl
      refine pure_ (i := 2) (N := some 19) (v := ?_) (a' := ?_) #[true, true, true, false, false, false, false, false, false, false, false] rfl rfl (by kernel_rfl) (fun _ _ _ h => h) (Or.inl ⟨by rfl, ?_⟩) ?_ ?_
      rotate_left
      · intro w'
        go_simp
        with_reducible rfl
      rotate_left
      · simp only [Act.put, List.setIfInBounds_toArray, List.set_cons_zero, List.set_cons_succ, i64_w, i32_w]
        rfl
      refine pure_ (i := 3) (N := some 20) (v := ?_) (a' := ?_) #[true, true, true, true, false, false, false, false, false, false, false] rfl rfl (by kernel_rfl) (fun _ _ _ h => h) (Or.inl ⟨by rfl, ?_⟩) ?_ ?_
      rotate_left
      · intro w'
        go_simp
        with_reducible rfl
      rotate_left
      · simp only [Act.put, List.setIfInBounds_toArray, List.set_cons_zero, List.set_cons_succ, i64_w, i32_w]
        rfl
      refine pure_ (i := 5) (N := some 22) (v := ?_) (a' := ?_) #[true, true, true, true, false, true, false, false, false, false, false] rfl rfl (by kernel_rfl) (fun _ _ _ h => h) (Or.inl ⟨by rfl, ?_⟩) ?_ ?_
      rotate_left
      · intro w'
        go_simp
        with_reducible rfl
      rotate_left
      · simp only [Act.put, List.setIfInBounds_toArray, List.set_cons_zero, List.set_cons_succ, i64_w, i32_w]
        rfl
      refine pure_ (i := 6) (N := some 23) (v := ?_) (a' := ?_) #[true, true, true, true, false, true, true, false, false, false, false] rfl rfl (by kernel_rfl) (fun _ _ _ h => h) (Or.inl ⟨by rfl, ?_⟩) ?_ ?_
      rotate_left
      · intro w'
        go_simp
        with_reducible rfl
      rotate_left
      · simp only [Act.put, List.setIfInBounds_toArray, List.set_cons_zero, List.set_cons_succ, i64_w, i32_w]
        rfl
      refine pure_ (i := 7) (N := some 24) (v := ?_) (a' := ?_) #[true, true, true, true, false, true, true, true, false, false, false] rfl rfl (by kernel_rfl) (fun _ _ _ h => h) (Or.inl ⟨by rfl, ?_⟩) ?_ ?_
      rotate_left
      · intro w'
        go_simp
        with_reducible rfl
      rotate_left
      · simp only [Act.put, List.setIfInBounds_toArray, List.set_cons_zero, List.set_cons_succ, i64_w, i32_w]
        rfl
      refine take_ (i := 4) (N := some 21) (v := ?_) (a' := ?_) #[true, true, true, true, true, true, true, true, false, false, false] rfl rfl (by kernel_rfl) (fun _ _ _ h => h) (Or.inl ⟨by rfl, ?_⟩) hHeld ?_ ?_
      rotate_left
      · rintro w' hw
        have hc0 := blk_cell hw 0
        go_simp
        with_reducible rfl
      rotate_left
      · simp only [Act.put, List.setIfInBounds_toArray, List.set_cons_zero, List.set_cons_succ, i64_w, i32_w]
        rfl
      refine one_ (i := 8) (N := some 25) #[true, true, true, true, true, true, true, true, true, false, false] rfl rfl (by kernel_rfl) (by decide) (fun K hK => ?_)
      have hent' := HENT.out
      refine call_ 69 #[.int .i64 (rd cs i), .pointer (some ⟨p, 0, none⟩)] (by rfl) rfl ?hr_ ?_
      case hr_ =>
        go_simp
        try rfl
      refine (capStep.calls (rd cs i) m p W0 hP).mono ?_
      rintro e w4 ⟨rfl, rfl⟩
      refine ⟨_, rfl, ?_⟩
      refine hK.out _ _ hHeld (fun hHeld => ?_)
      clear hK K hent'
      refine norm_ (a' := ?_) ?_ ?_
      rotate_left
      · show Act.put _ (some 25) _ = _
        simp only [Act.put, List.setIfInBounds_toArray, List.set_cons_zero, List.set_cons_succ, i64_w, i32_w]
        rfl
      refine pure_ (i := 9) (N := some 26) (v := ?_) (a' := ?_) #[true, true, true, true, true, true, true, true, true, true, false] rfl rfl (by kernel_rfl) (fun _ _ _ h => h) (Or.inl ⟨by rfl, ?_⟩) ?_ ?_
      rotate_left
      · intro w'
        go_simp
        with_reducible rfl
      rotate_left
      · simp only [Act.put, List.setIfInBounds_toArray, List.set_cons_zero, List.set_cons_succ, i64_w, i32_w]
        rfl
      obtain ⟨hx, hf⟩ := row_at J.hc i (by rw [capTo_length]; exact hlt)
      refine last_ (i := 10) (N := none) #[true, true, true, true, true, true, true, true, true, true, true] rfl rfl (by kernel_rfl) (by decide) (fun K hK => ?_)
      refine skip_ (w1 := ?_) (by rfl) rfl ?_ ?_
      rotate_left
      · go_simp
        rfl
      refine hK.out _ _ ?_
      clear hK K
      have J2 := J.setC i (by rw [capTo_length]; exact hlt) (if rd cs i < m then rd cs i else m)
      rw [capTo_set cs m i hlt] at J2
      have HJ2 := Aside0.mk J2
      have HPX2 := Aside0.mk (blk_row_far hP gc i (.int .i64 (if rd cs i < m then rd cs i else m)) hpne)
      clear J J2 hP hx hf hHeld
      refine done_ (by kernel_rfl) ?_
      go_wp2_with fail
      go_roundw
      case rel => exact ⟨i + 1, by omega, by go_num, HJ2, HPX2⟩
      case measure => simp [intOf]; omega
    · have hi : i = cs.length := by omega
      subst hi
      have J1 := HJ.out
      rw [capTo_all] at J1
      have y2 : wr.cell? ⟨o, 2, none⟩ = some (.int .i64 m) := (blk_cell J1.box 2).trans rfl
      have y2f := blk_frozen J1.box 2
      have hcap := capStep.calls m m p wr HPX.out
      rw [ite_self] at hcap
      have HCAP := Aside0.mk hcap
      have HJ1 := Aside0.mk J1
      have hent' := HENT.out
      clear J1 hcap z0 HJ HPX
      go_wp2_with fail
      refine HCAP.out.mono ?_
      rintro e w2 ⟨rfl, rfl⟩
      go_wp2_with fail
      go_end0
      exact ⟨rfl, HJ1.out.set2 m⟩
end Go.Proofs.Ytkcmkoolcakfjaa.P

/- lin.Norm: how large its numbers grow; cmp.Compare. -/
namespace Go.Proofs.Ytkcmkoolcakfjaa.P
open Go.RowKit Go.Proofs.YtkcmkoolcakfjaaW.PrintWords Go.Proofs.YtkcmkoolcakfjaaW.PrintLast Go.Proofs.YtkcmkoolcakfjaaW.PrintMore Go.Proofs.Ytkcmkoolcakfjaa.Aid
set_option linter.unusedVariables false
set_option linter.unusedSimpArgs false

def az (x : Int × Int) : Int := max x.1 (-x.1) + max x.2 (-x.2)
def absM : MZ → Int
  | [] => 0
  | p :: m => az p.2 + absM m
theorem absM_set (v : Int × Int) : ∀ (m : MZ) (k : Int), absM (setZ m k v) = absM m + az v - az (getZ m k)
  | [], k => by simp [setZ, absM, getZ, az]
  | p :: m, k => by
    by_cases h : p.1 = k
    · rw [setZ, getZ, if_pos h, if_pos h]; simp only [absM]; omega
    · have ih := absM_set v m k
      rw [setZ, getZ, if_neg h, if_neg h]; simp only [absM]; omega
theorem absM_step (m : MZ) (c lit : Int) (hc : -1099511627776 ≤ c ∧ c ≤ 1099511627776) : absM (sumStep m c lit) ≤ absM m + 1099511627776 := by
  rw [sumStep, absM_set]
  unfold putZ az
  split <;> simp only <;> omega
theorem absM_fold {cs ls : List Int} (hl : cs.length = ls.length) (hc : ∀ c ∈ cs, -1099511627776 ≤ c ∧ c ≤ 1099511627776) : ∀ i : Nat, i ≤ ls.length → absM (foldA sumStep cs ls [] i) ≤ 1099511627776 * (i : Int)
  | 0, _ => by simp [foldA, absM]
  | i + 1, h => by
    have ih := absM_fold hl hc i (by omega)
    have h1 := absM_step (foldA sumStep cs ls [] i) (rd cs i) (rd ls i) (hc _ (rd_mem' (l := cs) (i := i) (by omega)))
    rw [foldA]
    omega
def keyA (m : MZ) : List Int → Int
  | [] => 0
  | k :: ks => az (getZ m k) + keyA m ks
theorem az_nonneg (x : Int × Int) : 0 ≤ az x := by unfold az; omega
theorem keyA_nonneg (m : MZ) : ∀ ks, 0 ≤ keyA m ks
  | [] => by simp [keyA]
  | k :: ks => by have := keyA_nonneg m ks; have := az_nonneg (getZ m k); simp only [keyA]; omega
theorem keyA_perm (m : MZ) {ks ks' : List Int} (h : ks.Perm ks') : keyA m ks = keyA m ks' := by
  induction h with
  | nil => rfl
  | cons x _ ih => simp only [keyA, ih]
  | swap x y l => simp only [keyA]; omega
  | trans _ _ ih1 ih2 => rw [ih1, ih2]
theorem keyA_skip (p : Int × Int × Int) (m : MZ) : ∀ ks : List Int, p.1 ∉ ks → keyA (p :: m) ks = keyA m ks
  | [], _ => rfl
  | k :: ks, h => by
    simp only [List.mem_cons, not_or] at h
    simp only [keyA, getZ, if_neg h.1, keyA_skip p m ks h.2]
theorem keyA_keys : ∀ m : MZ, (keysZ m).Nodup → keyA m (keysZ m) = absM m
  | [], _ => rfl
  | p :: m, h => by
    simp only [keysZ, List.map_cons, List.nodup_cons] at h
    have ih := keyA_keys m h.2
    simp only [keysZ] at ih
    simp only [keysZ, List.map_cons, keyA, getZ, if_true, absM]
    rw [keyA_skip p m _ h.1, ih]
theorem keyA_take (m : MZ) (ks : List Int) (i : Nat) : keyA m (ks.take i) ≤ keyA m ks := by
  induction ks generalizing i with
  | nil => simp [keyA]
  | cons k ks ih =>
    cases i with
    | zero => simp only [List.take_zero, keyA]; have := keyA_nonneg m ks; have := az_nonneg (getZ m k); omega
    | succ i => simp only [List.take_succ_cons, keyA]; have := ih i; omega
theorem norm_small (m : MZ) (least : Int) : ∀ (ks : List Int) (o : S40), sumI (ks.foldl (normStep m) o).f0 ≤ sumI o.f0 + 2 * keyA m ks ∧ (ks.foldl (normStep m) o).f2 ≤ o.f2 + keyA m ks ∧ o.f2 - keyA m ks ≤ (ks.foldl (normStep m) o).f2 ∧ (ks.foldl (normStep m) o).f0.length ≤ o.f0.length + ks.length
  | [], o => by simp [keyA]
  | k :: ks, o => by
    obtain ⟨h1, h2, h3, h4⟩ := norm_small m least ks (normStep m o k)
    rw [List.foldl_cons]
    have h5 : sumI (normStep m o k).f0 ≤ sumI o.f0 + 2 * az (getZ m k) ∧ (normStep m o k).f2 ≤ o.f2 + az (getZ m k) ∧ o.f2 - az (getZ m k) ≤ (normStep m o k).f2 ∧ (normStep m o k).f0.length ≤ o.f0.length + 1 := by
      unfold normStep az
      split
      · simp only [sumI_append, sumI, List.length_append, List.length_singleton]; omega
      · split
        · simp only [sumI_append, sumI, List.length_append, List.length_singleton]; omega
        · simp only; omega
    simp only [keyA, List.length_cons]
    omega
/-- What is under construction behind i keys. -/
def partF (cs ls : List Int) (least : Int) (i : Nat) : S40 := ((sortI (keysZ (sumsZ cs ls))).take i).foldl (normStep (sumsZ cs ls)) ⟨[], [], least⟩
theorem part_all (cs ls : List Int) (least : Int) : partF cs ls least (sortI (keysZ (sumsZ cs ls))).length = rawF cs ls least := by unfold partF rawF; rw [List.take_length]
theorem part_step (cs ls : List Int) (least : Int) (i : Nat) (h : i < (sortI (keysZ (sumsZ cs ls))).length) : partF cs ls least (i + 1) = normStep (sumsZ cs ls) (partF cs ls least i) (rd (sortI (keysZ (sumsZ cs ls))) i) := by
  unfold partF
  rw [List.take_succ_eq_append_getElem h, List.foldl_append, rd_eq h]
  rfl
theorem part_len (cs ls : List Int) (least : Int) : ∀ i : Nat, (partF cs ls least i).f0.length = (partF cs ls least i).f1.length := by
  intro i
  unfold partF
  generalize (sortI (keysZ (sumsZ cs ls))).take i = ks
  have h : ∀ (ks : List Int) (o : S40), o.f0.length = o.f1.length → (ks.foldl (normStep (sumsZ cs ls)) o).f0.length = (ks.foldl (normStep (sumsZ cs ls)) o).f1.length := by
    intro ks
    induction ks with
    | nil => intro o h; exact h
    | cons k ks ih => intro o h; exact ih _ (norm_step_len _ o k h)
  exact h ks _ rfl
theorem part_small {cs ls : List Int} {least : Int} (h : linF cs ls least 65536 = 0) (i : Nat) : sumI (partF cs ls least i).f0 ≤ 18014398509481984 ∧ -18014398509481984 ≤ (partF cs ls least i).f2 ∧ (partF cs ls least i).f2 ≤ 18014398509481984 ∧ (partF cs ls least i).f0.length ≤ i := by
  obtain ⟨_, _, h3, h4, h5, h6, h7⟩ := linF_zero h
  have hk := keys_sums h3
  have h8 := norm_small (sumsZ cs ls) least ((sortI (keysZ (sumsZ cs ls))).take i) ⟨[], [], least⟩
  have h9 := keyA_take (sumsZ cs ls) (sortI (keysZ (sumsZ cs ls))) i
  rw [keyA_perm _ (sortI_perm _), keyA_keys _ hk.1] at h9
  have h10 := absM_fold h3 h5 ls.length (Nat.le_refl _)
  have h11 : least ≤ 1099511627776 ∧ -1099511627776 ≤ least := by
    simp only [oddF, Bool.not_eq_false', Bool.and_eq_true, decide_eq_true_eq] at h4
    omega
  have h12 : ((sortI (keysZ (sumsZ cs ls))).take i).length ≤ i := by rw [List.length_take]; omega
  unfold partF
  simp only [sumI, List.length_nil] at h8
  change absM (sumsZ cs ls) ≤ _ at h10
  omega
/-! Compare -/
def cmpF (x y : Int) : Int := if x < y then -1 else if y < x then 1 else 0
set_option maxRecDepth 100000 in
theorem isNaN.calls (x : Int) (w : World) : Calls Try.prog 78 #[.int .i64 x] w fun e w' => e = .returned (.bool false) ∧ w = w' := by
  have h : (x != x) = false := by simp
  go_enter Try.func78, Try.ntmps78
  go_wp2_with fail
  go_ret
  exact ⟨rfl, rfl⟩
set_option maxRecDepth 100000 in
theorem compare.calls (x y : Int) (w : World) : Calls Try.prog 65 #[.int .i64 x, .int .i64 y] w fun e w' => e = .returned (.int .i64 (cmpF x y)) ∧ w = w' := by
  have HX := Aside0.mk (fun W => isNaN.calls x W)
  have HY := Aside0.mk (fun W => isNaN.calls y W)
  rcases Int.lt_trichotomy x y with h | h | h
  · have HC : Aside0 (cmpF x y = -1) := ⟨by unfold cmpF; rw [if_pos h]⟩
    have hd : decide (x < y) = true := decide_eq_true h
    go_enter Try.func65, Try.ntmps65
    go_wp2_with (first | (go_at_call 78; refine (HX.out _).mono ?_; rintro e w2 ⟨rfl, rfl⟩) | (go_at_call 78; refine (HY.out _).mono ?_; rintro e w2 ⟨rfl, rfl⟩))
    go_ret
    exact ⟨by rw [HC.out]; rfl, rfl⟩
  · subst h
    have HC : Aside0 (cmpF x x = 0) := ⟨by unfold cmpF; simp⟩
    go_enter Try.func65, Try.ntmps65
    go_wp2_with (first | (go_at_call 78; refine (HX.out _).mono ?_; rintro e w2 ⟨rfl, rfl⟩) | (go_at_call 78; refine (HY.out _).mono ?_; rintro e w2 ⟨rfl, rfl⟩))
    go_ret
    exact ⟨by rw [HC.out]; rfl, rfl⟩
  · have HC : Aside0 (cmpF x y = 1) := ⟨by unfold cmpF; rw [if_neg (by omega), if_pos h]⟩
    have hd : decide (x < y) = false := decide_eq_false (by omega)
    have hd2 : decide (y < x) = true := decide_eq_true h
    go_enter Try.func65, Try.ntmps65
    go_wp2_with (first | (go_at_call 78; refine (HX.out _).mono ?_; rintro e w2 ⟨rfl, rfl⟩) | (go_at_call 78; refine (HY.out _).mono ?_; rintro e w2 ⟨rfl, rfl⟩))
    go_ret
    exact ⟨by rw [HC.out]; rfl, rfl⟩
end Go.Proofs.Ytkcmkoolcakfjaa.P

/- lin.Norm: walked. -/
namespace Go.Proofs.Ytkcmkoolcakfjaa.P
open Go.RowKit Go.Proofs.YtkcmkoolcakfjaaW.PrintWords Go.Proofs.YtkcmkoolcakfjaaW.PrintLast Go.Proofs.YtkcmkoolcakfjaaW.PrintMore Go.Proofs.Ytkcmkoolcakfjaa.Aid
attribute [local go_sem] max2_int min2_int max_two min_two
set_option linter.unusedVariables false
set_option linter.unusedSimpArgs false

theorem results_cell3 {tmps : Array Value} {fn : Func} {t : Tmp} {W : World} {g : Nat} {x0 x1 x2 : Value} (h : fn.results = #[.cell t 40]) (ht : tmps.getD t undef = .pointer (some ⟨g, 0, none⟩)) (hb : W.heap[g]? = some (.cells #[x0, x1, x2] 40 (0, 0))) : (results fn tmps).run Try.prog W = .ok (.agg #[x0, x1, x2]) W := by
  have c0 : W.cell? ⟨g, 0, none⟩ = some x0 := (blk_cell hb 0).trans rfl
  have c1 : W.cell? ⟨g, 1, none⟩ = some x1 := (blk_cell hb 1).trans rfl
  have c2 : W.cell? ⟨g, 2, none⟩ = some x2 := (blk_cell hb 2).trans rfl
  exact results_cell_row h _ _ g 40 _ (0, 0) _ ht hb Try.underlying40 rfl (by kernel_rfl)
theorem blk_store3 {W : World} {g : Nat} {a b c x0 x1 x2 : Value} (h : W.heap[g]? = some (.cells #[a, b, c] 40 (0, 0))) : (((W.setCell ⟨g, 0, none⟩ x0).setCell ⟨g, 1, none⟩ x1).setCell ⟨g, 2, none⟩ x2).heap[g]? = some (.cells #[x0, x1, x2] 40 (0, 0)) :=
  blk_put (cs := #[x0, x1, c]) (blk_put (cs := #[x0, b, c]) (blk_put (cs := #[a, b, c]) h 0 _ rfl) 1 _ rfl) 2 _ rfl
theorem below_store3 {B : Nat} {w W : World} {g : Nat} {x0 x1 x2 : Value} (h : Below B w W) (hg : B ≤ g) : Below B w (((W.setCell ⟨g, 0, none⟩ x0).setCell ⟨g, 1, none⟩ x1).setCell ⟨g, 2, none⟩ x2) := ((h.setCell hg _).setCell hg _).setCell hg _
theorem row_store3 {W : World} {B g : Nat} {v : Value} {xs : List Int} {x0 x1 x2 : Value} (h : IRow W B v xs) (hg : ∀ k, v.ownBlock = some k → k ≠ g) : IRow (((W.setCell ⟨g, 0, none⟩ x0).setCell ⟨g, 1, none⟩ x1).setCell ⟨g, 2, none⟩ x2) B v xs :=
  ((h.far (p := ⟨g, 0, none⟩) hg _).far (p := ⟨g, 1, none⟩) hg _).far (p := ⟨g, 2, none⟩) hg _
theorem idx0 (W : World) (x y : Value) : (Instr.index 93 (.agg #[x, y]) (.int .i64 0)).run Try.prog W = .ok x W := by
  have h : Try.prog.underlying 93 = some (.array 2 3) := Try.underlying93
  have h2 := Go.run_part_plain (P := Try.prog) (w := W) (e := 3) (by kernel_rfl) (xs := #[x, y]) (off := 0) (v := x) rfl
  simp [Instr.index, run_underlying h, asIntOf, asInt, Result.andThen, h2]
theorem idx1 (W : World) (x y : Value) : (Instr.index 93 (.agg #[x, y]) (.int .i64 1)).run Try.prog W = .ok y W := by
  have h : Try.prog.underlying 93 = some (.array 2 3) := Try.underlying93
  have h2 := Go.run_part_plain (P := Try.prog) (w := W) (e := 3) (by kernel_rfl) (xs := #[x, y]) (off := 1) (v := y) rfl
  simp [Instr.index, run_underlying h, asIntOf, asInt, Result.andThen, h2]
/-- What lin.Norm hands back. -/
def NormR (w : World) (e : Ending) (w' : World) (x : S40) : Prop := ∃ A cA B cB, e = .returned (.agg #[.slice A x.f0.length cA, .slice B x.f1.length cB, .int .i64 x.f2]) ∧ Kd.C (Kd.int .i64) w' A x.f0.length x.f0 ∧ Kd.C (Kd.int .i64) w' B x.f1.length x.f1 ∧ x.f0.length ≤ cA ∧ x.f1.length ≤ cB ∧ Below w.heap.size w w'
set_option maxRecDepth 100000 in
set_option maxHeartbeats 4000000 in
theorem Norm.calls (A0 : Option Addr) (c0 : Nat) (cs : List Int) (A1 : Option Addr) (c1 : Nat) (ls : List Int) (least : Int) (w : World) (hC0 : Kd.C (Kd.int .i64) w A0 cs.length cs) (hc0 : cs.length ≤ c0) (hC1 : Kd.C (Kd.int .i64) w A1 ls.length ls) (hc1 : ls.length ≤ c1) (hlin : linF cs ls least 65536 = 0) :
    Calls Try.prog 46 #[.agg #[.slice A0 cs.length c0, .slice A1 ls.length c1, .int .i64 least]] w fun e w' => NormR w e w' (normF cs ls least) := by
  obtain ⟨_, _, h3, h4, h5, h6, h7⟩ := linF_zero hlin
  have hb0 := below_alloc (below_alloc (Below.refl w.heap.size w) (.cells #[.slice A0 cs.length c0, .slice A1 ls.length c1, .int .i64 least] 40)) (.cells #[.slice none 0 0, .slice none 0 0, .int .i64 0] 40)
  have hx0 := blk_alloc (blk_new w (.cells #[.slice A0 cs.length c0, .slice A1 ls.length c1, .int .i64 least] 40)) (.cells #[.slice none 0 0, .slice none 0 0, .int .i64 0] 40)
  have ht0 : ((w.alloc (.cells #[.slice A0 cs.length c0, .slice A1 ls.length c1, .int .i64 least] 40)).alloc (.cells #[.slice none 0 0, .slice none 0 0, .int .i64 0] 40)).heap[w.heap.size + 1]? = some (.cells #[.slice none 0 0, .slice none 0 0, .int .i64 0] 40 (0, 0)) := by
    have h := blk_new (w.alloc (.cells #[.slice A0 cs.length c0, .slice A1 ls.length c1, .int .i64 least] 40)) (.cells #[.slice none 0 0, .slice none 0 0, .int .i64 0] 40)
    rwa [World.size_alloc] at h
  have HRIGHT := Aside0.mk (right.calls A0 c0 cs A1 c1 ls least w _ hb0 hC0 hc0 hC1 hc1 (by omega) (by omega))
  rw [hlin] at HRIGHT
  have HFOLD : Aside0 (∀ W, Below w.heap.size w W → Calls Try.prog 61 #[.agg #[.slice A0 cs.length c0, .slice A1 ls.length c1, .int .i64 least], .map (some W.heap.size), .func (.func 62) #[] #[]] (W.alloc (.map #[] 0)) fun e w' => e = .returned (.map (some W.heap.size)) ∧ MapAt w' W.heap.size (mz (sumsZ cs ls)) ∧ (W.alloc (.map #[] 0)).grownBy w' (some W.heap.size)) := ⟨fun W hW =>
    fold_map.calls W.heap.size A0 c0 cs A1 c1 ls least w _ (below_alloc hW _) hC0 hC1 h3 h7 (MapAt.new W) hW.size h5 (fun y hy => by have := h6 y hy; omega)⟩
  have HKEYS := Aside0.mk (fun mb W => keys.calls mb W)
  have hmm := @run_makeMap Try.prog
  obtain ⟨hkn, hkf⟩ := keys_sums h3
  have hkl := keys_len (cs := cs) (ls := ls) ls.length
  have HBOUND : Aside0 (∀ k, -4503599627370496 ≤ (getZ (sumsZ cs ls) k).1 ∧ (getZ (sumsZ cs ls) k).1 ≤ 4503599627370496 ∧ -4503599627370496 ≤ (getZ (sumsZ cs ls) k).2 ∧ (getZ (sumsZ cs ls) k).2 ≤ 4503599627370496) := ⟨fun k => by
    have h := sums_bound h3 h5 ls.length (Nat.le_refl _) k
    unfold sumsZ
    omega⟩
  have HSMALL := Aside0.mk (part_small hlin)
  have HPART := Aside0.mk (part_step cs ls least)
  have HPLEN := Aside0.mk (part_len cs ls least)
  have HPALL := Aside0.mk (part_all cs ls least)
  have HGOOD := Aside0.mk (raw_good (least := least) h3 (fun y hy => (h6 y hy).1))
  change (sumsZ cs ls).length ≤ _ at hkl
  have hkk : ∀ q ∈ mz (sumsZ cs ls), -65536 ≤ q.1 ∧ q.1 ≤ 65536 := fun q hq => by
    obtain ⟨r, hr, rfl⟩ := List.mem_map.1 hq
    obtain ⟨y, hy, e⟩ := hkf r.1 (List.mem_map_of_mem (f := fun p : Int × Int × Int => p.1) hr)
    have := h6 y hy
    unfold absF at e
    simp only
    split at e <;> omega
  have HSORT : Aside0 (∀ (b g : Nat) (W : World), MapAt W b (mz (sumsZ cs ls)) → W.cell? ⟨g, 0, none⟩ = some (.map (some b)) → g < W.heap.size → Calls Try.prog 63 #[.func (.func 77) #[] #[.pointer (some ⟨g, 0, none⟩)]] W fun e w' => ∃ v, e = .returned v ∧ IRow w' W.heap.size v (sortI (keysZ (sumsZ cs ls))) ∧ Below W.heap.size W w') := ⟨fun b g W h hg hgl => by
    have h := sorted.calls b g (mz (sumsZ cs ls)) W h hkk (by unfold mz; rw [List.length_map]; omega) hg hgl
    have e : (mz (sumsZ cs ls)).map (·.1) = keysZ (sumsZ cs ls) := by unfold mz keysZ; rw [List.map_map]; rfl
    rw [e] at h
    exact h⟩
  have hksl : (sortI (keysZ (sumsZ cs ls))).length ≤ 4096 := by unfold sortI keysZ; rw [List.length_mergeSort, List.length_map]; omega
  have HKEYB : Aside0 (∀ i : Nat, i < (sortI (keysZ (sumsZ cs ls))).length → -65536 ≤ rd (sortI (keysZ (sumsZ cs ls))) i ∧ rd (sortI (keysZ (sumsZ cs ls))) i ≤ 65536) := ⟨fun i hi => by
    obtain ⟨y, hy, e⟩ := hkf _ ((sortI_perm _).mem_iff.1 (rd_mem' hi))
    have := h6 y hy
    unfold absF at e
    split at e <;> omega⟩
  have HB0 := Aside0.mk hb0
  have HX0 := Aside0.mk hx0
  have HT0 := Aside0.mk ht0
  have HNF : Aside0 (normF cs ls least = capF (rawF cs ls least)) := ⟨rfl⟩
  have hleast : -1099511627776 ≤ least ∧ least ≤ 1099511627776 := by
    simp only [oddF, Bool.not_eq_false', Bool.and_eq_true, decide_eq_true_eq] at h4
    omega
  clear hb0 hx0 ht0 hkk hkn hkf hkl h3 h4 h5 h6 h7 hC0 hC1 hlin
  generalize sumsZ cs ls = S at *
  generalize sortI (keysZ S) = ks at *
  go_enter Try.func46, Try.ntmps46
  go_wp2_with (first
    | (go_at_call 44; refine HRIGHT.out.mono ?_; rintro e w1 ⟨rfl, hb⟩; have HB1 := Aside0.mk (below_step HB0.out hb); have HX1 := Aside0.mk (blk_below HX0.out hb); have HT1 := Aside0.mk (blk_below HT0.out hb); clear hb; have z0 : w1.cell? ⟨w.heap.size, 0, none⟩ = some (.slice A0 cs.length c0) := (blk_cell HX1.out 0).trans rfl; have z1 : w1.cell? ⟨w.heap.size, 1, none⟩ = some (.slice A1 ls.length c1) := (blk_cell HX1.out 1).trans rfl; have z2 : w1.cell? ⟨w.heap.size, 2, none⟩ = some (.int .i64 least) := (blk_cell HX1.out 2).trans rfl)
    | (go_at_call 61; refine (HFOLD.out _ HB1.out).mono ?_; rintro e w3 ⟨rfl, hM, hg⟩; have HM3 := Aside0.mk hM; have hlt1 := blk_lt HT1.out; have HX3 := Aside0.mk (blk_grown (blk_alloc HX1.out _) hg (fun e => by injection e with e; omega)); have HT3 := Aside0.mk (blk_grown (blk_alloc HT1.out _) hg (fun e => by injection e with e; omega)); have HB3 : Aside0 (Below w.heap.size w w3) := ⟨(below_alloc HB1.out _).grown hg (below_alloc HB1.out _).size (fun k hk => by injection hk with hk; omega)⟩; clear hM hg z0 z1 z2; have z2 : w3.cell? ⟨w.heap.size, 2, none⟩ = some (.int .i64 least) := (blk_cell HX3.out 2).trans rfl)
    | (go_at_call 64; refine (HKEYS.out _ _).mono ?_; rintro e w5 ⟨rfl, rfl⟩; have HM5 := Aside0.mk ((HM3.out.below (below_alloc (Below.refl _ _) (.cells #[.slice none 0 0, .slice none 0 0, .int .i64 least] 97))).below (below_alloc (Below.refl _ _) (.cells #[.map (some w1.heap.size)] 91))))
    | (go_at_call 63; refine (HSORT.out w1.heap.size (w3.heap.size + 1) _ HM5.out (by have h := blk_cell (blk_new (w3.alloc (.cells #[.slice none 0 0, .slice none 0 0, .int .i64 least] 97)) (.cells #[.map (some w1.heap.size)] 91)) 0; rw [World.size_alloc] at h; exact h) (by rw [World.size_alloc, World.size_alloc]; omega)).mono ?_; rintro e wS ⟨vk, rfl, hrow, hbS⟩; obtain ⟨Ak, nk, ck, rfl⟩ := hrow.form; have HROW := Aside0.mk hrow; have HBS := Aside0.mk hbS; clear hrow hbS))
  have hnk : nk = ks.length := by
    obtain ⟨A', c', e, _, _⟩ := HROW.out.reads (h1 := fun _ => rfl)
    injection e
  subst hnk
  obtain ⟨o, ho⟩ : ∃ o, w3.heap.size = o := ⟨_, rfl⟩
  obtain ⟨b, hb⟩ : ∃ b, w1.heap.size = b := ⟨_, rfl⟩
  obtain ⟨R, hR⟩ : ∃ R, wS.heap.size = R := ⟨_, rfl⟩
  obtain ⟨G, hG⟩ : ∃ G, partF cs ls least = G := ⟨_, rfl⟩
  have hG0 : G 0 = ⟨[], [], least⟩ := by rw [← hG]; rfl
  have hbox : wS.heap[o]? = some (.cells #[.slice none 0 0, .slice none 0 0, .int .i64 least] 97 (0, 0)) := by
    rw [← ho]
    exact blk_below (blk_alloc (blk_new w3 _) _) HBS.out
  have HJ0 : Aside0 (NJ o R wS wS (G 0).f2 (.slice none 0 0) (.slice none 0 0) (G 0).f0 (G 0).f1 (.slice none 0 0) (.slice none 0 0)) := ⟨by
    rw [hG0, ← hR]
    exact ⟨Fr.refl _ _ _, Nat.le_refl _, blk_lt hbox, hbox, Row.nil _ _ _ _, Row.nil _ _ _ _, fun k hk => by simp [Value.ownBlock] at hk⟩⟩
  have HTS := Aside0.mk (blk_below (blk_alloc (blk_alloc HT3.out _) _) HBS.out)
  have hltT := blk_lt HT3.out
  have hoR : o < R := by rw [← hR]; exact blk_lt hbox
  have HMS : Aside0 (MapAt wS b (mz S)) := ⟨by rw [← hb]; exact HM5.out.below HBS.out⟩
  have hbo : b < o := by rw [← hb, ← ho]; exact HM3.out.lt
  have HBW : Aside0 (Below w.heap.size w wS) := ⟨below_step (below_alloc (below_alloc HB3.out _) _) HBS.out⟩
  have HROWK : Aside0 (IRow wS (o + 2) (.slice Ak ks.length ck) ks) := ⟨by
    have h := HROW.out
    rw [World.size_alloc, World.size_alloc, ho] at h
    exact h⟩
  rw [hG] at HSMALL HPART HPLEN HPALL
  rw [ho] at hltT ⊢
  rw [hb]
  clear HROW HBS hbox hG HM5 HM3 HX3 HT3 HB3 HX1 HT1 HB1 z2 hlt1 HRIGHT HFOLD HKEYS HSORT HX0 HT0 HB0 hmm
  go_loopw [26] (fun v26 wr => ∃ i : Nat, i ≤ ks.length ∧ v26 = .int .i64 i ∧ ∃ vc vL, Aside0 (NJ o R wS wr (G i).f2 vc vL (G i).f0 (G i).f1 vc vL)) (fun v26 _ => (ks.length - intOf v26).toNat)
  case atStart => exact ⟨0, by omega, rfl, _, _, HJ0⟩
  case round =>
    clear HJ0
    obtain ⟨i, hi1, rfl, vc, vL, HJ⟩ := hrel
    by_cases hlt : i < ks.length
    · obtain ⟨gk, ck', ek, hgk, _⟩ := World.ownsRow.form HROWK.out (by omega)
      injection ek with ek _ ek2
      subst ek ek2
      have hrow : IRow wr (o + 2) (.slice (some ⟨gk, 0, none⟩) ks.length ck) ks := HROWK.out.move (fun k hk => HJ.out.fr.block k (by rw [← hR]; exact (HROWK.out.lt k hk).2) (by have := (HROWK.out.lt k hk).1; omega))
      obtain ⟨x0, _⟩ := row_at hrow i hlt
      have hkb := HKEYB.out i hlt
      have hsm := HSMALL.out i
      have hbd := HBOUND.out (rd ks i)
      have hpl := HPLEN.out i
      have HPI := Aside0.mk (HPART.out i hlt)
      have HMW : Aside0 (MapAt wr b (mz S)) := ⟨HMS.out.move (HJ.out.fr.block b (by omega) (by omega))⟩
      obtain ⟨key, hkey⟩ : ∃ k, rd ks i = k := ⟨_, rfl⟩
      rw [hkey] at x0 hkb hbd HPI
      obtain ⟨⟨a, a'⟩, hab⟩ : ∃ z, getZ S key = z := ⟨_, rfl⟩
      rw [hab] at hbd
      obtain ⟨⟨f0, f1, f2⟩, hgi⟩ : ∃ z, G i = z := ⟨_, rfl⟩
      rw [hgi] at HJ hsm hpl HPI
      simp only at HJ hsm hpl hbd
      clear hrow hkey hgi
      go_wp2_with fail
      refine start_ (n := 10) (S := fun V => MapAt V b (mz S)) (ds := []) #[false, false, false, false, false, false, false, false, false, false] (by kernel_rfl) rfl rfl (HMW.out.move rfl) (fun hHeld => ?_)
      have HJD := Aside0.mk HJ.out.drew
      clear HJ HMW
      generalize wr.drew = W0 at HJD hHeld ⊢
      refine pure_ (i := 0) (N := some 30) (v := ?_) (a' := ?_) #[true, false, false, false, false, false, false, false, false, false] rfl rfl (by kernel_rfl) (fun _ _ _ h => h) (Or.inl ⟨by rfl, ?_⟩) ?_ ?_
      rotate_left
      · intro w'
        go_simp
        with_reducible rfl
      rotate_left
      · simp only [Act.put, List.setIfInBounds_toArray, List.set_cons_zero, List.set_cons_succ, i64_w, i32_w]
        rfl
      refine pure_ (i := 1) (N := some 31) (v := ?_) (a' := ?_) #[true, true, false, false, false, false, false, false, false, false] rfl rfl (by kernel_rfl) (fun _ _ _ h => h) (Or.inl ⟨by rfl, ?_⟩) ?_ ?_
      rotate_left
      · intro w'
        go_simp
        with_reducible rfl
      rotate_left
      · simp only [Act.put, List.setIfInBounds_toArray, List.set_cons_zero, List.set_cons_succ, i64_w, i32_w]
        rfl
      refine take_ (i := 2) (N := some 32) (v := ?_) (a' := ?_) #[true, true, true, false, false, false, false, false, false, false] rfl rfl (by kernel_rfl) (fun _ _ _ h => h) (Or.inl ⟨by rfl, ?_⟩) hHeld ?_ ?_
      rotate_left
      · rintro w' hw
        have hc0 := run_lookup_map (P := Try.prog) Try.underlying91 Try.underlying3 hw key (z := pairV (0, 0)) (by kernel_rfl); rw [getV_mz, hab] at hc0; simp only [pairV] at hc0
        go_simp
        with_reducible rfl
      rotate_left
      · simp only [Act.put, List.setIfInBounds_toArray, List.set_cons_zero, List.set_cons_succ, i64_w, i32_w]
        rfl
      refine pure_ (i := 3) (N := some 33) (v := ?_) (a' := ?_) #[true, true, true, true, false, false, false, false, false, false] rfl rfl (by kernel_rfl) (fun _ _ _ h => h) (Or.inl ⟨by rfl, ?_⟩) ?_ ?_
      rotate_left
      · intro w'
        have hi0 := idx0 w'
        go_simp
        try rfl
      rotate_left
      · simp only [Act.put, List.setIfInBounds_toArray, List.set_cons_zero, List.set_cons_succ, i64_w, i32_w]
        rfl
      refine pure_ (i := 4) (N := some 34) (v := ?_) (a' := ?_) #[true, true, true, true, true, false, false, false, false, false] rfl rfl (by kernel_rfl) (fun _ _ _ h => h) (Or.inl ⟨by rfl, ?_⟩) ?_ ?_
      rotate_left
      · intro w'
        go_simp
        with_reducible rfl
      rotate_left
      · simp only [Act.put, List.setIfInBounds_toArray, List.set_cons_zero, List.set_cons_succ, i64_w, i32_w]
        rfl
      refine pure_ (i := 5) (N := some 35) (v := ?_) (a' := ?_) #[true, true, true, true, true, true, false, false, false, false] rfl rfl (by kernel_rfl) (fun _ _ _ h => h) (Or.inl ⟨by rfl, ?_⟩) ?_ ?_
      rotate_left
      · intro w'
        go_simp
        with_reducible rfl
      rotate_left
      · simp only [Act.put, List.setIfInBounds_toArray, List.set_cons_zero, List.set_cons_succ, i64_w, i32_w]
        rfl
      refine take_ (i := 6) (N := some 36) (v := ?_) (a' := ?_) #[true, true, true, true, true, true, true, false, false, false] rfl rfl (by kernel_rfl) (fun _ _ _ h => h) (Or.inl ⟨by rfl, ?_⟩) hHeld ?_ ?_
      rotate_left
      · rintro w' hw
        have hc0 := run_lookup_map (P := Try.prog) Try.underlying91 Try.underlying3 hw key (z := pairV (0, 0)) (by kernel_rfl); rw [getV_mz, hab] at hc0; simp only [pairV] at hc0
        go_simp
        with_reducible rfl
      rotate_left
      · simp only [Act.put, List.setIfInBounds_toArray, List.set_cons_zero, List.set_cons_succ, i64_w, i32_w]
        rfl
      refine pure_ (i := 7) (N := some 37) (v := ?_) (a' := ?_) #[true, true, true, true, true, true, true, true, false, false] rfl rfl (by kernel_rfl) (fun _ _ _ h => h) (Or.inl ⟨by rfl, ?_⟩) ?_ ?_
      rotate_left
      · intro w'
        have hi1 := idx1 w'
        go_simp
        try rfl
      rotate_left
      · simp only [Act.put, List.setIfInBounds_toArray, List.set_cons_zero, List.set_cons_succ, i64_w, i32_w]
        rfl
      refine pure_ (i := 8) (N := some 7) (v := ?_) (a' := ?_) #[true, true, true, true, true, true, true, true, true, false] rfl rfl (by kernel_rfl) (fun _ _ _ h => h) (Or.inl ⟨by rfl, ?_⟩) ?_ ?_
      rotate_left
      · intro w'
        go_simp
        with_reducible rfl
      rotate_left
      · simp only [Act.put, List.setIfInBounds_toArray, List.set_cons_zero, List.set_cons_succ, i64_w, i32_w]
        rfl
      refine pure_ (i := 9) (N := some 8) (v := ?_) (a' := ?_) #[true, true, true, true, true, true, true, true, true, true] rfl rfl (by kernel_rfl) (fun _ _ _ h => h) (Or.inl ⟨by rfl, ?_⟩) ?_ ?_
      rotate_left
      · intro w'
        go_simp
        with_reducible rfl
      rotate_left
      · simp only [Act.put, List.setIfInBounds_toArray, List.set_cons_zero, List.set_cons_succ, i64_w, i32_w]
        rfl
      refine done_ (by kernel_rfl) ?_
      have y2 : W0.cell? ⟨o, 2, none⟩ = some (.int .i64 f2) := (blk_cell HJD.out.box 2).trans rfl
      have y2f := blk_frozen HJD.out.box 2
      clear hHeld
      have hln : f0.length ≤ 1048576 ∧ f1.length ≤ 1048576 := by omega
      rcases Int.lt_trichotomy a a' with h | h | h
      · have hN : normStep S ⟨f0, f1, f2⟩ key = ⟨f0 ++ [a' - a], f1 ++ [-key], f2 - a⟩ := by simp only [normStep, hab]; rw [if_neg (by omega), if_pos h]
        rw [hN] at HPI
        have hcf : cmpF a a' = -1 := by unfold cmpF; rw [if_pos h]
        have hcm := fun W => compare.calls a a' W
        rw [hcf] at hcm
        have HCMP := Aside0.mk hcm
        have HJ1 := Aside0.mk (HJD.out.set2 (f2 - a))
        have HPUT := Aside0.mk (build_put.calls o R (f2 - a) vc vL f0 f1 (a' - a) (-key) _ HJ1.out.self hln.1 hln.2)
        have hle1 : a ≤ a' := by omega
        have hle2 : ¬ a' < a := by omega
        have hle3 : ¬ a' ≤ a := by omega
        clear hcm hcf hN hab
        go_wp2_with (first | (go_at_call 65; refine (HCMP.out _).mono ?_; rintro e w7 ⟨rfl, rfl⟩) | (go_at_call 66; refine HPUT.out.mono ?_; rintro e wP ⟨rfl, vc', vL', hJ⟩; have HJN := Aside0.mk (hJ.onto HJ1.out.fr); clear hJ))
        go_roundw
        case rel => exact ⟨i + 1, by omega, by go_num, vc', vL', ⟨by rw [HPI.out]; exact HJN.out⟩⟩
        case measure => simp [intOf]; omega
      · subst h
        have hN : normStep S ⟨f0, f1, f2⟩ key = ⟨f0, f1, f2 - a⟩ := by simp only [normStep, hab]; rw [if_neg (by omega), if_neg (by omega)]
        rw [hN] at HPI
        have hcf : cmpF a a = 0 := by unfold cmpF; rw [if_neg (by omega), if_neg (by omega)]
        have hcm := fun W => compare.calls a a W
        rw [hcf] at hcm
        have HCMP := Aside0.mk hcm
        have HJ1 := Aside0.mk (HJD.out.set2 (f2 - a))
        clear hcm hcf hN hab
        go_wp2_with (go_at_call 65; refine (HCMP.out _).mono ?_; rintro e w7 ⟨rfl, rfl⟩)
        go_roundw
        case rel => exact ⟨i + 1, by omega, by go_num, vc, vL, ⟨by rw [HPI.out]; exact HJ1.out⟩⟩
        case measure => simp [intOf]; omega
      · have hN : normStep S ⟨f0, f1, f2⟩ key = ⟨f0 ++ [a - a'], f1 ++ [key], f2 - a'⟩ := by simp only [normStep, hab]; rw [if_pos h]
        rw [hN] at HPI
        have hcf : cmpF a a' = 1 := by unfold cmpF; rw [if_neg (by omega), if_pos h]
        have hcm := fun W => compare.calls a a' W
        rw [hcf] at hcm
        have HCMP := Aside0.mk hcm
        have HJ1 := Aside0.mk (HJD.out.set2 (f2 - a'))
        have HPUT := Aside0.mk (build_put.calls o R (f2 - a') vc vL f0 f1 (a - a') key _ HJ1.out.self hln.1 hln.2)
        have hle1 : a' ≤ a := by omega
        have hle2 : ¬ a < a' := by omega
        have hle3 : ¬ a ≤ a' := by omega
        clear hcm hcf hN hab
        go_wp2_with (first | (go_at_call 65; refine (HCMP.out _).mono ?_; rintro e w7 ⟨rfl, rfl⟩) | (go_at_call 66; refine HPUT.out.mono ?_; rintro e wP ⟨rfl, vc', vL', hJ⟩; have HJN := Aside0.mk (hJ.onto HJ1.out.fr); clear hJ))
        go_roundw
        case rel => exact ⟨i + 1, by omega, by go_num, vc', vL', ⟨by rw [HPI.out]; exact HJN.out⟩⟩
        case measure => simp [intOf]; omega
    · have hi : i = ks.length := by omega
      subst hi
      have hsm := HSMALL.out ks.length
      have hga : G ks.length = rawF cs ls least := HPALL.out
      rw [hga] at HJ hsm
      obtain ⟨⟨f0, f1, f2⟩, hraw⟩ : ∃ z, rawF cs ls least = z := ⟨_, rfl⟩
      rw [hraw] at HJ hsm HGOOD HNF
      simp only at HJ hsm
      have hHT : wr.heap[w.heap.size + 1]? = some (.cells #[.slice none 0 0, .slice none 0 0, .int .i64 0] 40 (0, 0)) := by
        rw [HJ.out.fr.block (w.heap.size + 1) (by omega) (by omega)]
        exact HTS.out
      obtain ⟨p, hp⟩ : ∃ p, wr.heap.size = p := ⟨_, rfl⟩
      have hJP := HJ.out.step (below_alloc (Below.refl _ _) (.cells #[.int .i64 f2] 3))
      have hPX := blk_new wr (.cells #[.int .i64 f2] 3)
      rw [hp] at hPX
      have y2 : wr.cell? ⟨o, 2, none⟩ = some (.int .i64 f2) := (blk_cell HJ.out.box 2).trans rfl
      obtain ⟨WP, hWP⟩ : ∃ W, wr.alloc (.cells #[.int .i64 f2] 3) = W := ⟨_, rfl⟩
      have hTP := blk_alloc hHT (.cells #[.int .i64 f2] 3)
      rw [hWP] at hJP hPX hTP
      have HJP := Aside0.mk hJP
      have HPX := Aside0.mk hPX
      have HTP := Aside0.mk hTP
      have HPO : Aside0 (∀ k, vc.ownBlock = some k → k < p) := ⟨fun k hk => by rw [← hp]; exact (HJ.out.hc.lt k hk).2⟩
      have hnil : ∀ W : World, Kd.C (Kd.int .i64) W none ([] : List Int).length [] := fun W => ⟨rfl, by simp, fun h => by simp at h⟩
      have HNIL := Aside0.mk hnil
      have HBP : Aside0 (Below w.heap.size w WP) := ⟨HBW.out.trans (hJP.fr.below (by omega) (by omega))⟩
      have y3 : WP.cell? ⟨p, 0, none⟩ = some (.int .i64 f2) := (blk_cell hPX 0).trans rfl
      clear hJP hPX hTP hHT hga hraw hlt hnil
      by_cases hle : f2 ≤ 0
      · have hx : Aside0 (normF cs ls least = ⟨[], [], 0⟩) := ⟨by rw [HNF.out, capF, if_pos hle]⟩
        have hd : decide (f2 ≤ 0) = true := decide_eq_true hle
        have g0 := blk_cell HTP.out 0
        have g1 := blk_cell HTP.out 1
        have g2 := blk_cell HTP.out 2
        have q0 := blk_frozen HTP.out 0
        have q1 := blk_frozen HTP.out 1
        have q2 := blk_frozen HTP.out 2
        go_wp2_with fail
        refine bodyPost_ret (results_cell3 rfl rfl (blk_store3 HTP.out)) rfl ?_
        rw [hx.out]
        exact ⟨none, 0, none, 0, rfl, HNIL.out _, HNIL.out _, Nat.le_refl _, Nat.le_refl _, below_store3 HBP.out (by omega)⟩
      · have hd : decide (f2 ≤ 0) = false := decide_eq_false hle
        have HALL : Aside0 (∀ W, NJ o R wS W f2 vc vL f0 f1 vc vL → Calls Try.prog 67 #[.pointer (some ⟨o, 0, none⟩)] W fun e w' => e = .returned (.int .i64 (sumI f0)) ∧ Below W.heap.size W w') := ⟨fun W hJ => by
          obtain ⟨A, c, e, h1, h2⟩ := hJ.hc.reads (h1 := fun _ => rfl)
          obtain ⟨A', c', e', h1', h2'⟩ := hJ.hL.reads (h1 := fun _ => rfl)
          have hbx := hJ.box
          rw [e, e'] at hbx
          exact build_all.calls o A c f0 A' c' f1 f2 W hbx h2 h2' HGOOD.out.len (by have := HGOOD.out.len; simp only at this; omega) HGOOD.out.pos (by omega)⟩
        obtain ⟨tot, htot⟩ : ∃ t, sumI f0 = t := ⟨_, rfl⟩
        rw [htot] at HALL hsm
        obtain ⟨m, hm⟩ : ∃ m, f2 = m := ⟨_, rfl⟩
        subst hm
        by_cases hlt : tot < f2
        · have hx : Aside0 (normF cs ls least = ⟨[], [], 1⟩) := ⟨by rw [HNF.out, capF, if_neg hle, if_pos (by rw [htot]; exact hlt)]⟩
          have hd2 : decide (tot < f2) = true := decide_eq_true hlt
          go_wp2_with fail
          refine start_ (n := 5) (S := fun V => V.heap[p]? = some (.cells #[.int .i64 f2] 3 (0, 0))) (ds := []) #[false, false, false, false, false] (by kernel_rfl) rfl rfl HPX.out (fun hHeld => ?_)
          have HJD := Aside0.mk HJP.out.drew
          have HTD := Aside0.mk (show WP.drew.heap[w.heap.size + 1]? = some (.cells #[.slice none 0 0, .slice none 0 0, .int .i64 0] 40 (0, 0)) from HTP.out)
          clear HJP HTP HPX
          refine pure_ (i := 0) (N := some 84) (v := ?_) (a' := ?_) #[true, false, false, false, false] rfl rfl (by kernel_rfl) (fun _ _ _ h => h) (Or.inl ⟨by rfl, ?_⟩) ?_ ?_
          rotate_left
          · intro w'
            go_simp
            with_reducible rfl
          rotate_left
          · simp only [Act.put, List.setIfInBounds_toArray, List.set_cons_zero, List.set_cons_succ, i64_w, i32_w]
            rfl
          refine take_ (i := 2) (N := some 86) (v := ?_) (a' := ?_) #[true, false, true, false, false] rfl rfl (by kernel_rfl) (fun _ _ _ h => h) (Or.inl ⟨by rfl, ?_⟩) hHeld ?_ ?_
          rotate_left
          · rintro w' hw
            have hc0 := blk_cell hw 0
            go_simp
            with_reducible rfl
          rotate_left
          · simp only [Act.put, List.setIfInBounds_toArray, List.set_cons_zero, List.set_cons_succ, i64_w, i32_w]
            rfl
          refine one_ (i := 1) (N := some 85) #[true, true, true, false, false] rfl rfl (by kernel_rfl) (by decide) (fun K hK => ?_)
          refine goes_ Try.func67 (by kernel_rfl) rfl #[.pointer (some ⟨o, 0, none⟩)] (by rfl) rfl rfl (by simp only [List.map_toArray, List.map_cons, List.map_nil]; rfl) ?_
          refine (HALL.out _ HJD.out).mono ?_
          rintro e wA ⟨rfl, hbA⟩
          refine ⟨_, rfl, ?_⟩
          have HJA := Aside0.mk (HJD.out.step hbA)
          have HTA := Aside0.mk (blk_below HTD.out hbA)
          refine hK.out _ _ (blk_below hHeld hbA) (fun hHeld => ?_)
          have HPA := Aside0.mk hHeld
          clear hK K hbA HJD HTD
          refine norm_ (a' := ?_) ?_ ?_
          rotate_left
          · show Act.put _ (some 85) _ = _
            simp only [Act.put, List.setIfInBounds_toArray, List.set_cons_zero, List.set_cons_succ, i64_w, i32_w]
            rfl
          refine pure_ (i := 3) (N := some 87) (v := ?_) (a' := ?_) #[true, true, true, true, false] rfl rfl (by kernel_rfl) (fun _ _ _ h => h) (Or.inl ⟨by rfl, ?_⟩) ?_ ?_
          rotate_left
          · intro w'
            go_simp
            with_reducible rfl
          rotate_left
          · simp only [Act.put, List.setIfInBounds_toArray, List.set_cons_zero, List.set_cons_succ, i64_w, i32_w]
            rfl
          refine pure_ (i := 4) (N := some 83) (v := ?_) (a' := ?_) #[true, true, true, true, true] rfl rfl (by kernel_rfl) (fun _ _ _ h => h) (Or.inl ⟨by rfl, ?_⟩) ?_ ?_
          rotate_left
          · intro w'
            go_simp
            with_reducible rfl
          rotate_left
          · simp only [Act.put, List.setIfInBounds_toArray, List.set_cons_zero, List.set_cons_succ, i64_w, i32_w]
            rfl
          refine done_ (by kernel_rfl) ?_
          have g0 := blk_cell HTA.out 0
          have g1 := blk_cell HTA.out 1
          have g2 := blk_cell HTA.out 2
          have q0 := blk_frozen HTA.out 0
          have q1 := blk_frozen HTA.out 1
          have q2 := blk_frozen HTA.out 2
          have HBA : Aside0 (Below w.heap.size w wA) := ⟨HBW.out.trans (HJA.out.fr.below (by omega) (by omega))⟩
          clear hHeld
          go_wp2_with fail
          refine bodyPost_ret (results_cell3 rfl rfl (blk_store3 HTA.out)) rfl ?_
          rw [hx.out]
          exact ⟨none, 0, none, 0, rfl, HNIL.out _, HNIL.out _, Nat.le_refl _, Nat.le_refl _, below_store3 HBA.out (by omega)⟩
        · have hx : Aside0 (normF cs ls least = ⟨f0.map (fun n => if n < f2 then n else f2), f1, f2⟩) := ⟨by rw [HNF.out, capF, if_neg hle, if_neg (by rw [htot]; exact hlt)]⟩
          have hd2 : decide (tot < f2) = false := decide_eq_false hlt
          go_wp2_with fail
          refine start_ (n := 5) (S := fun V => V.heap[p]? = some (.cells #[.int .i64 f2] 3 (0, 0))) (ds := []) #[false, false, false, false, false] (by kernel_rfl) rfl rfl HPX.out (fun hHeld => ?_)
          have HJD := Aside0.mk HJP.out.drew
          have HTD := Aside0.mk (show WP.drew.heap[w.heap.size + 1]? = some (.cells #[.slice none 0 0, .slice none 0 0, .int .i64 0] 40 (0, 0)) from HTP.out)
          clear HJP HTP HPX
          refine pure_ (i := 0) (N := some 84) (v := ?_) (a' := ?_) #[true, false, false, false, false] rfl rfl (by kernel_rfl) (fun _ _ _ h => h) (Or.inl ⟨by rfl, ?_⟩) ?_ ?_
          rotate_left
          · intro w'
            go_simp
            with_reducible rfl
          rotate_left
          · simp only [Act.put, List.setIfInBounds_toArray, List.set_cons_zero, List.set_cons_succ, i64_w, i32_w]
            rfl
          refine take_ (i := 2) (N := some 86) (v := ?_) (a' := ?_) #[true, false, true, false, false] rfl rfl (by kernel_rfl) (fun _ _ _ h => h) (Or.inl ⟨by rfl, ?_⟩) hHeld ?_ ?_
          rotate_left
          · rintro w' hw
            have hc0 := blk_cell hw 0
            go_simp
            with_reducible rfl
          rotate_left
          · simp only [Act.put, List.setIfInBounds_toArray, List.set_cons_zero, List.set_cons_succ, i64_w, i32_w]
            rfl
          refine one_ (i := 1) (N := some 85) #[true, true, true, false, false] rfl rfl (by kernel_rfl) (by decide) (fun K hK => ?_)
          refine goes_ Try.func67 (by kernel_rfl) rfl #[.pointer (some ⟨o, 0, none⟩)] (by rfl) rfl rfl (by simp only [List.map_toArray, List.map_cons, List.map_nil]; rfl) ?_
          refine (HALL.out _ HJD.out).mono ?_
          rintro e wA ⟨rfl, hbA⟩
          refine ⟨_, rfl, ?_⟩
          have HJA := Aside0.mk (HJD.out.step hbA)
          have HTA := Aside0.mk (blk_below HTD.out hbA)
          refine hK.out _ _ (blk_below hHeld hbA) (fun hHeld => ?_)
          have HPA := Aside0.mk hHeld
          clear hK K hbA HJD HTD
          refine norm_ (a' := ?_) ?_ ?_
          rotate_left
          · show Act.put _ (some 85) _ = _
            simp only [Act.put, List.setIfInBounds_toArray, List.set_cons_zero, List.set_cons_succ, i64_w, i32_w]
            rfl
          refine pure_ (i := 3) (N := some 87) (v := ?_) (a' := ?_) #[true, true, true, true, false] rfl rfl (by kernel_rfl) (fun _ _ _ h => h) (Or.inl ⟨by rfl, ?_⟩) ?_ ?_
          rotate_left
          · intro w'
            go_simp
            with_reducible rfl
          rotate_left
          · simp only [Act.put, List.setIfInBounds_toArray, List.set_cons_zero, List.set_cons_succ, i64_w, i32_w]
            rfl
          refine pure_ (i := 4) (N := some 83) (v := ?_) (a' := ?_) #[true, true, true, true, true] rfl rfl (by kernel_rfl) (fun _ _ _ h => h) (Or.inl ⟨by rfl, ?_⟩) ?_ ?_
          rotate_left
          · intro w'
            go_simp
            with_reducible rfl
          rotate_left
          · simp only [Act.put, List.setIfInBounds_toArray, List.set_cons_zero, List.set_cons_succ, i64_w, i32_w]
            rfl
          refine done_ (by kernel_rfl) ?_
          have hf0 : 0 < f0.length := by
            cases f0 with
            | nil => simp only [sumI] at htot; omega
            | cons x l => simp
          obtain ⟨gc, cc, ec, _, _⟩ := World.ownsRow.form HJA.out.hc hf0
          obtain ⟨AL, nL, cL, eL⟩ := HJA.out.hL.form
          subst ec eL
          have HEACH := Aside0.mk (build_each.calls o R p f2 gc cc (.slice AL nL cL) f0 f1 wA HJA.out.self HPA.out (by have := HPO.out gc rfl; omega) (by omega))
          clear hHeld
          go_wp2_with (go_at_call 68; refine HEACH.out.mono ?_; rintro e wE ⟨rfl, hJ⟩; have HTE : Aside0 (wE.heap[w.heap.size + 1]? = some (.cells #[.slice none 0 0, .slice none 0 0, .int .i64 0] 40 (0, 0))) := ⟨(hJ.fr.block (w.heap.size + 1) (by omega) (by omega)).trans HTA.out⟩; have HJE := Aside0.mk (hJ.onto HJA.out.fr); have z0 := blk_cell HJE.out.box 0; have z1 := blk_cell HJE.out.box 1; have z2 := blk_cell HJE.out.box 2; have g0 := blk_cell HTE.out 0; have g1 := blk_cell HTE.out 1; have g2 := blk_cell HTE.out 2; have q0 := blk_frozen HTE.out 0; have q1 := blk_frozen HTE.out 1; have q2 := blk_frozen HTE.out 2; clear hJ)
          have HBE : Aside0 (Below w.heap.size w wE) := ⟨HBW.out.trans (HJE.out.fr.below (by omega) (by omega))⟩
          refine bodyPost_ret (results_cell3 rfl rfl (blk_store3 HTE.out)) rfl ?_
          rw [hx.out]
          have r0 := row_store3 (g := w.heap.size + 1) (x0 := .slice (some ⟨gc, 0, none⟩) f0.length cc) (x1 := .slice AL nL cL) (x2 := .int .i64 f2) HJE.out.hc (fun k hk => by have := (HJE.out.hc.lt k hk).1; omega)
          have r1 := row_store3 (g := w.heap.size + 1) (x0 := .slice (some ⟨gc, 0, none⟩) f0.length cc) (x1 := .slice AL nL cL) (x2 := .int .i64 f2) HJE.out.hL (fun k hk => by have := (HJE.out.hL.lt k hk).1; omega)
          obtain ⟨A2, c2, e2, h2, h3⟩ := r0.reads (h1 := fun _ => rfl)
          obtain ⟨A3, c3, e3, h4, h5⟩ := r1.reads (h1 := fun _ => rfl)
          exact ⟨A2, c2, A3, c3, by rw [← e2, ← e3], h3, h5, h2, h4, below_store3 HBE.out (by omega)⟩
end Go.Proofs.Ytkcmkoolcakfjaa.P

/- gate.made: the literals of some trees, or a stop that the deferred closure turns into an error. -/
import Derived.Test.YtkcmkoolcakfjaaHCatch
import Derived.Test.YtkcmkoolcakfjaaHCheck
import Derived.Test.YtkcmkoolcakfjaaHWide
import Derived.Defers
namespace Go.Proofs.Ytkcmkoolcakfjaa.P
open Go.RowKit Go.Proofs.YtkcmkoolcakfjaaW.PrintWords Go.Proofs.YtkcmkoolcakfjaaW.PrintLast Go.Proofs.YtkcmkoolcakfjaaW.PrintMore Go.Proofs.Ytkcmkoolcakfjaa.Aid
set_option linter.unusedVariables false
set_option linter.unusedSimpArgs false

/-- The error, if one is met. -/
def madeE : List S24 → Int → Int
  | [], _ => 0
  | t :: ts, nx => if checkF t (nx - 1) ≠ 0 then checkF t (nx - 1) else if wideT t = true then 2 else if 65537 < (litF t nx).2.2 then 2 else madeE ts (litF t nx).2.2
/-- What gate.made answers. -/
def madeF (ts : List S24) (next : Int) : List Int × List S40 × Int × Int :=
  if next < 1 then ([], [], 0, 1) else if 65537 < next then ([], [], 0, 1) else if madeE ts next = 0 then ((litsF ts next).1, (litsF ts next).2.1, (litsF ts next).2.2, 0) else ([], [], 0, madeE ts next)

structure Made (w : World) (G mp : Nat) (W : World) (lv vl : Value) (nx : Int) (lits : List Int) (l : List S40) : Prop where
  below : Below w.heap.size w W
  xL : W.heap[w.heap.size]? = some (.cells #[lv] 34 (0, 0))
  xS : W.heap[w.heap.size + 1]? = some (.cells #[.slice none 0 0, .int .i64 0] 56 (0, 0))
  xE : W.heap[w.heap.size + 1 + 1]? = some (.cells #[.int .i64 0] 28 (0, 0))
  xG : W.heap[G]? = some (.cells #[vl, .int .i64 nx, .map (some mp)] 85 (0, 0))
  map : W.heap[mp]? = some (.map kindsEs 4)
  lrow : IRow W w.heap.size lv lits
  row : Kd.N k40 40 W (w.heap.size + 3) (fun q => w.heap.size + 2 < q ∧ q ≠ G ∧ some q ≠ lv.ownBlock) vl l
  gG : w.heap.size + 3 ≤ G
  gm : w.heap.size ≤ mp

section
variable {w W W2 : World} {G mp : Nat} {lv lv2 vl vl2 : Value} {nx nx2 : Int} {lits lits2 : List Int} {l n2 : List S40}
theorem Made.start {w1 w2 : World} {next : Int} (hb : Below w.heap.size w w1) (hL : w1.heap[w.heap.size]? = some (.cells #[.slice none 0 0] 34 (0, 0))) (hS : w1.heap[w.heap.size + 1]? = some (.cells #[.slice none 0 0, .int .i64 0] 56 (0, 0))) (hE : w1.heap[w.heap.size + 1 + 1]? = some (.cells #[.int .i64 0] 28 (0, 0)))
    (hz : w1.heap.size = w.heap.size + 3) (hm : w2.heap[w.heap.size + 3]? = some (.map kindsEs 4)) (hb2 : Below w1.heap.size w1 w2) : Made w w2.heap.size (w.heap.size + 3) (w2.alloc (.cells #[.slice none 0 0, .int .i64 next, .map (some (w.heap.size + 3))] 85)) (.slice none 0 0) (.slice none 0 0) next [] [] :=
  ⟨(hb.trans (hb2.mono hb.size)).alloc (Nat.le_trans hb.size hb2.size) _, blk_alloc (blk_below hL hb2) _, blk_alloc (blk_below hS hb2) _, blk_alloc (blk_below hE hb2) _, blk_new _ _, blk_alloc hm _, Row.nil _ _ _ _, Kd.N_nil _ _ _ _ _, by have := hb2.size; omega, by omega⟩
theorem Made.step (h : Made w G mp W lv vl nx lits l) (hb : Below W.heap.size W W2) : Made w G mp W2 lv vl nx lits l :=
  ⟨h.below.trans (hb.mono h.below.size), blk_below h.xL hb, blk_below h.xS hb, blk_below h.xE hb, blk_below h.xG hb, blk_below h.map hb, h.lrow.below hb, Kd.N_below h.row hb, h.gG, h.gm⟩
theorem Made.away (h : Made w G mp W lv vl nx lits l) {b t : Nat} {cs : Array Value} (hb : W.heap[b]? = some (.cells cs t (0, 0))) (h1 : t ≠ 85) (h2 : t ≠ 40) : ¬ (b = G ∨ some b = vl.ownBlock) := by
  rintro (e | e)
  · exact blk_ne hb h.xG h1 e
  · obtain ⟨cs', hc⟩ := Kd.N_typed h.row b e.symm
    exact blk_ne hb hc h2 rfl
theorem Made.call (h : Made w G mp W lv vl nx lits l) (k : MPost (w.heap.size + 3) G (fun q => w.heap.size + 2 < q ∧ q ≠ G ∧ some q ≠ lv.ownBlock) vl l mp W W2 vl2 nx2 n2) : Made w G mp W2 lv vl2 nx2 lits (l ++ n2) := by
  have hm : ¬ (mp = G ∨ some mp = vl.ownBlock) := by
    rintro (e | e)
    · have h1 := h.map
      rw [e, h.xG] at h1
      cases h1
    · obtain ⟨cs', hc⟩ := Kd.N_typed h.row mp e.symm
      rw [h.map] at hc
      cases hc
  refine ⟨h.below.trans (k.below.mono (by omega)), blk_kept h.xL k.kept (h.away h.xL (by decide) (by decide)), blk_kept h.xS k.kept (h.away h.xS (by decide) (by decide)), blk_kept h.xE k.kept (h.away h.xE (by decide) (by decide)), k.blk, blk_kept h.map k.kept hm, h.lrow.move (fun q hq => k.kept.2 q (h.lrow.lt q hq).2 (fun hs => ?_)), ?_, h.gG, h.gm⟩
  · obtain ⟨cs, hc⟩ := h.lrow.typed q hq
    exact h.away hc (by decide) (by decide) hs
  · refine Kd.N_mono k.row (fun q hq => ?_)
    rcases hq with hq | hq
    · exact hq
    · have h1 := h.below.size
      have h2 := blk_lt h.xG
      have h3 := blk_lt h.xE
      refine ⟨by omega, by omega, fun e => ?_⟩
      have := (h.lrow.lt q e.symm).2
      omega
/-- One literal appended; the slice's value does not lie in its box yet. -/
theorem Made.app (h : Made w G mp W lv vl nx lits l) (hg : W.grownBy W2 lv.ownBlock) (hr : IRow W2 w.heap.size lv2 lits2) (hat : lv2.ownBlock = lv.ownBlock ∨ lv2.ownBlock = some W.heap.size) : Made w G mp (W2.setCell ⟨w.heap.size, 0, none⟩ lv2) lv2 vl nx lits2 l := by
  have hne : ∀ {b t : Nat} {cs : Array Value}, W.heap[b]? = some (.cells cs t (0, 0)) → t ≠ 3 → some b ≠ lv.ownBlock := fun hb ht e => h.lrow.ne_block hb (fun e => ht e.symm) _ e.symm rfl
  have hm : some mp ≠ lv.ownBlock := fun e => by
    obtain ⟨cs, hc⟩ := h.lrow.typed mp e.symm
    rw [h.map] at hc
    cases hc
  have yL := blk_grown h.xL hg (hne h.xL (by decide))
  have yS := blk_grown h.xS hg (hne h.xS (by decide))
  have yE := blk_grown h.xE hg (hne h.xE (by decide))
  have yG := blk_grown h.xG hg (hne h.xG (by decide))
  have ym := blk_grown h.map hg hm
  have yb := h.below.grown hg h.below.size (fun q hq => (h.lrow.lt q hq).1)
  have yr : Kd.N k40 40 W2 (w.heap.size + 3) (fun q => w.heap.size + 2 < q ∧ q ≠ G ∧ some q ≠ lv2.ownBlock) vl l := by
    refine Kd.N_mono (Kd.N_step (Kd.N_bound h.row) (fun q hq hlt => hg.block q hlt hq.1.2.2)) (fun q hq => ⟨hq.1.1, hq.1.2.1, fun e => ?_⟩)
    rcases hat with hat | hat
    · rw [hat] at e; exact hq.1.2.2 e
    · rw [hat] at e; injection e with e; have := hq.2; omega
  refine ⟨yb.setCell (Nat.le_refl _) _, blk_put yL 0 _ rfl, blk_far yS (by omega) _, blk_far yE (by omega) _, blk_far yG (blk_ne yG yL (by decide)) _, blk_far ym (fun e => ?_) _, hr.far (fun q hq => ?_) _, Kd.N_far (p := ⟨w.heap.size, 0, none⟩) yr (fun q hq => ?_) _, h.gG, h.gm⟩
  · rw [e, yL] at ym; cases ym
  · obtain ⟨cs, hc⟩ := hr.typed q hq
    exact blk_ne hc yL (by decide)
  · have := hq.1
    show q ≠ w.heap.size
    omega
end
/-- The blocks of the results alone. -/
structure CJ0 (B L S E : Nat) (W0 W : World) (v0 v1 v2 v3 : Value) : Prop where
  below : Below B W0 W
  xL : W.heap[L]? = some (.cells #[v0] 34 (0, 0))
  xS : W.heap[S]? = some (.cells #[v1, v2] 56 (0, 0))
  xE : W.heap[E]? = some (.cells #[v3] 28 (0, 0))
section
variable {B L S E : Nat} {W0 W : World} {v0 v1 v2 v3 : Value}
theorem CJ0.set0 (h : CJ0 B L S E W0 W v0 v1 v2 v3) (hB : B ≤ L) (v : Value) : CJ0 B L S E W0 (W.setCell ⟨L, 0, none⟩ v) v v1 v2 v3 :=
  ⟨h.below.setCell hB _, blk_put h.xL 0 v rfl, blk_far h.xS (blk_ne h.xS h.xL (by decide)) _, blk_far h.xE (blk_ne h.xE h.xL (by decide)) _⟩
theorem CJ0.set1 (h : CJ0 B L S E W0 W v0 v1 v2 v3) (hB : B ≤ S) (v : Value) : CJ0 B L S E W0 (W.setCell ⟨S, 0, none⟩ v) v0 v v2 v3 :=
  ⟨h.below.setCell hB _, blk_far h.xL (blk_ne h.xL h.xS (by decide)) _, blk_put h.xS 0 v rfl, blk_far h.xE (blk_ne h.xE h.xS (by decide)) _⟩
theorem CJ0.set2 (h : CJ0 B L S E W0 W v0 v1 v2 v3) (hB : B ≤ S) (v : Value) : CJ0 B L S E W0 (W.setCell ⟨S, 1, none⟩ v) v0 v1 v v3 :=
  ⟨h.below.setCell hB _, blk_far h.xL (blk_ne h.xL h.xS (by decide)) _, blk_put h.xS 1 v rfl, blk_far h.xE (blk_ne h.xE h.xS (by decide)) _⟩
theorem CJ0.set3 (h : CJ0 B L S E W0 W v0 v1 v2 v3) (hB : B ≤ E) (v : Value) : CJ0 B L S E W0 (W.setCell ⟨E, 0, none⟩ v) v0 v1 v2 v :=
  ⟨h.below.setCell hB _, blk_far h.xL (blk_ne h.xL h.xE (by decide)) _, blk_far h.xS (blk_ne h.xS h.xE (by decide)) _, blk_put h.xE 0 v rfl⟩
end
theorem results_made {tmps : Array Value} {W : World} {b4 b5 b6 : Nat} {v0 v1 v2 v3 : Value} (h4 : tmps.getD 4 undef = .pointer (some ⟨b4, 0, none⟩)) (h5 : tmps.getD 5 undef = .pointer (some ⟨b5, 0, none⟩)) (h6 : tmps.getD 6 undef = .pointer (some ⟨b6, 0, none⟩))
    (x4 : W.heap[b4]? = some (.cells #[v0] 34 (0, 0))) (x5 : W.heap[b5]? = some (.cells #[v1, v2] 56 (0, 0))) (x6 : W.heap[b6]? = some (.cells #[v3] 28 (0, 0))) : (results Try.f29 tmps).run Try.prog W = .ok (.tuple #[v0, .agg #[v1, v2], v3]) W := by
  have hres : Try.f29.results = #[.cell 4 34, .cell 5 56, .cell 6 28] := by kernel_rfl
  have c4 : W.cell? ⟨b4, 0, none⟩ = some v0 := (blk_cell x4 0).trans rfl
  have c5 : W.cell? ⟨b5, 0, none⟩ = some v1 := (blk_cell x5 0).trans rfl
  have c5' : W.cell? ⟨b5, 1, none⟩ = some v2 := (blk_cell x5 1).trans rfl
  have c6 : W.cell? ⟨b6, 0, none⟩ = some v3 := (blk_cell x6 0).trans rfl
  rw [Array.getD_eq_getD_getElem?] at h4 h5 h6
  have k4 : (isAgg 34).run Try.prog W = .ok false W := by kernel_rfl
  have k5 : (isAgg 56).run Try.prog W = .ok true W := by kernel_rfl
  have k6 : (isAgg 28).run Try.prog W = .ok false W := by kernel_rfl
  have s5 : (sizeOf 56).run Try.prog W = .ok 2 W := by kernel_rfl
  simp [results, hres, h4, h5, h6, loadVar, asAddr, Sem.run_bind, Result.andThen, k4, k5, k6, s5, go_sem, c4, c5, c5', c6]

theorem leaves_tmps {P : Program} {fn : Func} {tmps tmps' : Array Value} {R : Ending → World → Prop} (h : ∀ w, (results fn tmps).run P w = (results fn tmps').run P w) : ∀ (ds : List Deferred) (u : FrameMode) (w : World), Leaves P fn tmps R ds u w → Leaves P fn tmps' R ds u w
  | [], .returning, w, hl => by
    obtain ⟨v, hv, hR⟩ := hl
    exact ⟨v, by rw [← h]; exact hv, hR⟩
  | [], .panicking _, _, hl => hl
  | [], .run, _, hl => hl
  | d :: ds, u, w, hl => by
    obtain ⟨hu, fv, cap, f, args, h1, h2, h3⟩ := hl
    refine ⟨hu, fv, cap, f, args, h1, h2, h3.mono ?_⟩
    rintro (v | ch | _) u' w' hh
    · exact leaves_tmps h ds _ _ hh
    · exact leaves_tmps h ds _ _ hh
    · exact hh
theorem hq_put {R : Ending → World → Prop} (k : Nat) (v : Value) (hk : k ≠ 4 ∧ k ≠ 5 ∧ k ≠ 6) (c : List PanicEntry) (a : Act) (w : World) (h : bodyPostD Try.prog Try.f29 R (.panic c) (a.put (some k) v) w) : bodyPostD Try.prog Try.f29 R (.panic c) a w := by
  refine leaves_tmps (fun w => ?_) _ _ _ h
  have hres : Try.f29.results = #[.cell 4 34, .cell 5 56, .cell 6 28] := by kernel_rfl
  have hg : ∀ j, k ≠ j → (a.put (some k) v).tmps[j]? = a.tmps[j]? := fun j hj => by simp [Act.put, Array.getElem?_setIfInBounds, hj]
  simp [results, hres, hg 4 hk.1, hg 5 hk.2.1, hg 6 hk.2.2]

theorem checkF_zero {T : S24} {n : Int} (h : checkF T n = 0) : formedT T n = true := by
  unfold checkF at h
  split at h
  · cases h
  · split at h
    · cases h
    · split at h
      · cases h
      · rename_i hh
        simpa using hh

set_option maxRecDepth 100000 in
set_option maxHeartbeats 4000000 in
theorem made.calls (ts : List S24) (A : Option Addr) (c : Nat) (next : Int) (w : World) (hC : Kd.C k24 w A ts.length ts) (hc : ts.length ≤ c) (hlen : ts.length ≤ 1048576) (hsz : ∀ t ∈ ts, sizeT t ≤ 1048576) :
    Calls Try.prog 29 #[.slice A ts.length c, .int .i64 next] w fun e w' => ∃ lv vl, e = .returned (.tuple #[lv, .agg #[vl, .int .i64 (madeF ts next).2.2.1], .int .i64 (madeF ts next).2.2.2]) ∧
      IRow w' w.heap.size lv (madeF ts next).1 ∧ Kd.N k40 40 w' w.heap.size (fun q => w.heap.size ≤ q ∧ some q ≠ lv.ownBlock) vl (madeF ts next).2.1 ∧ Below w.heap.size w w' := by
  have hmf : ∀ (fn : Fn) (first cap : Array Value) (w : World), (Instr.makeFunc fn first cap).run Try.prog w = .ok (.func fn first cap) w := fun _ _ _ _ => rfl
  have HC := Aside0.mk hC
  have HSZ := Aside0.mk hsz
  clear hC hsz
  go_enter_defers Try.func29, Try.ntmps29
  have HB0 : Aside0 (Below w.heap.size w (((w.alloc (.cells #[.slice none 0 0] 34)).alloc (.cells #[.slice none 0 0, .int .i64 0] 56)).alloc (.cells #[.int .i64 0] 28))) := ⟨below_alloc (below_alloc (below_alloc (Below.refl _ _) _) _) _⟩
  have HL0 : Aside0 ((((w.alloc (.cells #[.slice none 0 0] 34)).alloc (.cells #[.slice none 0 0, .int .i64 0] 56)).alloc (.cells #[.int .i64 0] 28)).heap[w.heap.size]? = some (.cells #[.slice none 0 0] 34 (0, 0))) := ⟨blk_alloc (blk_alloc (blk_new w _) _) _⟩
  have HS0 : Aside0 ((((w.alloc (.cells #[.slice none 0 0] 34)).alloc (.cells #[.slice none 0 0, .int .i64 0] 56)).alloc (.cells #[.int .i64 0] 28)).heap[w.heap.size + 1]? = some (.cells #[.slice none 0 0, .int .i64 0] 56 (0, 0))) := ⟨by
    refine blk_alloc ?_ _
    have h := blk_new (w.alloc (.cells #[.slice none 0 0] 34)) (.cells #[.slice none 0 0, .int .i64 0] 56)
    rwa [World.size_alloc] at h⟩
  have HE0 : Aside0 ((((w.alloc (.cells #[.slice none 0 0] 34)).alloc (.cells #[.slice none 0 0, .int .i64 0] 56)).alloc (.cells #[.int .i64 0] 28)).heap[w.heap.size + 1 + 1]? = some (.cells #[.int .i64 0] 28 (0, 0))) := ⟨by
    have h := blk_new ((w.alloc (.cells #[.slice none 0 0] 34)).alloc (.cells #[.slice none 0 0, .int .i64 0] 56)) (.cells #[.int .i64 0] 28)
    rwa [World.size_alloc, World.size_alloc] at h⟩
  have HZ0 : Aside0 ((((w.alloc (.cells #[.slice none 0 0] 34)).alloc (.cells #[.slice none 0 0, .int .i64 0] 56)).alloc (.cells #[.int .i64 0] 28)).heap.size = w.heap.size + 3) := ⟨by simp⟩
  by_cases h1 : next < 1 ∨ 65537 < next
  · have HMF : Aside0 (madeF ts next = ([], [], 0, 1)) := ⟨by
      unfold madeF
      rcases h1 with h1 | h1
      · rw [if_pos h1]
      · split
        · rfl
        · rfl⟩
    have J : CJ0 w.heap.size w.heap.size (w.heap.size + 1) (w.heap.size + 1 + 1) w (((w.alloc (.cells #[.slice none 0 0] 34)).alloc (.cells #[.slice none 0 0, .int .i64 0] 56)).alloc (.cells #[.int .i64 0] 28)).drew (.slice none 0 0) (.slice none 0 0) (.int .i64 0) (.int .i64 0) := ⟨HB0.out.drew, HL0.out, HS0.out, HE0.out⟩
    have h2 : next < 1 ∨ (¬ next < 1 ∧ 65537 < next) := by omega
    clear h1 HB0 HL0 HS0 HE0 HZ0
    rcases h2 with h1 | ⟨h1, h2⟩
    · go_wp2_with fail
      refine start_ (n := 4) (S := fun V => V.heap[w.heap.size + 1]? = some (.cells #[.slice none 0 0, .int .i64 0] 56 (0, 0))) (ds := [3]) #[false, false, false, false] (by kernel_rfl) rfl rfl J.xS (fun hHeld => ?_)
      generalize (((w.alloc (.cells #[.slice none 0 0] 34)).alloc (.cells #[.slice none 0 0, .int .i64 0] 56)).alloc (.cells #[.int .i64 0] 28)).drew = W0 at J hHeld ⊢
      refine take_ (i := 0) (N := some 17) (v := ?_) (a' := ?_) #[true, false, false, false] rfl rfl (by kernel_rfl) (fun c_ a_ w_ h => hq_put 17 _ (by decide) c_ a_ w_ h) (Or.inl ⟨by rfl, ?_⟩) hHeld ?_ ?_
      rotate_left
      · rintro w' hw
        have hc0 := blk_cell hw 0; have hc1 := blk_cell hw 1
        go_simp
        with_reducible rfl
      rotate_left
      · simp only [Act.put, List.setIfInBounds_toArray, List.set_cons_zero, List.set_cons_succ, i64_w, i32_w]
        rfl
      have hcz := blk_cell J.xL 0
      have hfz := blk_frozen J.xL 0
      refine one_ (i := 1) (N := none) #[true, true, false, false] rfl rfl (by kernel_rfl) (by decide) (fun K hK => ?_)
      refine skip_ (w1 := ?_) (by rfl) rfl ?_ ?_
      rotate_left
      · go_simp
        rfl
      replace J := J.set0 (Nat.le_refl _) (.slice none 0 0)
      clear hcz hfz
      refine hK.out _ _ J.xS (fun hHeld => ?_)
      clear hK K
      revert J
      generalize W0.setCell _ _ = W1
      intro J
      have hcz := blk_cell J.xS 0
      have hfz := blk_frozen J.xS 0
      have hcz1 := blk_cell J.xS 1
      have hfz1 := blk_frozen J.xS 1
      refine one_ (i := 2) (N := none) #[true, true, true, false] rfl rfl (by kernel_rfl) (by decide) (fun K hK => ?_)
      refine skip_ (w1 := ?_) (by rfl) rfl ?_ ?_
      rotate_left
      · go_simp
        rfl
      replace J := (J.set1 (by omega) (.slice none 0 0)).set2 (by omega) (.int .i64 0)
      clear hcz hfz hcz1 hfz1
      refine hK.out _ _ J.xS (fun hHeld => ?_)
      clear hK K
      revert J
      generalize (W1.setCell _ _).setCell _ _ = W2
      intro J
      have hcz := blk_cell J.xE 0
      have hfz := blk_frozen J.xE 0
      refine last_ (i := 3) (N := none) #[true, true, true, true] rfl rfl (by kernel_rfl) (by decide) (fun K hK => ?_)
      refine skip_ (w1 := ?_) (by rfl) rfl ?_ ?_
      rotate_left
      · go_simp
        rfl
      replace J := J.set3 (by omega) (.int .i64 1)
      clear hcz hfz
      refine hK.out _ _ ?_
      clear hK K
      revert J
      generalize W2.setCell _ _ = W3
      intro J
      refine done_ (by kernel_rfl) ?_
      have HJ := Aside0.mk J
      clear J
      go_wp2_with fail
      refine ⟨_, results_made rfl rfl rfl HJ.out.xL HJ.out.xS HJ.out.xE, ?_⟩
      rw [HMF.out]
      exact ⟨_, _, rfl, Row.nil _ _ _ _, Kd.N_nil _ _ _ _ _, HJ.out.below⟩
    · go_wp2_with fail
      refine start_ (n := 4) (S := fun V => V.heap[w.heap.size + 1]? = some (.cells #[.slice none 0 0, .int .i64 0] 56 (0, 0))) (ds := [3]) #[false, false, false, false] (by kernel_rfl) rfl rfl J.xS (fun hHeld => ?_)
      generalize (((w.alloc (.cells #[.slice none 0 0] 34)).alloc (.cells #[.slice none 0 0, .int .i64 0] 56)).alloc (.cells #[.int .i64 0] 28)).drew = W0 at J hHeld ⊢
      refine take_ (i := 0) (N := some 17) (v := ?_) (a' := ?_) #[true, false, false, false] rfl rfl (by kernel_rfl) (fun c_ a_ w_ h => hq_put 17 _ (by decide) c_ a_ w_ h) (Or.inl ⟨by rfl, ?_⟩) hHeld ?_ ?_
      rotate_left
      · rintro w' hw
        have hc0 := blk_cell hw 0; have hc1 := blk_cell hw 1
        go_simp
        with_reducible rfl
      rotate_left
      · simp only [Act.put, List.setIfInBounds_toArray, List.set_cons_zero, List.set_cons_succ, i64_w, i32_w]
        rfl
      have hcz := blk_cell J.xL 0
      have hfz := blk_frozen J.xL 0
      refine one_ (i := 1) (N := none) #[true, true, false, false] rfl rfl (by kernel_rfl) (by decide) (fun K hK => ?_)
      refine skip_ (w1 := ?_) (by rfl) rfl ?_ ?_
      rotate_left
      · go_simp
        rfl
      replace J := J.set0 (Nat.le_refl _) (.slice none 0 0)
      clear hcz hfz
      refine hK.out _ _ J.xS (fun hHeld => ?_)
      clear hK K
      revert J
      generalize W0.setCell _ _ = W1
      intro J
      have hcz := blk_cell J.xS 0
      have hfz := blk_frozen J.xS 0
      have hcz1 := blk_cell J.xS 1
      have hfz1 := blk_frozen J.xS 1
      refine one_ (i := 2) (N := none) #[true, true, true, false] rfl rfl (by kernel_rfl) (by decide) (fun K hK => ?_)
      refine skip_ (w1 := ?_) (by rfl) rfl ?_ ?_
      rotate_left
      · go_simp
        rfl
      replace J := (J.set1 (by omega) (.slice none 0 0)).set2 (by omega) (.int .i64 0)
      clear hcz hfz hcz1 hfz1
      refine hK.out _ _ J.xS (fun hHeld => ?_)
      clear hK K
      revert J
      generalize (W1.setCell _ _).setCell _ _ = W2
      intro J
      have hcz := blk_cell J.xE 0
      have hfz := blk_frozen J.xE 0
      refine last_ (i := 3) (N := none) #[true, true, true, true] rfl rfl (by kernel_rfl) (by decide) (fun K hK => ?_)
      refine skip_ (w1 := ?_) (by rfl) rfl ?_ ?_
      rotate_left
      · go_simp
        rfl
      replace J := J.set3 (by omega) (.int .i64 1)
      clear hcz hfz
      refine hK.out _ _ ?_
      clear hK K
      revert J
      generalize W2.setCell _ _ = W3
      intro J
      refine done_ (by kernel_rfl) ?_
      have HJ := Aside0.mk J
      clear J
      go_wp2_with fail
      refine ⟨_, results_made rfl rfl rfl HJ.out.xL HJ.out.xS HJ.out.xE, ?_⟩
      rw [HMF.out]
      exact ⟨_, _, rfl, Row.nil _ _ _ _, Kd.N_nil _ _ _ _ _, HJ.out.below⟩
  · have h2 : ¬ next < 1 ∧ ¬ 65537 < next := by omega
    obtain ⟨h3, h4⟩ := h2
    have HMF : Aside0 (madeF ts next = if madeE ts next = 0 then ((litsF ts next).1, (litsF ts next).2.1, (litsF ts next).2.2, 0) else ([], [], 0, madeE ts next)) := ⟨by
      unfold madeF
      rw [if_neg h3, if_neg h4]⟩
    clear h1
    go_wp2_with (go_at_call 51; obtain ⟨w1, hw1⟩ : ∃ w1, ((w.alloc (.cells #[.slice none 0 0] 34)).alloc (.cells #[.slice none 0 0, .int .i64 0] 56)).alloc (.cells #[.int .i64 0] 28) = w1 := ⟨_, rfl⟩; rw [hw1] at HB0 HL0 HS0 HE0 HZ0 ⊢; clear hw1; refine (kinds.calls w1).mono ?_; rintro e w2 ⟨rfl, hm, hb⟩; rw [HZ0.out] at hm ⊢; have HM0 : Aside0 (Made w w2.heap.size (w.heap.size + 3) (w2.alloc (.cells #[.slice none 0 0, .int .i64 next, .map (some (w.heap.size + 3))] 85)) (.slice none 0 0) (.slice none 0 0) next [] []) := ⟨Made.start HB0.out HL0.out HS0.out HE0.out HZ0.out hm hb⟩; clear hm hb HB0 HL0 HS0 HE0 HZ0)
    obtain ⟨G, hG⟩ : ∃ G, w2.heap.size = G := ⟨_, rfl⟩
    rw [hG] at HM0 ⊢
    clear hG
    go_loopw [26] (fun v26 wr => ∃ (i : Int) (lv vl : Value) (nx : Int), 0 ≤ i ∧ i ≤ ts.length ∧ v26 = .int .i64 i ∧ (litsF (ts.take i.toNat) next).2.2 = nx ∧ 1 ≤ nx ∧ nx ≤ 65537 ∧ Aside0 (madeE ts next = madeE (ts.drop i.toNat) nx) ∧ Aside0 (Made w G (w.heap.size + 3) wr lv vl nx (litsF (ts.take i.toNat) next).1 (litsF (ts.take i.toNat) next).2.1)) (fun v26 _ => (ts.length - intOf v26).toNat)
    case atStart => exact ⟨0, _, _, next, by omega, by omega, rfl, rfl, by omega, by omega, ⟨by simp⟩, HM0⟩
    case round =>
      clear HM0
      obtain ⟨i, lv, vl, nx, hi0, hi1, rfl, hnx, hn1, hn2, HX, HI⟩ := hrel
      by_cases hlt : i < ts.length
      · have hmem := rd_T24_mem ts i hi0 hlt
        have hsz1 : sizeT (rd_T24 ts i) ≤ 1048576 := HSZ.out _ hmem
        obtain ⟨ad, A3, c3, rfl, x0, x1, x2, x3, hl3, hi3⟩ := at_T24 HC.out i hi0 hlt
        have HBW0 := Aside0.mk HI.out.below
        replace x0 := (HBW0.out.cell (World.block_lt_of_cell? w _ x0)).trans x0
        replace x1 := (HBW0.out.cell (World.block_lt_of_cell? w _ x1)).trans x1
        replace x2 := (HBW0.out.cell (World.block_lt_of_cell? w _ x2)).trans x2
        replace x3 := (HBW0.out.cell (World.block_lt_of_cell? w _ x3)).trans x3
        have HI3 := Aside0.mk hi3
        have hsn := litsF_snoc (ts.take i.toNat) (rd_T24 ts i) next
        rw [← take_T24 ts i hi0 hlt, hnx] at hsn
        have HSN := Aside0.mk hsn
        have hll : ((litsF (ts.take i.toNat) next).2.1.length : Int) ≤ 2 * nx := by have := (litsF_grows (ts.take i.toNat) next).2; omega
        have HLL := Aside0.mk hll
        have HLN : Aside0 (((litsF (ts.take i.toNat) next).1.length + 1) * 8 ≤ 140737488355328) := ⟨by rw [litsF_length]; simp; omega⟩
        have hdr : madeE (ts.drop i.toNat) nx = if checkF (rd_T24 ts i) (nx - 1) ≠ 0 then checkF (rd_T24 ts i) (nx - 1) else if wideT (rd_T24 ts i) = true then 2 else if 65537 < (litF (rd_T24 ts i) nx).2.2 then 2 else madeE (ts.drop (i + 1).toNat) (litF (rd_T24 ts i) nx).2.2 := by
          have e : (i + 1).toNat = i.toNat + 1 := by omega
          have hlt' : i.toNat < ts.length := by omega
          rw [List.drop_eq_getElem_cons hlt', e]
          simp [madeE, rd_T24, List.getD_eq_getElem?_getD, List.getElem?_eq_getElem hlt']
        have HDR := Aside0.mk hdr
        have HWN : Aside0 (IntKind.i64.wrap (nx - 1) = nx - 1) := ⟨(IntWalk.i64_left _).trans (IntWalk.wrap64_in _ (by omega))⟩
        have HJ := Aside0.mk (HI.out.step (below_alloc (Below.refl wr.heap.size wr) (.cells #[.int .i64 (rd_T24 ts i).f0, .int .i64 (rd_T24 ts i).f1, .int .i64 (rd_T24 ts i).f2, .slice A3 (rd_T24 ts i).f3.length c3] 24)))
        have HBX : Aside0 ((wr.alloc (.cells #[.int .i64 (rd_T24 ts i).f0, .int .i64 (rd_T24 ts i).f1, .int .i64 (rd_T24 ts i).f2, .slice A3 (rd_T24 ts i).f3.length c3] 24)).heap[wr.heap.size]? = some (.cells #[.int .i64 (rd_T24 ts i).f0, .int .i64 (rd_T24 ts i).f1, .int .i64 (rd_T24 ts i).f2, .slice A3 (rd_T24 ts i).f3.length c3] 24 (0, 0))) := ⟨blk_new _ _⟩
        have HBWX := Aside0.mk (below_step HBW0.out (below_alloc (Below.refl wr.heap.size wr) (.cells #[.int .i64 (rd_T24 ts i).f0, .int .i64 (rd_T24 ts i).f1, .int .i64 (rd_T24 ts i).f2, .slice A3 (rd_T24 ts i).f3.length c3] 24)))
        clear hi3 hsn hll hdr hmem HI HBW0
        go_wp2_with fail
        clear x0 x1 x2 x3
        refine start_ (n := 9) (S := fun V => V.heap[wr.heap.size]? = some (.cells #[.int .i64 (rd_T24 ts i).f0, .int .i64 (rd_T24 ts i).f1, .int .i64 (rd_T24 ts i).f2, .slice A3 (rd_T24 ts i).f3.length c3] 24 (0, 0)) ∧ V.heap[G]? = some (.cells #[vl, .int .i64 nx, .map (some (w.heap.size + 3))] 85 (0, 0))) (ds := [7]) #[false, false, false, false, false, false, false, false, false] (by kernel_rfl) rfl rfl ⟨HBX.out, HJ.out.xG⟩ (fun hHeld => ?_)
        replace HJ := Aside0.mk (HJ.out.step (below_drew (Below.refl _ _)))
        replace HBX : Aside0 (_) := ⟨blk_drew HBX.out⟩
        replace HBWX := Aside0.mk (HBWX.out.drew)
        generalize (wr.alloc (.cells #[.int .i64 (rd_T24 ts i).f0, .int .i64 (rd_T24 ts i).f1, .int .i64 (rd_T24 ts i).f2, .slice A3 (rd_T24 ts i).f3.length c3] 24)).drew = W0 at HJ HBX HBWX hHeld ⊢
        refine pure_ (i := 1) (N := some 31) (v := ?_) (a' := ?_) #[false, true, false, false, false, false, false, false, false] rfl rfl (by kernel_rfl) (fun c_ a_ w_ h => hq_put 31 _ (by decide) c_ a_ w_ h) (Or.inl ⟨by rfl, ?_⟩) ?_ ?_
        rotate_left
        · intro w'
          go_simp
          with_reducible rfl
        rotate_left
        · simp only [Act.put, List.setIfInBounds_toArray, List.set_cons_zero, List.set_cons_succ, i64_w, i32_w]
          rfl
        refine pure_ (i := 2) (N := some 32) (v := ?_) (a' := ?_) #[false, true, true, false, false, false, false, false, false] rfl rfl (by kernel_rfl) (fun c_ a_ w_ h => hq_put 32 _ (by decide) c_ a_ w_ h) (Or.inl ⟨by rfl, ?_⟩) ?_ ?_
        rotate_left
        · intro w'
          go_simp
          with_reducible rfl
        rotate_left
        · simp only [Act.put, List.setIfInBounds_toArray, List.set_cons_zero, List.set_cons_succ, i64_w, i32_w]
          rfl
        refine pure_ (i := 3) (N := some 33) (v := ?_) (a' := ?_) #[false, true, true, true, false, false, false, false, false] rfl rfl (by kernel_rfl) (fun c_ a_ w_ h => hq_put 33 _ (by decide) c_ a_ w_ h) (Or.inl ⟨by rfl, ?_⟩) ?_ ?_
        rotate_left
        · intro w'
          go_simp
          with_reducible rfl
        rotate_left
        · simp only [Act.put, List.setIfInBounds_toArray, List.set_cons_zero, List.set_cons_succ, i64_w, i32_w]
          rfl
        refine pure_ (i := 4) (N := some 34) (v := ?_) (a' := ?_) #[false, true, true, true, true, false, false, false, false] rfl rfl (by kernel_rfl) (fun c_ a_ w_ h => hq_put 34 _ (by decide) c_ a_ w_ h) (Or.inl ⟨by rfl, ?_⟩) ?_ ?_
        rotate_left
        · intro w'
          go_simp
          with_reducible rfl
        rotate_left
        · simp only [Act.put, List.setIfInBounds_toArray, List.set_cons_zero, List.set_cons_succ, i64_w, i32_w]
          rfl
        refine take_ (i := 0) (N := some 30) (v := ?_) (a' := ?_) #[true, true, true, true, true, false, false, false, false] rfl rfl (by kernel_rfl) (fun c_ a_ w_ h => hq_put 30 _ (by decide) c_ a_ w_ h) (Or.inl ⟨by rfl, ?_⟩) hHeld ?_ ?_
        rotate_left
        · rintro w' ⟨hw0, hw1⟩
          have hc0 := blk_cell hw0 0; have hc1 := blk_cell hw0 1; have hc2 := blk_cell hw0 2; have hc3 := blk_cell hw0 3
          go_simp
          with_reducible rfl
        rotate_left
        · simp only [Act.put, List.setIfInBounds_toArray, List.set_cons_zero, List.set_cons_succ, i64_w, i32_w]
          rfl
        refine take_ (i := 5) (N := some 35) (v := ?_) (a' := ?_) #[true, true, true, true, true, true, false, false, false] rfl rfl (by kernel_rfl) (fun c_ a_ w_ h => hq_put 35 _ (by decide) c_ a_ w_ h) (Or.inl ⟨by rfl, ?_⟩) hHeld ?_ ?_
        rotate_left
        · rintro w' ⟨hw0, hw1⟩
          have hc0 := blk_cell hw1 1
          go_simp
          with_reducible rfl
        rotate_left
        · simp only [Act.put, List.setIfInBounds_toArray, List.set_cons_zero, List.set_cons_succ, i64_w, i32_w]
          rfl
        refine pure_ (i := 6) (N := some 36) (v := ?_) (a' := ?_) #[true, true, true, true, true, true, true, false, false] rfl rfl (by kernel_rfl) (fun c_ a_ w_ h => hq_put 36 _ (by decide) c_ a_ w_ h) (Or.inl ⟨by rfl, ?_⟩) ?_ ?_
        rotate_left
        · intro w'
          go_simp
          rw [HWN.out]
        rotate_left
        · simp only [Act.put, List.setIfInBounds_toArray, List.set_cons_zero, List.set_cons_succ, i64_w, i32_w]
          rfl
        refine last_ (i := 7) (N := some 37) #[true, true, true, true, true, true, true, true, false] rfl rfl (by kernel_rfl) (by decide) (fun K hK => ?_)
        refine goes_ Try.func21 (by kernel_rfl) rfl #[.agg #[.int .i64 (rd_T24 ts i).f0, .int .i64 (rd_T24 ts i).f1, .int .i64 (rd_T24 ts i).f2, .slice A3 (rd_T24 ts i).f3.length c3], .int .i64 (nx - 1)] (by rfl) rfl rfl (by simp only [List.map_toArray, List.map_cons, List.map_nil]; rfl) ?_
        refine (callsIn_wide.1 (Check.calls (rd_T24 ts i) A3 c3 (nx - 1) W0 (Kd.C_below HI3.out HBWX.out) hl3 hsz1)).mono ?_
        rintro e w4 ⟨rfl, hb4⟩
        refine ⟨_, rfl, ?_⟩
        replace HJ := Aside0.mk (HJ.out.step hb4)
        replace HBX := Aside0.mk (blk_below HBX.out hb4)
        replace HBWX := Aside0.mk (below_step HBWX.out hb4)
        clear hb4
        refine hK.out _ _ ?_
        clear hK K
        refine norm_ (a' := ?_) ?_ ?_
        rotate_left
        · show Act.put _ (some 37) _ = _
          simp only [Act.put, List.setIfInBounds_toArray, List.set_cons_zero, List.set_cons_succ, i64_w, i32_w]
          rfl
        refine pure_ (i := 8) (N := some 10) (v := ?_) (a' := ?_) #[true, true, true, true, true, true, true, true, true] rfl rfl (by kernel_rfl) (fun c_ a_ w_ h => hq_put 10 _ (by decide) c_ a_ w_ h) (Or.inl ⟨by rfl, ?_⟩) ?_ ?_
        rotate_left
        · intro w'
          go_simp
          with_reducible rfl
        rotate_left
        · simp only [Act.put, List.setIfInBounds_toArray, List.set_cons_zero, List.set_cons_succ, i64_w, i32_w]
          rfl
        refine done_ (by kernel_rfl) ?_
        generalize hce : checkF (rd_T24 ts i) (nx - 1) = ce at HDR ⊢
        clear HWN
        by_cases h0 : ce = 0
        · subst h0
          have HFT := Aside0.mk (checkF_zero hce)
          replace HX := Aside0.mk (HX.out.trans HDR.out)
          clear HDR hce
          have y0 : w4.cell? ⟨wr.heap.size, 0, none⟩ = some (.int .i64 (rd_T24 ts i).f0) := (blk_cell HBX.out 0).trans rfl
          have y1 : w4.cell? ⟨wr.heap.size, 1, none⟩ = some (.int .i64 (rd_T24 ts i).f1) := (blk_cell HBX.out 1).trans rfl
          have y2 : w4.cell? ⟨wr.heap.size, 2, none⟩ = some (.int .i64 (rd_T24 ts i).f2) := (blk_cell HBX.out 2).trans rfl
          have y3 : w4.cell? ⟨wr.heap.size, 3, none⟩ = some (.slice A3 (rd_T24 ts i).f3.length c3) := (blk_cell HBX.out 3).trans rfl
          generalize hwd : wideT (rd_T24 ts i) = wd at HX
          go_wp2_with (go_at_call 53; refine (wide.calls 1048576 (Nat.le_refl _) (rd_T24 ts i) A3 c3 w _ hsz1 HBWX.out HI3.out hl3).mono ?_; rintro e w5 ⟨rfl, hb5⟩; replace HJ := Aside0.mk (HJ.out.step hb5); replace HBX := Aside0.mk (blk_below HBX.out hb5); replace HBWX := Aside0.mk (below_step HBWX.out hb5); rw [hwd]; clear hb5; clear y0 y1 y2 y3; cases wd)
          · have HWT := Aside0.mk hwd
            replace HX : Aside0 (madeE ts next = if 65537 < (litF (rd_T24 ts i) nx).2.2 then 2 else madeE (ts.drop (i + 1).toNat) (litF (rd_T24 ts i) nx).2.2) := ⟨by rw [HX.out]; simp⟩
            clear hwd
            by_cases hbig : 65537 < (litF (rd_T24 ts i) nx).2.2
            · have HME : Aside0 (madeF ts next = ([], [], 0, 2)) := ⟨by rw [HMF.out, HX.out, if_pos hbig]; rfl⟩
              clear HX HSN HMF
              go_wp2_with fail
              refine start_ (n := 7) (S := fun V => V.heap[w.heap.size]? = some (.cells #[lv] 34 (0, 0)) ∧ V.heap[wr.heap.size]? = some (.cells #[.int .i64 (rd_T24 ts i).f0, .int .i64 (rd_T24 ts i).f1, .int .i64 (rd_T24 ts i).f2, .slice A3 (rd_T24 ts i).f3.length c3] 24 (0, 0))) (ds := [6]) #[false, false, false, false, false, false, false] (by kernel_rfl) rfl rfl ⟨HJ.out.xL, HBX.out⟩ (fun hHeld => ?_)
              replace HJ := Aside0.mk (HJ.out.step (below_drew (Below.refl _ _)))
              replace HBX : Aside0 (_) := ⟨blk_drew HBX.out⟩
              replace HBWX := Aside0.mk (HBWX.out.drew)
              generalize w5.drew = W0 at HJ HBX HBWX hHeld ⊢
              have HLC := Aside0.mk (literal.calls (nx - 1) (by omega) w (w.heap.size + 3) G (w.heap.size + 3) (by omega) HJ.out.gG (Nat.le_refl _) 1048576 (rd_T24 ts i) _ vl (litsF (ts.take i.toNat) next).2.1 nx A3 c3 W0 hsz1 HBWX.out HI3.out hl3 HFT.out HWT.out HJ.out.xG HJ.out.map HJ.out.row (fun k hk => hk.2.1) (by omega) (by omega) (by have := HLL.out; omega))
              refine take_ (i := 0) (N := some 47) (v := ?_) (a' := ?_) #[true, false, false, false, false, false, false] rfl rfl (by kernel_rfl) (fun c_ a_ w_ h => hq_put 47 _ (by decide) c_ a_ w_ h) (Or.inl ⟨by rfl, ?_⟩) hHeld ?_ ?_
              rotate_left
              · rintro w' ⟨hw0, hw1⟩
                have hc0 := blk_cell hw0 0
                go_simp
                with_reducible rfl
              rotate_left
              · simp only [Act.put, List.setIfInBounds_toArray, List.set_cons_zero, List.set_cons_succ, i64_w, i32_w]
                rfl
              refine pure_ (i := 1) (N := some 48) (v := ?_) (a' := ?_) #[true, true, false, false, false, false, false] rfl rfl (by kernel_rfl) (fun c_ a_ w_ h => hq_put 48 _ (by decide) c_ a_ w_ h) (Or.inl ⟨by rfl, ?_⟩) ?_ ?_
              rotate_left
              · intro w'
                go_simp
                with_reducible rfl
              rotate_left
              · simp only [Act.put, List.setIfInBounds_toArray, List.set_cons_zero, List.set_cons_succ, i64_w, i32_w]
                rfl
              refine take_ (i := 2) (N := some 49) (v := ?_) (a' := ?_) #[true, true, true, false, false, false, false] rfl rfl (by kernel_rfl) (fun c_ a_ w_ h => hq_put 49 _ (by decide) c_ a_ w_ h) (Or.inl ⟨by rfl, ?_⟩) hHeld ?_ ?_
              rotate_left
              · rintro w' ⟨hw0, hw1⟩
                have hc0 := blk_cell hw1 0; have hc1 := blk_cell hw1 1; have hc2 := blk_cell hw1 2; have hc3 := blk_cell hw1 3
                go_simp
                with_reducible rfl
              rotate_left
              · simp only [Act.put, List.setIfInBounds_toArray, List.set_cons_zero, List.set_cons_succ, i64_w, i32_w]
                rfl
              refine one_ (i := 3) (N := some 50) #[true, true, true, true, false, false, false] rfl rfl (by kernel_rfl) (by decide) (fun K hK => ?_)
              refine callp_step 54 #[.pointer (some ⟨G, 0, none⟩), .agg #[.int .i64 (rd_T24 ts i).f0, .int .i64 (rd_T24 ts i).f1, .int .i64 (rd_T24 ts i).f2, .slice A3 (rd_T24 ts i).f3.length c3]] (by rfl) ?hrun_ ?_
              case hrun_ => have he := enters_ (P := Try.prog) Try.func54 (by kernel_rfl) rfl; unfold execOp; simp [resolve, Deferred.ofValue, invoke, Act.eval, he]
              refine HLC.out.mono ?_
              rintro e w6 (⟨hle2, _⟩ | ⟨_, rfl, hb6⟩)
              · omega
              refine ⟨_, rfl, ?_⟩
              replace HJ : Aside0 (CJ0 w.heap.size w.heap.size (w.heap.size + 1) (w.heap.size + 1 + 1) w w6 lv (.slice none 0 0) (.int .i64 0) (.int .i64 0)) := ⟨HJ.out.below.trans (hb6.mono (by omega)), (hb6.block _ (by omega)).trans HJ.out.xL, (hb6.block _ (by omega)).trans HJ.out.xS, (hb6.block _ (by omega)).trans HJ.out.xE⟩
              clear hK K HLC hb6
              refine leaves_cons (f := 52) (args := #[.pointer (some ⟨w.heap.size, 0, none⟩), .pointer (some ⟨w.heap.size + 1, 0, none⟩), .pointer (some ⟨w.heap.size + 1 + 1, 0, none⟩)]) (by simp) (by simp [go_sem]) ?_
              refine (catch_stop w.heap.size _ _ _ _ _ _ _ 2 [] _ HJ.out.below.size (by omega) (by omega) (by omega) HJ.out.xL HJ.out.xS HJ.out.xE).mono ?_
              rintro e u' w' ⟨rfl, rfl, hb5, yL, yS, yE⟩
              refine ⟨_, results_made rfl rfl rfl yL yS yE, ?_⟩
              rw [HME.out]
              exact ⟨_, _, rfl, Row.nil _ _ _ _, Kd.N_nil _ _ _ _ _, HJ.out.below.trans hb5⟩
            · rw [if_neg hbig] at HX
              go_wp2_with fail
              refine start_ (n := 7) (S := fun V => V.heap[w.heap.size]? = some (.cells #[lv] 34 (0, 0)) ∧ V.heap[wr.heap.size]? = some (.cells #[.int .i64 (rd_T24 ts i).f0, .int .i64 (rd_T24 ts i).f1, .int .i64 (rd_T24 ts i).f2, .slice A3 (rd_T24 ts i).f3.length c3] 24 (0, 0))) (ds := [6]) #[false, false, false, false, false, false, false] (by kernel_rfl) rfl rfl ⟨HJ.out.xL, HBX.out⟩ (fun hHeld => ?_)
              replace HJ := Aside0.mk (HJ.out.step (below_drew (Below.refl _ _)))
              replace HBX : Aside0 (_) := ⟨blk_drew HBX.out⟩
              replace HBWX := Aside0.mk (HBWX.out.drew)
              generalize w5.drew = W0 at HJ HBX HBWX hHeld ⊢
              have HLC := Aside0.mk (literal.calls (nx - 1) (by omega) w (w.heap.size + 3) G (w.heap.size + 3) (by omega) HJ.out.gG (Nat.le_refl _) 1048576 (rd_T24 ts i) _ vl (litsF (ts.take i.toNat) next).2.1 nx A3 c3 W0 hsz1 HBWX.out HI3.out hl3 HFT.out HWT.out HJ.out.xG HJ.out.map HJ.out.row (fun k hk => hk.2.1) (by omega) (by omega) (by have := HLL.out; omega))
              refine take_ (i := 0) (N := some 47) (v := ?_) (a' := ?_) #[true, false, false, false, false, false, false] rfl rfl (by kernel_rfl) (fun c_ a_ w_ h => hq_put 47 _ (by decide) c_ a_ w_ h) (Or.inl ⟨by rfl, ?_⟩) hHeld ?_ ?_
              rotate_left
              · rintro w' ⟨hw0, hw1⟩
                have hc0 := blk_cell hw0 0
                go_simp
                with_reducible rfl
              rotate_left
              · simp only [Act.put, List.setIfInBounds_toArray, List.set_cons_zero, List.set_cons_succ, i64_w, i32_w]
                rfl
              refine pure_ (i := 1) (N := some 48) (v := ?_) (a' := ?_) #[true, true, false, false, false, false, false] rfl rfl (by kernel_rfl) (fun c_ a_ w_ h => hq_put 48 _ (by decide) c_ a_ w_ h) (Or.inl ⟨by rfl, ?_⟩) ?_ ?_
              rotate_left
              · intro w'
                go_simp
                with_reducible rfl
              rotate_left
              · simp only [Act.put, List.setIfInBounds_toArray, List.set_cons_zero, List.set_cons_succ, i64_w, i32_w]
                rfl
              refine take_ (i := 2) (N := some 49) (v := ?_) (a' := ?_) #[true, true, true, false, false, false, false] rfl rfl (by kernel_rfl) (fun c_ a_ w_ h => hq_put 49 _ (by decide) c_ a_ w_ h) (Or.inl ⟨by rfl, ?_⟩) hHeld ?_ ?_
              rotate_left
              · rintro w' ⟨hw0, hw1⟩
                have hc0 := blk_cell hw1 0; have hc1 := blk_cell hw1 1; have hc2 := blk_cell hw1 2; have hc3 := blk_cell hw1 3
                go_simp
                with_reducible rfl
              rotate_left
              · simp only [Act.put, List.setIfInBounds_toArray, List.set_cons_zero, List.set_cons_succ, i64_w, i32_w]
                rfl
              refine one_ (i := 3) (N := some 50) #[true, true, true, true, false, false, false] rfl rfl (by kernel_rfl) (by decide) (fun K hK => ?_)
              refine goes_ Try.func54 (by kernel_rfl) rfl #[.pointer (some ⟨G, 0, none⟩), .agg #[.int .i64 (rd_T24 ts i).f0, .int .i64 (rd_T24 ts i).f1, .int .i64 (rd_T24 ts i).f2, .slice A3 (rd_T24 ts i).f3.length c3]] (by rfl) rfl rfl (by simp only [List.map_toArray, List.map_cons, List.map_nil]; rfl) ?_
              refine HLC.out.mono ?_
              rintro e w6 (⟨_, rfl, vl2, hp⟩ | ⟨hgt2, _⟩)
              rotate_left
              · omega
              refine ⟨_, rfl, ?_⟩
              have HJ6 := Aside0.mk (HJ.out.call hp)
              have hbx6 := blk_kept HBX.out hp.kept (HJ.out.away HBX.out (by decide) (by decide))
              clear hp HJ HLC
              refine hK.out _ _ ⟨HJ6.out.xL, hbx6⟩ (fun hHeld => ?_)
              clear hK K hbx6
              refine norm_ (a' := ?_) ?_ ?_
              rotate_left
              · show Act.put _ (some 50) _ = _
                simp only [Act.put, List.setIfInBounds_toArray, List.set_cons_zero, List.set_cons_succ, i64_w, i32_w]
                rfl
              obtain ⟨x, hx⟩ : ∃ x, (litF (rd_T24 ts i) nx).1 = x := ⟨_, rfl⟩
              rw [hx] at HSN ⊢
              clear hx
              refine one_ (i := 4) (N := some 51) #[true, true, true, true, true, false, false] rfl rfl (by kernel_rfl) (by decide) (fun K hK => ?_)
              refine lit1_step (y := .int .i64 x) (e := 3) (by rfl) ?hr_ ?_
              case hr_ => first | (go_simp; done) | (go_simp; rfl)
              intro b7 hb7 W7 c7 l7
              have HJ7 := Aside0.mk (HJ6.out.step l7)
              have hbx7 := blk_below hHeld.2 l7
              clear HJ6
              refine hK.out _ _ ⟨HJ7.out.xL, hbx7⟩ (fun hHeld => ?_)
              clear hK K hbx7 hb7 l7
              refine norm_ (a' := ?_) ?_ ?_
              rotate_left
              · show Act.put _ (some 51) _ = _
                simp only [Act.put, List.setIfInBounds_toArray, List.set_cons_zero, List.set_cons_succ, i64_w, i32_w]
                rfl
              refine one_ (i := 5) (N := some 52) #[true, true, true, true, true, true, false] rfl rfl (by kernel_rfl) (by decide) (fun K hK => ?_)
              refine app1_step (enc := Value.int .i64) w.heap.size (.tmp 47) (.tmp 51) 34 3 (.int .i64 0) 8 (by rfl) (by rfl) Try.underlying34 info3 rfl (by decide) (fun _ => rfl) (v := lv) (y := x) (b := b7) (by rfl) (by rfl) HJ7.out.lrow c7 HJ7.out.below.size (by have := HLN.out; omega) ?_
              intro v8 W8 hr8 hg8 ha8 hn8
              have HJ8 := Aside0.mk (HJ7.out.app hg8 hr8 ha8)
              have yL := blk_grown HJ7.out.xL hg8 (fun e => HJ7.out.lrow.ne_block HJ7.out.xL (by decide) _ e.symm rfl)
              have yX := blk_grown hHeld.2 hg8 (fun e => HJ7.out.lrow.ne_block hHeld.2 (by decide) _ e.symm rfl)
              obtain ⟨A8, n8, c8, e8⟩ := hr8.form
              subst e8
              clear HJ7 hr8 hg8 ha8 hn8 c7
              refine hK.out _ _ ⟨yL, yX⟩ (fun hHeld => ?_)
              clear hK K
              refine norm_ (a' := ?_) ?_ ?_
              rotate_left
              · show Act.put _ (some 52) _ = _
                simp only [Act.put, List.setIfInBounds_toArray, List.set_cons_zero, List.set_cons_succ, i64_w, i32_w]
                rfl
              have hcz := blk_cell yL 0
              have hfz := blk_frozen yL 0
              refine last_ (i := 6) (N := none) #[true, true, true, true, true, true, true] rfl rfl (by kernel_rfl) (by decide) (fun K hK => ?_)
              refine skip_ (w1 := ?_) (by rfl) rfl ?_ ?_
              rotate_left
              · go_simp
                rfl
              refine hK.out _ _ ?_
              clear hK K hcz hfz yL yX
              revert HJ8
              generalize W8.setCell _ _ = W9
              intro HJ8
              refine done_ (by kernel_rfl) ?_
              go_wp2_with fail
              go_roundw
              case rel => exact ⟨i + 1, .slice A8 n8 c8, vl2, (litF (rd_T24 ts i) nx).2.2, by omega, by omega, by go_num, by rw [HSN.out], by have := (litF_grows (rd_T24 ts i) nx).1; omega, by omega, HX, ⟨by rw [HSN.out]; exact HJ8.out⟩⟩
              case measure => simp [intOf]; omega
          · have HME : Aside0 (madeF ts next = ([], [], 0, 2)) := ⟨by rw [HMF.out, HX.out]; rfl⟩
            clear HX HSN HLL HLN HMF hwd hsz1 hl3
            go_wp2_with fail
            refine leaves_cons (f := 52) (args := #[.pointer (some ⟨w.heap.size, 0, none⟩), .pointer (some ⟨w.heap.size + 1, 0, none⟩), .pointer (some ⟨w.heap.size + 1 + 1, 0, none⟩)]) (by simp) (by simp [go_sem]) ?_
            refine (catch_stop w.heap.size _ _ _ _ _ _ _ 2 [] _ HJ.out.below.size (by omega) (by omega) (by omega) HJ.out.xL HJ.out.xS HJ.out.xE).mono ?_
            rintro e u' w' ⟨rfl, rfl, hb5, yL, yS, yE⟩
            refine ⟨_, results_made rfl rfl rfl yL yS yE, ?_⟩
            rw [HME.out]
            exact ⟨_, _, rfl, Row.nil _ _ _ _, Kd.N_nil _ _ _ _ _, HJ.out.below.trans hb5⟩
        · have h0b : (ce != 0) = true := by simpa using h0
          have HME : Aside0 (madeF ts next = ([], [], 0, ce)) := ⟨by rw [HMF.out, HX.out, HDR.out]; simp [h0]⟩
          clear HDR HX HSN HLL HLN HMF hce h0 hsz1 hl3
          go_wp2_with fail
          refine leaves_cons (f := 52) (args := #[.pointer (some ⟨w.heap.size, 0, none⟩), .pointer (some ⟨w.heap.size + 1, 0, none⟩), .pointer (some ⟨w.heap.size + 1 + 1, 0, none⟩)]) (by simp) (by simp [go_sem]) ?_
          refine (catch_stop w.heap.size _ _ _ _ _ _ _ ce [] _ HJ.out.below.size (by omega) (by omega) (by omega) HJ.out.xL HJ.out.xS HJ.out.xE).mono ?_
          rintro e u' w' ⟨rfl, rfl, hb5, yL, yS, yE⟩
          refine ⟨_, results_made rfl rfl rfl yL yS yE, ?_⟩
          rw [HME.out]
          exact ⟨_, _, rfl, Row.nil _ _ _ _, Kd.N_nil _ _ _ _ _, HJ.out.below.trans hb5⟩
      · have hi : i = ts.length := by omega
        subst hi
        rw [Int.toNat_natCast, List.take_length] at HI hnx
        rw [Int.toNat_natCast, List.drop_length] at HX
        have HMF2 : Aside0 (madeF ts next = ((litsF ts next).1, (litsF ts next).2.1, nx, 0)) := ⟨by rw [HMF.out, HX.out, hnx]; rfl⟩
        have GNE : Aside0 (G ≠ w.heap.size ∧ G ≠ w.heap.size + 1 ∧ G ≠ w.heap.size + 1 + 1) := ⟨blk_ne HI.out.xG HI.out.xL (by decide), blk_ne HI.out.xG HI.out.xS (by decide), blk_ne HI.out.xG HI.out.xE (by decide)⟩
        clear hlt hi0 hi1 HMF HX hnx
        obtain ⟨A5, n5, c5, e5⟩ := HI.out.lrow.form
        obtain ⟨Av, cv, ev⟩ := Kd.N_slice HI.out.row
        obtain ⟨nv, hnv⟩ : ∃ n, n = (litsF ts next).2.1.length := ⟨_, rfl⟩
        rw [← hnv] at ev
        clear hnv
        subst e5 ev
        go_wp2_with fail
        refine start_ (n := 8) (S := fun V => V.heap[w.heap.size]? = some (.cells #[.slice A5 n5 c5] 34 (0, 0)) ∧ V.heap[G]? = some (.cells #[.slice Av nv cv, .int .i64 nx, .map (some (w.heap.size + 3))] 85 (0, 0))) (ds := [7]) #[false, false, false, false, false, false, false, false] (by kernel_rfl) rfl rfl ⟨HI.out.xL, HI.out.xG⟩ (fun hHeld => ?_)
        have J : CJ0 w.heap.size w.heap.size (w.heap.size + 1) (w.heap.size + 1 + 1) wr wr.drew (.slice A5 n5 c5) (.slice none 0 0) (.int .i64 0) (.int .i64 0) := ⟨(Below.refl _ _).drew, HI.out.xL, HI.out.xS, HI.out.xE⟩
        have hk := Kept.of_below (below_drew (Below.refl wr.heap.size wr)) (fun k => k = w.heap.size ∨ k = w.heap.size + 1 ∨ k = w.heap.size + 1 + 1)
        generalize wr.drew = W0 at J hk hHeld ⊢
        refine pure_ (i := 1) (N := some 55) (v := ?_) (a' := ?_) #[false, true, false, false, false, false, false, false] rfl rfl (by kernel_rfl) (fun c_ a_ w_ h => hq_put 55 _ (by decide) c_ a_ w_ h) (Or.inl ⟨by rfl, ?_⟩) ?_ ?_
        rotate_left
        · intro w'
          go_simp
          with_reducible rfl
        rotate_left
        · simp only [Act.put, List.setIfInBounds_toArray, List.set_cons_zero, List.set_cons_succ, i64_w, i32_w]
          rfl
        refine pure_ (i := 2) (N := some 56) (v := ?_) (a' := ?_) #[false, true, true, false, false, false, false, false] rfl rfl (by kernel_rfl) (fun c_ a_ w_ h => hq_put 56 _ (by decide) c_ a_ w_ h) (Or.inl ⟨by rfl, ?_⟩) ?_ ?_
        rotate_left
        · intro w'
          go_simp
          with_reducible rfl
        rotate_left
        · simp only [Act.put, List.setIfInBounds_toArray, List.set_cons_zero, List.set_cons_succ, i64_w, i32_w]
          rfl
        refine pure_ (i := 3) (N := some 57) (v := ?_) (a' := ?_) #[false, true, true, true, false, false, false, false] rfl rfl (by kernel_rfl) (fun c_ a_ w_ h => hq_put 57 _ (by decide) c_ a_ w_ h) (Or.inl ⟨by rfl, ?_⟩) ?_ ?_
        rotate_left
        · intro w'
          go_simp
          with_reducible rfl
        rotate_left
        · simp only [Act.put, List.setIfInBounds_toArray, List.set_cons_zero, List.set_cons_succ, i64_w, i32_w]
          rfl
        refine take_ (i := 0) (N := some 54) (v := ?_) (a' := ?_) #[true, true, true, true, false, false, false, false] rfl rfl (by kernel_rfl) (fun c_ a_ w_ h => hq_put 54 _ (by decide) c_ a_ w_ h) (Or.inl ⟨by rfl, ?_⟩) hHeld ?_ ?_
        rotate_left
        · rintro w' ⟨hw0, hw1⟩
          have hc0 := blk_cell hw0 0
          go_simp
          with_reducible rfl
        rotate_left
        · simp only [Act.put, List.setIfInBounds_toArray, List.set_cons_zero, List.set_cons_succ, i64_w, i32_w]
          rfl
        refine take_ (i := 4) (N := some 58) (v := ?_) (a' := ?_) #[true, true, true, true, true, false, false, false] rfl rfl (by kernel_rfl) (fun c_ a_ w_ h => hq_put 58 _ (by decide) c_ a_ w_ h) (Or.inl ⟨by rfl, ?_⟩) hHeld ?_ ?_
        rotate_left
        · rintro w' ⟨hw0, hw1⟩
          have hc0 := blk_cell hw1 0; have hc1 := blk_cell hw1 1
          go_simp
          with_reducible rfl
        rotate_left
        · simp only [Act.put, List.setIfInBounds_toArray, List.set_cons_zero, List.set_cons_succ, i64_w, i32_w]
          rfl
        have hcz := blk_cell J.xL 0
        have hfz := blk_frozen J.xL 0
        refine one_ (i := 5) (N := none) #[true, true, true, true, true, true, false, false] rfl rfl (by kernel_rfl) (by decide) (fun K hK => ?_)
        refine skip_ (w1 := ?_) (by rfl) rfl ?_ ?_
        rotate_left
        · go_simp
          rfl
        have xG5 := blk_far hHeld.2 (k := 0) (fun e => GNE.out.1 e) (.slice A5 n5 c5)
        replace J := J.set0 (Nat.le_refl _) (.slice A5 n5 c5)
        replace hk := hk.setCell (p := ⟨w.heap.size, 0, none⟩) (.inl (.inl rfl)) (.slice A5 n5 c5)
        clear hcz hfz
        refine hK.out _ _ ⟨J.xL, xG5⟩ (fun hHeld => ?_)
        clear hK K xG5
        revert J hk hHeld
        generalize W0.setCell _ _ = W1
        intro J hk hHeld
        have hcz := blk_cell J.xS 0
        have hfz := blk_frozen J.xS 0
        have hcz1 := blk_cell J.xS 1
        have hfz1 := blk_frozen J.xS 1
        refine one_ (i := 6) (N := none) #[true, true, true, true, true, true, true, false] rfl rfl (by kernel_rfl) (by decide) (fun K hK => ?_)
        refine skip_ (w1 := ?_) (by rfl) rfl ?_ ?_
        rotate_left
        · go_simp
          rfl
        have xG6 := blk_far (blk_far hHeld.2 (k := 0) (fun e => GNE.out.2.1 e) (.slice Av nv cv)) (k := 1) (fun e => GNE.out.2.1 e) (.int .i64 nx)
        replace J := (J.set1 (by omega) (.slice Av nv cv)).set2 (by omega) (.int .i64 nx)
        replace hk := (hk.setCell (p := ⟨w.heap.size + 1, 0, none⟩) (.inl (.inr (.inl rfl))) (.slice Av nv cv)).setCell (p := ⟨w.heap.size + 1, 1, none⟩) (.inl (.inr (.inl rfl))) (.int .i64 nx)
        clear hcz hfz hcz1 hfz1
        refine hK.out _ _ ⟨J.xL, xG6⟩ (fun hHeld => ?_)
        clear hK K xG6
        revert J hk hHeld
        generalize (W1.setCell _ _).setCell _ _ = W2
        intro J hk hHeld
        have hcz := blk_cell J.xE 0
        have hfz := blk_frozen J.xE 0
        refine last_ (i := 7) (N := none) #[true, true, true, true, true, true, true, true] rfl rfl (by kernel_rfl) (by decide) (fun K hK => ?_)
        refine skip_ (w1 := ?_) (by rfl) rfl ?_ ?_
        rotate_left
        · go_simp
          rfl
        replace J := J.set3 (by omega) (.int .i64 0)
        replace hk := hk.setCell (p := ⟨w.heap.size + 1 + 1, 0, none⟩) (.inl (.inr (.inr rfl))) (.int .i64 0)
        clear hcz hfz hHeld
        refine hK.out _ _ ?_
        clear hK K
        revert J hk
        generalize W2.setCell _ _ = W3
        intro J hk
        refine done_ (by kernel_rfl) ?_
        have HJ := Aside0.mk J
        have HK := Aside0.mk hk
        clear J hk
        go_wp2_with fail
        refine leaves_cons (f := 52) (args := #[.pointer (some ⟨w.heap.size, 0, none⟩), .pointer (some ⟨w.heap.size + 1, 0, none⟩), .pointer (some ⟨w.heap.size + 1 + 1, 0, none⟩)]) (by simp) (by simp [go_sem]) ?_
        refine (catch_idle _ _ _ _).mono ?_
        rintro e u' w' ⟨rfl, rfl, rfl⟩
        refine ⟨_, results_made rfl rfl rfl HJ.out.xL HJ.out.xS HJ.out.xE, ?_⟩
        rw [HMF2.out]
        refine ⟨_, _, rfl, HI.out.lrow.move (fun q hq => HK.out.2 q (HI.out.lrow.lt q hq).2 (fun hs => ?_)), Kd.N_lower (Kd.N_mono (Kd.N_step (Kd.N_bound HI.out.row) (fun q hq hlt => HK.out.2 q hlt (fun hs => ?_))) (fun q hq => ⟨by omega, hq.1.2.2⟩)) (by omega), HI.out.below.trans HJ.out.below⟩
        · obtain ⟨cs, hc⟩ := HI.out.lrow.typed q hq
          rcases hs with hs | hs | hs
          · exact blk_ne hc HI.out.xL (by decide) hs
          · exact blk_ne hc HI.out.xS (by decide) hs
          · exact blk_ne hc HI.out.xE (by decide) hs
        · have := hq.1.1
          omega

end Go.Proofs.Ytkcmkoolcakfjaa.P

/- flat.parts: the nodes of a tree in preorder, for whatever loop body keeps what the iterator leans on. -/
import Derived.Test.YtkcmkoolcakfjaaHSpec
import Derived.Test.YtkcmkoolcakfjaaHAid
import Derived.Test.YtkcmkoolcakfjaaWShare
import Derived.RangeFuncKeeps
import Derived.RangeFuncBound
import Derived.RangeFuncLeaves
import Derived.OwnWalkIn
import Derived.TacticsInMore
import Derived.LoopNIn
import Derived.LoopIn
namespace Go.Proofs.Ytkcmkoolcakfjaa.P
open Go.RowKit Go.Proofs.YtkcmkoolcakfjaaW.PrintWords Go.Proofs.YtkcmkoolcakfjaaW.PrintLast Go.Proofs.YtkcmkoolcakfjaaW.PrintMore Go.Proofs.Ytkcmkoolcakfjaa.Aid
attribute [local go_sem] Oper.semAt_some
set_option linter.unusedVariables false
set_option linter.unusedSimpArgs false

mutual
/-- The nodes in preorder. -/
def preT : S24 → List S24
  | ⟨k, v, q, l⟩ => ⟨k, v, q, l⟩ :: preTs l
def preTs : List S24 → List S24
  | [] => []
  | t :: ts => preT t ++ preTs ts
end
theorem preTs_append (a b : List S24) : preTs (a ++ b) = preTs a ++ preTs b := by
  induction a with
  | nil => rfl
  | cons t ts ih => simp [preTs, ih]

/-- A tree's value. -/
abbrev tv (x : S24) (A : Option Addr) (c : Nat) : Value := .agg #[.int .i64 x.f0, .int .i64 x.f1, .int .i64 x.f2, .slice A x.f3.length c]
abbrev tcells (x : S24) (A : Option Addr) (c : Nat) : Obj := .cells #[.int .i64 x.f0, .int .i64 x.f1, .int .i64 x.f2, .slice A x.f3.length c] 24 (0, 0)

/-- What a round may do to memory: blocks below n0 lie as they lay; so does every other but those of M. -/
structure KB (n0 : Nat) (M : Nat → Prop) (W W' : World) : Prop where
  below : Below n0 W W'
  kept : Kept W W' M
theorem KB.refl (n0 : Nat) (M : Nat → Prop) (W : World) : KB n0 M W W := ⟨Below.refl _ _, Kept.refl _ _⟩
theorem KB.trans {n0 : Nat} {M : Nat → Prop} {A B C : World} (h : KB n0 M A B) (k : KB n0 M B C) : KB n0 M A C := ⟨h.below.trans k.below, h.kept.then_ k.kept (fun _ hk => .inl hk)⟩
theorem KB.of_below {n0 B : Nat} {M : Nat → Prop} {W W1 W' : World} (h : KB n0 M W W1) (hb : Below B W1 W') (hn : n0 ≤ B) (hB : W.heap.size ≤ B) : KB n0 M W W' :=
  ⟨h.below.trans (hb.mono hn), by
    refine ⟨Nat.le_trans h.kept.1 hb.size, fun i hi hn => (hb.block i (by omega)).trans (h.kept.2 i hi hn)⟩⟩
theorem KB.blk {n0 g : Nat} {M : Nat → Prop} {W W' : World} {o : Obj} (h : KB n0 M W W') (hb : W.heap[g]? = some o) (hn : ¬ M g) : W'.heap[g]? = some o := (h.kept.2 g (Array.getElem?_eq_some_iff.1 hb).1 hn).trans hb

theorem KB.weaken {n0 : Nat} {M M' : Nat → Prop} {W W' : World} (h : KB n0 M W W') (hM : ∀ k, M k → M' k) : KB n0 M' W W' := ⟨h.below, (Kept.refl W M').then_ h.kept (fun k hk => .inl (hM k hk))⟩

theorem below_put {B l : Nat} {W : World} (o : Obj) (hl : B ≤ l) (hs : B ≤ W.heap.size) : Below B W (W.putObj l o) := (Below.refl B W).grown (grownBy_putObj' W l o) hs (fun k e => by cases e; exact hl)
theorem KB.put {n0 l : Nat} {M : Nat → Prop} {W W1 : World} (h : KB n0 M W W1) (hn : n0 ≤ W1.heap.size) (hl : n0 ≤ l) (hM : M l) (o : Obj) : KB n0 M W (W1.putObj l o) :=
  ⟨h.below.trans (below_put o hl hn), h.kept.then_ ⟨by rw [World.putObj_size]; exact Nat.le_refl _, fun i hi hne => World.putObj_heap_other (fun e => hne (by rw [e]; exact hM))⟩ (fun _ hk => .inl hk)⟩
mutual
theorem sizeT_pos : ∀ (t : S24), 1 ≤ sizeT t
  | ⟨_, _, _, l⟩ => by simp [sizeT]
end
theorem sizeTs_memP {t : S24} {ts : List S24} (h : t ∈ ts) : sizeT t ≤ sizeTs ts := by
  induction ts with
  | nil => cases h
  | cons a ts ih =>
    simp only [sizeTs]
    rcases List.mem_cons.1 h with rfl | h
    · omega
    · have := ih h; omega
theorem length_le_sizeTs (ts : List S24) : ts.length ≤ sizeTs ts := by
  induction ts with
  | nil => simp
  | cons a ts ih =>
    have := sizeT_pos a
    simp only [sizeTs, List.length_cons]
    omega
theorem preTs_mem {x t : S24} {ts : List S24} (h : t ∈ ts) (hx : x ∈ preT t) : x ∈ preTs ts := by
  induction ts with
  | nil => cases h
  | cons a ts ih =>
    simp only [preTs, List.mem_append]
    rcases List.mem_cons.1 h with rfl | h
    · exact .inl hx
    · exact .inr (ih h)
theorem preTs_take (ts : List S24) (i : Int) (h0 : 0 ≤ i) (h1 : i < ts.length) : preTs (ts.take (i + 1).toNat) = preTs (ts.take i.toNat) ++ preT (rd_T24 ts i) := by
  have e : (i + 1).toNat = i.toNat + 1 := by omega
  have hlt : i.toNat < ts.length := by omega
  unfold rd_T24
  rw [e, List.take_add_one, List.getElem?_eq_getElem hlt, preTs_append, List.getD_eq_getElem?_getD, List.getElem?_eq_getElem hlt]
  simp [preTs]

/-- The marks of range-over-func loops that have been entered. -/
abbrev marks (Ds : List Nat) : List Deferred := Ds.map fun D => { target := .collected D, args := #[] }
/-- A function that has entered such loops leaves: the marks are taken, one by one. -/
theorem leaves_marks {F : Fence} {n B : Nat} {P : Program} {fn : Func} {tmps : Array Value} {R : Ending → World → Prop} : ∀ (Ds : List Nat) (w : World), Ds.Nodup → (∀ D ∈ Ds, B ≤ D ∧ w.heap[D]? = some (.deferred (some []))) →
    (∀ w', Below B w w' → ∃ v, (results fn tmps).run P w' = .ok v w' ∧ R (.returned v) w') → LeavesInM F n P fn tmps R (marks Ds) .returning w
  | [], w, _, _, h => h w (Below.refl _ _)
  | D :: Ds, w, hn, hD, h => by
    obtain ⟨hB, hd⟩ := hD D List.mem_cons_self
    have hlt := (Array.getElem?_eq_some_iff.1 hd).1
    have hb : Below B w (w.putObj D (.deferred none)) := below_put _ hB (by omega)
    refine ⟨by simp, .inl ⟨D, _, rfl, run_takeDeferred hd, leaves_marks Ds _ (List.nodup_cons.1 hn).2 (fun D' h' => ?_) (fun w' hw' => h w' (hb.trans hw'))⟩⟩
    obtain ⟨h1, h2⟩ := hD D' (List.mem_cons_of_mem _ h')
    exact ⟨h1, (World.putObj_heap_other (fun (e : D' = D) => (List.nodup_cons.1 hn).1 (by rw [← e]; exact h'))).trans h2⟩

/-- What a call of yield of loop lo does with each of the nodes xs. -/
def Rounds (w0 : World) (xs : List S24) (lo : Nat) (M : Nat → Prop) (J : List S24 → World → Prop) (Jx : World → Prop) : Prop :=
  ∀ (pre : List S24) (x : S24) (A : Option Addr) (c : Nat) (W : World), x ∈ xs → J pre W → Below w0.heap.size w0 W → Kd.C k24 w0 A x.f3.length x.f3 → x.f3.length ≤ c →
    YieldAt Fence.wide 0 Try.prog lo #[tv x A c] W fun e W' => KB w0.heap.size M W W' ∧ ((e = .returned (.bool true) ∧ J (pre ++ [x]) W') ∨ (e = .returned (.bool false) ∧ Jx W'))

set_option maxRecDepth 100000 in
set_option maxHeartbeats 1000000 in
theorem parts.calls (x : S24) (A : Option Addr) (c : Nat) (W : World) : CallsIn Fence.wide 0 Try.prog 38 #[tv x A c] W fun e W' => e = .returned (.func (.func 58) #[] #[.pointer (some ⟨W.heap.size, 0, none⟩)]) ∧ W' = W.alloc (tcells x A c) := by
  refine callsIn_wide.2 ?_
  have hmf : ∀ (fn : Fn) (first cap : Array Value) (w : World), (Instr.makeFunc fn first cap).run Try.prog w = .ok (.func fn first cap) w := fun _ _ _ _ => rfl
  go_enter Try.func38, Try.ntmps38
  go_wp2
  go_ret
  exact ⟨rfl, rfl⟩

/-- What the loop over the subtrees keeps. -/
structure PInv (w0 W wr : World) (M : Nat → Prop) (J : List S24 → World → Prop) (lo : Nat) (seen : List S24) (Ds : List Nat) : Prop where
  kb : KB w0.heap.size M W wr
  j : J seen wr
  yb : wr.heap[W.heap.size]? = some (.cells #[.func (.yield lo) #[] #[]] 59 (0, 0))
  nd : Ds.Nodup
  ds : ∀ D ∈ Ds, W.heap.size ≤ D ∧ wr.heap[D]? = some (.deferred (some []))

/-- What the loop over a subtree's nodes leans on: its record, the blocks of the deferred calls, the variable that holds yield. -/
structure RIn (w0 W : World) (M : Nat → Prop) (lo l : Nat) (Ds : List Nat) (r : Loop) (W' : World) : Prop where
  kb : KB w0.heap.size M W W'
  yb : W'.heap[W.heap.size]? = some (.cells #[.func (.yield lo) #[] #[]] 59 (0, 0))
  ds : ∀ D ∈ Ds, W.heap.size ≤ D ∧ D ≠ l ∧ W'.heap[D]? = some (.deferred (some []))
  lge : W.heap.size ≤ l
  rc : W'.heap[l]? = some (.loop r)
section
variable {w0 W W1 W2 : World} {M : Nat → Prop} {lo l : Nat} {Ds : List Nat} {r r' : Loop}
theorem RIn.round (h : RIn w0 W M lo l Ds r W1) (hk : KB w0.heap.size M W1 W2) (hM : ∀ k, W.heap.size ≤ k → ¬ M k) : RIn w0 W M lo l Ds r W2 :=
  ⟨h.kb.trans hk, hk.blk h.yb (hM _ (Nat.le_refl _)), fun D hD => ⟨(h.ds D hD).1, (h.ds D hD).2.1, hk.blk (h.ds D hD).2.2 (hM _ (h.ds D hD).1)⟩, h.lge, hk.blk h.rc (hM _ h.lge)⟩
theorem RIn.step (h : RIn w0 W M lo l Ds r W1) (hw : w0.heap.size ≤ W.heap.size) (hb : Below W1.heap.size W1 W2) : RIn w0 W M lo l Ds r W2 :=
  ⟨h.kb.of_below hb (Nat.le_trans hw h.kb.kept.1) h.kb.kept.1, blk_below h.yb hb, fun D hD => ⟨(h.ds D hD).1, (h.ds D hD).2.1, blk_below (h.ds D hD).2.2 hb⟩, h.lge, blk_below h.rc hb⟩
theorem RIn.at_ (h : RIn w0 W M lo l Ds r W1) {B : Nat} (hw : w0.heap.size ≤ W.heap.size) (hl : l < B) (hD : ∀ D ∈ Ds, D < B) (hb : Below B W1 W2) : RIn w0 W M lo l Ds r W2 := by
  have h1 := h.lge
  exact ⟨h.kb.of_below hb (by omega) (by omega), (hb.block _ (by omega)).trans h.yb, fun D hD' => ⟨(h.ds D hD').1, (h.ds D hD').2.1, (hb.block _ (hD D hD')).trans (h.ds D hD').2.2⟩, h.lge, (hb.block _ hl).trans h.rc⟩
theorem RIn.put (h : RIn w0 W M lo l Ds r W1) (hw : w0.heap.size ≤ W.heap.size) (r' : Loop) : RIn w0 W M lo l Ds r' (W1.putObj l (.loop r')) := by
  have hlt := (Array.getElem?_eq_some_iff.1 h.rc).1
  have hne : W.heap.size ≠ l := by
    intro e
    have h1 := h.yb
    rw [e, h.rc] at h1
    cases h1
  exact ⟨h.kb.of_below (below_put (.loop r') h.lge h.kb.kept.1) hw (Nat.le_refl _), (World.putObj_heap_other hne).trans h.yb, fun D hD => ⟨(h.ds D hD).1, (h.ds D hD).2.1, (World.putObj_heap_other (h.ds D hD).2.1).trans (h.ds D hD).2.2⟩, h.lge, World.putObj_heap_same hlt⟩
theorem RIn.end_ {P : Program} {j : Option Code} (h : RIn w0 W M lo l Ds r W1) (hw : w0.heap.size ≤ W.heap.size) (hs : r.state ≠ .busy) (hp : r.pending = j) : ∃ W2 r', (Instr.endLoop l).run P W1 = .ok j W2 ∧ RIn w0 W M lo l Ds r' W2 ∧ Below W.heap.size W1 W2 :=
  ⟨_, _, hp ▸ run_endLoop h.rc hs, h.put hw _, below_put _ h.lge h.kb.kept.1⟩
theorem RIn.begin_ {P : Program} (h : RIn w0 W M lo l Ds r W1) (hw : w0.heap.size ≤ W.heap.size) (hs : r.state = .ready) : ∃ W2, (Instr.beginRound l).run P W1 = .ok () W2 ∧ RIn w0 W M lo l Ds { r with state := .busy } W2 ∧ W2 = W1.putObj l (.loop { r with state := .busy }) :=
  ⟨_, run_beginRound h.rc hs, h.put hw _, rfl⟩
theorem RIn.rend_ {P : Program} (h : RIn w0 W M lo l Ds r W1) (hw : w0.heap.size ≤ W.heap.size) (j : Option Code) : ∃ W2, (Instr.endRound l j).run P W1 = .ok (.bool j.isNone) W2 ∧ RIn w0 W M lo l Ds { r with state := if j.isNone then .ready else .done, pending := j } W2 ∧ W2 = W1.putObj l (.loop { r with state := if j.isNone then .ready else .done, pending := j }) :=
  ⟨_, run_endRound j h.rc, h.put hw _, rfl⟩
end
/-- The record of the loop over a subtree's nodes. -/
abbrev recOf (fn : FuncId) (tmps : Array Value) (params : Array Tmp) (assign body : Code) (D : Nat) (st : LoopState) (pe : Option Code) : Loop := { state := st, pending := pe, fn, tmps, params, assign, body, defers := D }

/-- The statement 'for .. := range g { .. }' outside of rounds. -/
theorem wpIn_rangeFunc_at {P : Program} {F : Fence} {n : Nat} {g : Operand} {ps : Array Tmp} {assign body : Code} {Q : Exit → Act → World → Prop} {a : Act} {w : World} (hro : F.round = none) (hd : F.depth = none) (hF : ∀ f, F.fn f) (gf : FuncId) (lb : Array Value) (hg : a.eval g = .func (.func gf) #[] lb) (eg : ∀ args w, (callFunc gf args).run P w = .ok (.enter gf args) w)
    (h : ∀ fn, CallsIn F (n - 1) P gf (#[.func (.yield (w.heap.size + 1)) #[] #[]] ++ lb) ((w.alloc (.deferred (some []))).alloc (.loop (recOf fn a.tmps ps assign body w.heap.size .ready none))) (rangePost F n P (w.heap.size + 1) Q { a with defers := [{ target := .collected w.heap.size, args := #[] }] ++ a.defers })) :
    (Code.rangeFunc g ps assign body).wpIn F n P Q a w := by
  refine wpIn_rangeFunc ?_
  intro fn _
  have hh := h fn
  rw [hro]
  obtain ⟨W1, hW1⟩ : ∃ W1, (w.alloc (.deferred (some []))).alloc (.loop (recOf fn a.tmps ps assign body w.heap.size .ready none)) = W1 := ⟨_, rfl⟩
  rw [hW1] at hh
  refine ⟨w.heap.size + 1, [{ target := .collected w.heap.size, args := #[] }], W1, { target := .fn (.func gf) lb, args := #[.func (.yield (w.heap.size + 1)) #[] #[]] }, W1, gf, #[.func (.yield (w.heap.size + 1)) #[] #[]] ++ lb, W1, ?_, ?_, fun f _ => hF f, ?_, ?_, ?_⟩
  · rw [← hW1]; exact run_enterLoop_outer _ _ _ _ _
  · simp only [resolve, hg]
    simp [go_sem]
  · simp [invoke, go_sem, eg]
  · intro h
    rw [hd] at h
    cases h
  · exact hh

theorem roundIn_inRound {F : Fence} {n : Nat} {P : Program} {l l' : Nat} {f : FuncId} {tmps : Array Value} {assign body : Code} {w : World} {R : Ending → World → Prop} (h : RoundIn F n P l f tmps assign body w R) : RoundIn (F.inRound l') n P l f tmps assign body w R := h

set_option maxRecDepth 100000 in
set_option maxHeartbeats 2000000 in
theorem parts1.calls (w0 : World) (N : Nat) : ∀ (T : S24) (xs : List S24) (lo : Nat) (M : Nat → Prop) (J : List S24 → World → Prop) (Jx : World → Prop) (pre : List S24) (bt : Nat) (A : Option Addr) (c : Nat) (W : World),
    sizeT T ≤ N → sizeT T ≤ 1048576 → (∀ x ∈ preT T, x ∈ xs) → Rounds w0 xs lo M J Jx → (∀ k, W.heap.size ≤ k → ¬ M k) → ¬ M bt → (∀ pre W1 W2, J pre W1 → Below W.heap.size W1 W2 → J pre W2) → (∀ W1 W2, Jx W1 → Below W.heap.size W1 W2 → Jx W2) →
    Below w0.heap.size w0 W → W.heap[bt]? = some (tcells T A c) → Kd.C k24 w0 A T.f3.length T.f3 → T.f3.length ≤ c → J pre W →
    CallsIn Fence.wide 0 Try.prog 58 #[.func (.yield lo) #[] #[], .pointer (some ⟨bt, 0, none⟩)] W fun e W' => (∃ v, e = .returned v) ∧ KB w0.heap.size M W W' ∧ (J (pre ++ preT T) W' ∨ Jx W') := by
  induction N with
  | zero => intro T; intros; have : 1 ≤ sizeT T := by { cases T; simp [sizeT] }; omega
  | succ N ih =>
    rintro ⟨kind, v, q, ts⟩ xs lo M J Jx pre bt A c W hsz hsz2 hin hY hM hMt hJ hJx hW0 hbt hC hc h0
    simp only at hC hc
    have hlen : ts.length ≤ 1048576 := by
      have := length_le_sizeTs ts
      simp only [sizeT] at hsz2
      omega
    refine callsIn_of_wp_marks Try.func58 rfl trivial ?_
    simp only [Try.ntmps58, List.size_toArray, List.length_cons, List.length_nil, Nat.reduceAdd, Nat.reduceSub, Array.replicate_succ, Array.replicate_zero, List.push_toArray, List.append_toArray, List.nil_append, List.cons_append]
    have hb0 := below_alloc (Below.refl W.heap.size W) (.cells #[.func (.yield lo) #[] #[]] 59)
    have hbt1 := blk_below hbt hb0
    have z0 : (W.alloc (.cells #[.func (.yield lo) #[] #[]] 59)).cell? ⟨bt, 0, none⟩ = some (.int .i64 kind) := (blk_cell hbt1 0).trans rfl
    have z1 : (W.alloc (.cells #[.func (.yield lo) #[] #[]] 59)).cell? ⟨bt, 1, none⟩ = some (.int .i64 v) := (blk_cell hbt1 1).trans rfl
    have z2 : (W.alloc (.cells #[.func (.yield lo) #[] #[]] 59)).cell? ⟨bt, 2, none⟩ = some (.int .i64 q) := (blk_cell hbt1 2).trans rfl
    have z3 : (W.alloc (.cells #[.func (.yield lo) #[] #[]] 59)).cell? ⟨bt, 3, none⟩ = some (.slice A ts.length c) := (blk_cell hbt1 3).trans rfl
    clear hbt1
    obtain ⟨fn, tmps, assign, body, hy, hR⟩ := hY pre ⟨kind, v, q, ts⟩ A c (W.alloc (.cells #[.func (.yield lo) #[] #[]] 59)) (hin _ (by simp [preT])) (hJ _ _ _ h0 hb0) (below_step hW0 hb0) hC hc
    have HY := Aside0.mk hY
    have HIN := Aside0.mk hin
    have HM := Aside0.mk hM
    have HMT := Aside0.mk hMt
    have HJ := Aside0.mk hJ
    have HJX := Aside0.mk hJx
    have HW0 := Aside0.mk hW0
    have HBT := Aside0.mk hbt
    have HC := Aside0.mk hC
    have IH := Aside0.mk ih
    have HB0 := Aside0.mk hb0
    have HR := Aside0.mk hR
    clear hY hin hM hMt hJ hJx hW0 hbt hC ih hb0 hR h0
    gi_wp2
    refine ⟨rfl, HR.out.mono ?_⟩
    rintro e W2 ⟨hkb, (⟨rfl, hj⟩ | ⟨rfl, hjx⟩)⟩
    · have HKB : Aside0 (KB w0.heap.size M W W2) := ⟨⟨(HB0.out.mono HW0.out.size).trans hkb.below, (Kept.of_below HB0.out M).then_ hkb.kept (fun _ hk => .inl hk)⟩⟩
      have hbt2 := hkb.blk (blk_below HBT.out HB0.out) HMT.out
      have hy2 := hkb.blk (blk_new W (.cells #[.func (.yield lo) #[] #[]] 59)) (HM.out _ (Nat.le_refl _))
      have z3' : W2.cell? ⟨bt, 3, none⟩ = some (.slice A ts.length c) := (blk_cell hbt2 3).trans rfl
      have HY2 := Aside0.mk hy2
      have HJ2 := Aside0.mk hj
      clear z0 z1 z2 z3 hkb hbt2 hy2 hj HR HB0 hy
      gi_wp2
      refine wpIn_loop (fun a wr => ∃ (i : Int) (Ds : List Nat) (u4 u5 u14 u15 u16 u17 u18 u19 u20 u21 u22 u23 u24 : Value), 0 ≤ i ∧ i ≤ ts.length ∧ a = { tmps := #[.func (.yield lo) #[] #[], .pointer (some ⟨bt, 0, none⟩), .pointer (some ⟨W.heap.size, 0, none⟩), undef, u4, u5, .func (.yield lo) #[] #[], .agg #[.int .i64 kind, .int .i64 v, .int .i64 q, .slice A ts.length c], .bool true, .bool false, .pointer (some ⟨bt, 3, none⟩), .slice A ts.length c, .int .i64 ts.length, .int .i64 i, u14, u15, u16, u17, u18, u19, u20, u21, u22, u23, u24], defers := marks Ds } ∧ Aside0 (PInv w0 W wr M J lo (pre ++ [⟨kind, v, q, ts⟩] ++ preTs (ts.take i.toNat)) Ds)) (fun a _ => (ts.length - intOf (a.tmps.getD 13 undef)).toNat) ?start ?round
      case start => exact ⟨0, [], undef, undef, undef, undef, undef, undef, undef, undef, undef, undef, undef, undef, undef, by omega, by omega, rfl, ⟨⟨HKB.out, by simpa [preTs] using HJ2.out, HY2.out, List.nodup_nil, fun D hD => by cases hD⟩⟩⟩
      case round =>
        clear HY2 HJ2 HKB z3'
        rintro a wr ⟨i, Ds, u4, u5, u14, u15, u16, u17, u18, u19, u20, u21, u22, u23, u24, hi0, hi1, rfl, HI⟩
        by_cases hlt : i < ts.length
        · obtain ⟨ad, A3, c3, rfl, x0, x1, x2, x3, hl3, hi3⟩ := at_T24 HC.out i hi0 hlt
          have HBW0 := Aside0.mk (HW0.out.trans HI.out.kb.below)
          replace x0 := (HBW0.out.cell (World.block_lt_of_cell? w0 _ x0)).trans x0
          replace x1 := (HBW0.out.cell (World.block_lt_of_cell? w0 _ x1)).trans x1
          replace x2 := (HBW0.out.cell (World.block_lt_of_cell? w0 _ x2)).trans x2
          replace x3 := (HBW0.out.cell (World.block_lt_of_cell? w0 _ x3)).trans x3
          have HI3 := Aside0.mk hi3
          clear hi3
          gi_wp2_with fail
          refine ⟨trivial, rfl, (parts.calls _ _ _ _).mono ?_⟩
          rintro e w3 ⟨rfl, rfl⟩
          gi_wp2
          clear x0 x1 x2 x3
          obtain ⟨W3, hW3⟩ : ∃ W3, (wr.alloc (tcells (rd_T24 ts i) A3 c3)).alloc (tcells (rd_T24 ts i) A3 c3) = W3 := ⟨_, rfl⟩
          have hs3 : W3.heap.size = wr.heap.size + 1 + 1 := by rw [← hW3]; simp
          have hb3 : Below wr.heap.size wr W3 := by rw [← hW3]; exact below_alloc (below_alloc (Below.refl _ _) _) _
          have hx3 : W3.heap[wr.heap.size + 1]? = some (tcells (rd_T24 ts i) A3 c3) := by
            rw [← hW3]
            have h := blk_new (wr.alloc (tcells (rd_T24 ts i) A3 c3)) (tcells (rd_T24 ts i) A3 c3)
            rwa [World.size_alloc] at h
          rw [hW3]
          clear hW3
          have HS3 := Aside0.mk hs3
          have HB3 := Aside0.mk hb3
          have HX3 := Aside0.mk hx3
          clear hs3 hb3 hx3
          refine wpIn_rangeFunc_at (n := 0) rfl rfl (fun _ => trivial) 58 #[.pointer (some ⟨wr.heap.size + 1, 0, none⟩)] rfl (enters_ (P := Try.prog) Try.func58 (by kernel_rfl) rfl) ?_
          intro fn0
          generalize hrec : recOf fn0 _ _ _ _ _ = rec
          have HREC := Aside0.mk hrec
          clear hrec
          have hb4 : Below W3.heap.size W3 ((W3.alloc (.deferred (some []))).alloc (.loop (rec .ready none))) := below_alloc (below_alloc (Below.refl _ _) _) _
          have hD4 : ((W3.alloc (.deferred (some []))).alloc (.loop (rec .ready none))).heap[W3.heap.size]? = some (.deferred (some [])) := blk_alloc (blk_new W3 _) _
          have hl4 : ((W3.alloc (.deferred (some []))).alloc (.loop (rec .ready none))).heap[W3.heap.size + 1]? = some (.loop (rec .ready none)) := by
            have h := blk_new (W3.alloc (.deferred (some []))) (.loop (rec .ready none))
            rwa [World.size_alloc] at h
          have hs4 : ((W3.alloc (.deferred (some []))).alloc (.loop (rec .ready none))).heap.size = W3.heap.size + 1 + 1 := by simp
          generalize (W3.alloc (.deferred (some []))).alloc (.loop (rec .ready none)) = W4 at hb4 hD4 hl4 hs4 ⊢
          have hwn := HW0.out.size
          have hWr := HI.out.kb.kept.1
          have hb34 : Below wr.heap.size wr W4 := below_then HB3.out HB3.out.size hb4
          have hRI : RIn w0 W M lo (W3.heap.size + 1) (W3.heap.size :: Ds) (rec .ready none) W4 := by
            refine ⟨HI.out.kb.of_below hb34 (by omega) hWr, blk_below HI.out.yb hb34, ?_, by have := HS3.out; omega, hl4⟩
            intro D hD
            have := HS3.out
            rcases List.mem_cons.1 hD with rfl | hD
            · exact ⟨by omega, by omega, hD4⟩
            · have h2 := HI.out.ds D hD
              have h3 := blk_lt h2.2
              exact ⟨h2.1, by omega, blk_below h2.2 hb34⟩
          have hJ4 : J (pre ++ [⟨kind, v, q, ts⟩] ++ preTs (ts.take i.toNat)) W4 := HJ.out _ _ _ HI.out.j (hb34.mono hWr)
          have hDs : ∀ D ∈ W3.heap.size :: Ds, D < W4.heap.size := fun D hD => blk_lt (hRI.ds D hD).2.2
          have hlt4 : W3.heap.size + 1 < W4.heap.size := blk_lt hl4
          have hbx4 := blk_below HX3.out hb4
          have hmem : rd_T24 ts i ∈ ts := by
            unfold rd_T24
            rw [List.getD_eq_getElem?_getD, List.getElem?_eq_getElem (show i.toNat < ts.length by omega)]
            exact List.getElem_mem _
          refine (IH.out (rd_T24 ts i) xs (W3.heap.size + 1) (fun k => M k ∨ k = W3.heap.size + 1) (fun pre' W' => J (pre ++ [⟨kind, v, q, ts⟩] ++ preTs (ts.take i.toNat) ++ pre') W' ∧ RIn w0 W M lo (W3.heap.size + 1) (W3.heap.size :: Ds) (rec .ready none) W')
            (fun W' => Jx W' ∧ RIn w0 W M lo (W3.heap.size + 1) (W3.heap.size :: Ds) (rec .done (some .ret)) W') [] (wr.heap.size + 1) A3 c3 W4 ?ssz ?ssz2 ?sin ?srounds ?sM ?sMt ?sJ ?sJx ?sW0 hbx4 HI3.out hl3 ⟨by rw [List.append_nil]; exact hJ4, hRI⟩).mono ?post
          case ssz =>
            have := sizeTs_memP hmem
            simp only [sizeT] at hsz
            omega
          case ssz2 =>
            have := sizeTs_memP hmem
            simp only [sizeT] at hsz2
            omega
          case sin => exact fun x hx => HIN.out x (by simp only [preT]; exact List.mem_cons_of_mem _ (preTs_mem hmem hx))
          case srounds =>
            have hl0 : w0.heap.size ≤ W3.heap.size + 1 := by have := HS3.out; omega
            clear hbx4 hmem hJ4 hRI hlt4 hDs hb34 hb4 hD4 hl4 hs4 HBW0 HI3 HI HB3 HX3 HS3 hi0 hi1 hlt hl3
            rintro pre' x A' c' W1 hx ⟨hj, hr⟩ hW1 hC1 hc1
            have hrec := HREC.out
            subst hrec
            clear HREC
            refine ⟨_, _, _, _, run_yield hr.rc rfl, roundIn_of_wpIn trivial ?_⟩
            simp [recOf]
            have hbA := below_alloc (Below.refl W1.heap.size W1) (tcells x A' c')
            have hrA := hr.step hwn hbA
            obtain ⟨Wb, hbr, hrb, hWb⟩ := hrA.begin_ (P := Try.prog) hwn rfl
            have hxb : Wb.heap[W1.heap.size]? = some (tcells x A' c') := by
              rw [hWb]
              exact (World.putObj_heap_other (by have := blk_lt hr.rc; omega)).trans (blk_new _ _)
            have hsb : Wb.heap.size = W1.heap.size + 1 := by rw [hWb]; simp
            have hbb : Below W.heap.size W1 Wb := by
              rw [hWb]
              exact (hbA.mono hr.kb.kept.1).trans (below_put _ hr.lge (by have := hr.kb.kept.1; simp; omega))
            have hkbb : KB w0.heap.size (fun k => M k ∨ k = W3.heap.size + 1) W1 Wb := by
              rw [hWb]
              exact KB.put ⟨hbA.mono (by have := hr.kb.kept.1; omega), Kept.of_below hbA _⟩ (by have := hr.kb.kept.1; simp; omega) hl0 (.inr rfl) _
            obtain ⟨fn', tmps', assign', body', hy', hR'⟩ := HY.out (pre ++ [⟨kind, v, q, ts⟩] ++ preTs (ts.take i.toNat) ++ pre') x A' c' Wb hx (HJ.out _ _ _ hj hbb) (HW0.out.trans hrb.kb.below) hC1 hc1
            have zy : Wb.cell? ⟨W.heap.size, 0, none⟩ = some (.func (.yield lo) #[] #[]) := (blk_cell hrb.yb 0).trans rfl
            have zx0 : Wb.cell? ⟨W1.heap.size, 0, none⟩ = some (.int .i64 x.f0) := (blk_cell hxb 0).trans rfl
            have zx1 : Wb.cell? ⟨W1.heap.size, 1, none⟩ = some (.int .i64 x.f1) := (blk_cell hxb 1).trans rfl
            have zx2 : Wb.cell? ⟨W1.heap.size, 2, none⟩ = some (.int .i64 x.f2) := (blk_cell hxb 2).trans rfl
            have zx3 : Wb.cell? ⟨W1.heap.size, 3, none⟩ = some (.slice A' x.f3.length c') := (blk_cell hxb 3).trans rfl
            have HRB := Aside0.mk hrb
            have HKBB := Aside0.mk hkbb
            have HR' := Aside0.mk hR'
            clear hWb hxb hbb hrb hkbb hR' hrA hbA hr hj hW1 hC1
            gi_wp2
            refine ⟨rfl, (roundIn_inRound HR'.out).mono ?_⟩
            clear zy zx0 zx1 zx2 zx3 HR' hy'
            rintro e W2 ⟨hkb2, (⟨rfl, hj2⟩ | ⟨rfl, hj2⟩)⟩
            · obtain ⟨W6, hend, hr6, hW6⟩ := (HRB.out.round hkb2 HM.out).rend_ (P := Try.prog) hwn none
              gi_wp2
              refine ⟨_, W6, hend, ?_, .inl ⟨rfl, ?_, hr6⟩⟩
              · rw [hW6]
                exact KB.put (HKBB.out.trans (hkb2.weaken (fun _ h => .inl h))) (Nat.le_trans hwn (HRB.out.kb.trans hkb2).kept.1) hl0 (.inr rfl) _
              · have hb6 : Below W.heap.size W2 W6 := by
                  rw [hW6]
                  exact below_put _ hr6.lge (HRB.out.kb.trans hkb2).kept.1
                simpa [List.append_assoc] using HJ.out _ _ _ hj2 hb6
            · obtain ⟨W6, hend, hr6, hW6⟩ := (HRB.out.round hkb2 HM.out).rend_ (P := Try.prog) hwn (some .ret)
              gi_wp2
              refine ⟨_, W6, hend, ?_, .inr ⟨rfl, ?_, hr6⟩⟩
              · rw [hW6]
                exact KB.put (HKBB.out.trans (hkb2.weaken (fun _ h => .inl h))) (Nat.le_trans hwn (HRB.out.kb.trans hkb2).kept.1) hl0 (.inr rfl) _
              · rw [hW6]
                exact HJX.out _ _ hj2 (below_put _ hr6.lge (HRB.out.kb.trans hkb2).kept.1)
          case sM =>
            have hs3 := HS3.out
            intro k hk hm
            rcases hm with hm | hm
            · exact HM.out k (by omega) hm
            · omega
          case sMt =>
            intro hm
            have hs3 := HS3.out
            rcases hm with hm | hm
            · exact HM.out _ (by omega) hm
            · omega
          case sJ =>
            have hs3 := HS3.out
            exact fun pre' W1 W2 h hb => ⟨HJ.out _ _ _ h.1 (hb.mono (by omega)), h.2.at_ hwn hlt4 hDs hb⟩
          case sJx =>
            have hs3 := HS3.out
            exact fun W1 W2 h hb => ⟨HJX.out _ _ h.1 (hb.mono (by omega)), h.2.at_ hwn hlt4 hDs hb⟩
          case sW0 => exact HW0.out.trans hRI.kb.below
          case post =>
            have hnd : (W3.heap.size :: Ds).Nodup := List.nodup_cons.2 ⟨fun hm => by
              have h1 := blk_lt (HI.out.ds _ hm).2
              have := HS3.out
              omega, HI.out.nd⟩
            have hpt := preTs_take ts i hi0 hlt
            have HND := Aside0.mk hnd
            have HPT := Aside0.mk hpt
            have HWN := Aside0.mk hwn
            clear hbx4 hmem hJ4 hRI hlt4 hDs hb34 hb4 hD4 hl4 hs4 HBW0 HI3 HI HB3 HX3 HS3 hl3 hWr hnd hpt hwn
            rintro e W5 ⟨⟨v5, rfl⟩, hkb5, (⟨hj5, hr5⟩ | ⟨hj5, hr5⟩)⟩
            · have e1 : (rec .ready none).state ≠ .busy := by rw [← HREC.out]; simp [recOf]
              have e2 : (rec .ready none).pending = none := by rw [← HREC.out]
              obtain ⟨W6, r6, hend, hr6, hb6⟩ := hr5.end_ (P := Try.prog) HWN.out e1 e2
              have HJ6 := Aside0.mk (HJ.out _ _ _ hj5 hb6)
              have HR6 := Aside0.mk hr6
              refine ⟨none, W6, hend, ?_⟩
              clear e1 e2 hend hr6 hb6 hkb5 hj5 hr5 HREC
              gi_wp2
              refine ⟨⟨i + 1, W3.heap.size :: Ds, _, _, _, _, _, _, _, _, _, _, _, _, _, by omega, by omega, rfl, ⟨HR6.out.kb, ?_, HR6.out.yb, HND.out, fun D hD => ⟨(HR6.out.ds D hD).1, (HR6.out.ds D hD).2.2⟩⟩⟩, ?_⟩
              · rw [HPT.out]
                have h := HJ6.out
                simpa [List.append_assoc] using h
              · simp [intOf]
                omega
            · have e1 : (rec .done (some .ret)).state ≠ .busy := by rw [← HREC.out]; simp [recOf]
              have e2 : (rec .done (some .ret)).pending = some .ret := by rw [← HREC.out]
              obtain ⟨W6, r6, hend, hr6, hb6⟩ := hr5.end_ (P := Try.prog) HWN.out e1 e2
              have HJ6 := Aside0.mk (HJX.out _ _ hj5 hb6)
              have HR6 := Aside0.mk hr6
              refine ⟨some .ret, W6, hend, ?_⟩
              clear e1 e2 hend hr6 hb6 hkb5 hj5 hr5 HREC
              gi_wp2
              exact leaves_marks (B := W.heap.size) (W3.heap.size :: Ds) W6 HND.out (fun D hD => ⟨(HR6.out.ds D hD).1, (HR6.out.ds D hD).2.2⟩) (fun w' hw' => ⟨_, results_none rfl _ _ _, ⟨_, rfl⟩, HR6.out.kb.of_below hw' HWN.out (Nat.le_refl _), .inr (HJX.out _ _ HJ6.out hw')⟩)
        · have hi : i = ts.length := by omega
          subst hi
          clear hlt hi0 hi1
          rw [Int.toNat_natCast, List.take_length] at HI
          gi_wp2
          exact leaves_marks (B := W.heap.size) Ds wr HI.out.nd HI.out.ds (fun w' hw' => ⟨_, results_none rfl _ _ _, ⟨_, rfl⟩, HI.out.kb.of_below hw' HW0.out.size (Nat.le_refl _), .inl (HJ.out _ _ _ (by have h := HI.out.j; rw [List.append_assoc] at h; simpa [preT] using h) hw')⟩)
    · have HKB : Aside0 (KB w0.heap.size M W W2) := ⟨⟨(HB0.out.mono HW0.out.size).trans hkb.below, (Kept.of_below HB0.out M).then_ hkb.kept (fun _ hk => .inl hk)⟩⟩
      have HJ2 := Aside0.mk hjx
      clear z0 z1 z2 z3 hkb hjx HR HB0 hy
      gi_wp2
      exact ⟨_, results_none rfl _ _ _, ⟨_, rfl⟩, HKB.out, .inr HJ2.out⟩
end Go.Proofs.Ytkcmkoolcakfjaa.P

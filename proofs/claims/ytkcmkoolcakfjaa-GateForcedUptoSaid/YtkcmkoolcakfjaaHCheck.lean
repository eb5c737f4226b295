/- flat.Check: a tree's form and size. -/
import Derived.Test.YtkcmkoolcakfjaaHParts
import Derived.Test.YtkcmkoolcakfjaaHFormed
import Derived.RangeFuncBox
namespace Go.Proofs.Ytkcmkoolcakfjaa.P
open Go.RowKit Go.Proofs.YtkcmkoolcakfjaaW.PrintWords Go.Proofs.YtkcmkoolcakfjaaW.PrintLast Go.Proofs.YtkcmkoolcakfjaaW.PrintMore Go.Proofs.Ytkcmkoolcakfjaa.Aid
attribute [local go_sem] Oper.semAt_some
set_option linter.unusedVariables false
set_option linter.unusedSimpArgs false

/-- A node's own form. -/
abbrev okN (n : Int) (x : S24) : Bool := formedF x.f0 x.f1 x.f2 x.f3.length n
mutual
theorem formedT_pre : ∀ (T : S24) (n : Int), formedT T n = (preT T).all (okN n)
  | ⟨k, v, q, l⟩, n => by simp only [formedT, preT, List.all_cons, formedTs_pre l n]
theorem formedTs_pre : ∀ (ts : List S24) (n : Int), formedTs ts n = (preTs ts).all (okN n)
  | [], n => rfl
  | t :: ts, n => by simp only [formedTs, preTs, List.all_append, formedT_pre t n, formedTs_pre ts n]
end
mutual
theorem sizeT_pre : ∀ (T : S24), (preT T).length = sizeT T
  | ⟨k, v, q, l⟩ => by simp only [sizeT, preT, List.length_cons, sizeTs_pre l]; omega
theorem sizeTs_pre : ∀ (ts : List S24), (preTs ts).length = sizeTs ts
  | [] => rfl
  | t :: ts => by simp only [sizeTs, preTs, List.length_append, sizeT_pre t, sizeTs_pre ts]
end
/-- What flat.Check says. -/
def checkF (T : S24) (n : Int) : Int := if n < 0 then 1 else if 65536 < n then 1 else if formedT T n = false then 1 else if 65536 < sizeT T then 2 else 0

theorem wrap64_step (a : Int) : wrap64 (wrap64 a + 1) = wrap64 (a + 1) := by unfold wrap64; omega
set_option maxRecDepth 100000 in
theorem results_e {tmps : Array Value} {fn : Func} {t : Tmp} {W : World} {b : Nat} {v : Value} (h : fn.results = #[.cell t 28]) (ht : tmps.getD t undef = .pointer (some ⟨b, 0, none⟩)) (hb : W.heap[b]? = some (.cells #[v] 28 (0, 0))) : (results fn tmps).run Try.prog W = .ok v W := by
  have hc : W.cell? ⟨b, 0, none⟩ = some v := (blk_cell hb 0).trans rfl
  have hk : (isAgg 28).run Try.prog W = .ok false W := by rfl
  rw [Array.getD_eq_getD_getElem?] at ht
  simp [results, h, ht, loadVar, asAddr, Sem.run_bind, Result.andThen, hk, go_sem, hc]

/-- The blocks of a call under way. -/
structure CIn (w0 : World) (n : Int) (l D b3 b4 b5 : Nat) (e cnt : Int) (r : Loop) (W : World) : Prop where
  below : Below w0.heap.size w0 W
  x3 : W.heap[b3]? = some (.cells #[.int .i64 n] 3 (0, 0))
  x4 : W.heap[b4]? = some (.cells #[.int .i64 e] 28 (0, 0))
  x5 : W.heap[b5]? = some (.cells #[.int .i64 cnt] 3 (0, 0))
  xD : W.heap[D]? = some (.deferred (some []))
  rc : W.heap[l]? = some (.loop r)

theorem CIn.kept {w0 W1 W2 Wp W4 : World} {n : Int} {e cnt : Int} {r : Loop} (h : CIn w0 n (Wp.heap.size + 1) Wp.heap.size (w0.heap.size + 1) (w0.heap.size + 1 + 1) (w0.heap.size + 1 + 1 + 1) e cnt r W1) (hs4 : W4.heap.size = Wp.heap.size + 1 + 1) (hsp : Wp.heap.size = w0.heap.size + 5) (hb : Below W4.heap.size W1 W2) :
    CIn w0 n (Wp.heap.size + 1) Wp.heap.size (w0.heap.size + 1) (w0.heap.size + 1 + 1) (w0.heap.size + 1 + 1 + 1) e cnt r W2 :=
  ⟨h.below.trans (hb.mono (by omega)), (hb.block _ (by omega)).trans h.x3, (hb.block _ (by omega)).trans h.x4, (hb.block _ (by omega)).trans h.x5, (hb.block _ (by omega)).trans h.xD, (hb.block _ (by omega)).trans h.rc⟩

section
variable {w0 W1 : World} {n : Int} {l D : Nat} {e cnt : Int} {r : Loop}
/-- The blocks' places. -/
abbrev CAt (w0 : World) (n : Int) (S : Nat) (e cnt : Int) (r : Loop) (W : World) : Prop := CIn w0 n (S + 1) S (w0.heap.size + 1) (w0.heap.size + 1 + 1) (w0.heap.size + 1 + 1 + 1) e cnt r W
theorem CIn.put {S : Nat} (h : CAt w0 n S e cnt r W1) (hS : S = w0.heap.size + 5) (r' : Loop) : CAt w0 n S e cnt r' (W1.putObj (S + 1) (.loop r')) :=
  ⟨h.below.trans (below_put _ (by omega) h.below.size), (World.putObj_heap_other (by omega)).trans h.x3, (World.putObj_heap_other (by omega)).trans h.x4, (World.putObj_heap_other (by omega)).trans h.x5, (World.putObj_heap_other (by omega)).trans h.xD, World.putObj_heap_same (blk_lt h.rc)⟩
theorem CIn.set4 {S : Nat} (h : CAt w0 n S e cnt r W1) (hS : S = w0.heap.size + 5) (e' : Int) : CAt w0 n S e' cnt r (W1.setCell ⟨w0.heap.size + 1 + 1, 0, none⟩ (.int .i64 e')) :=
  ⟨h.below.setCell (p := ⟨w0.heap.size + 1 + 1, 0, none⟩) (by simp only; omega) _, (Below.heap_setCell _ _ _ _ (by simp only; omega)).trans h.x3, Boxed.set (W := W1) _ h.x4, (Below.heap_setCell _ _ _ _ (by simp only; omega)).trans h.x5, (Below.heap_setCell _ _ _ _ (by simp only; omega)).trans h.xD, (Below.heap_setCell _ _ _ _ (by simp only; omega)).trans h.rc⟩
theorem CIn.set5 {S : Nat} (h : CAt w0 n S e cnt r W1) (hS : S = w0.heap.size + 5) (c' : Int) : CAt w0 n S e c' r (W1.setCell ⟨w0.heap.size + 1 + 1 + 1, 0, none⟩ (.int .i64 c')) :=
  ⟨h.below.setCell (p := ⟨w0.heap.size + 1 + 1 + 1, 0, none⟩) (by simp only; omega) _, (Below.heap_setCell _ _ _ _ (by simp only; omega)).trans h.x3, (Below.heap_setCell _ _ _ _ (by simp only; omega)).trans h.x4, Boxed.set (W := W1) _ h.x5, (Below.heap_setCell _ _ _ _ (by simp only; omega)).trans h.xD, (Below.heap_setCell _ _ _ _ (by simp only; omega)).trans h.rc⟩
theorem CIn.step {S : Nat} {W2 : World} (h : CAt w0 n S e cnt r W1) (hb : Below W1.heap.size W1 W2) : CAt w0 n S e cnt r W2 :=
  ⟨h.below.trans (hb.mono h.below.size), blk_below h.x3 hb, blk_below h.x4 hb, blk_below h.x5 hb, blk_below h.xD hb, blk_below h.rc hb⟩
theorem CIn.begin_ {P : Program} {S : Nat} (h : CAt w0 n S e cnt r W1) (hS : S = w0.heap.size + 5) (hs : r.state = .ready) : ∃ W2, (Instr.beginRound (S + 1)).run P W1 = .ok () W2 ∧ CAt w0 n S e cnt { r with state := .busy } W2 ∧ W2 = W1.putObj (S + 1) (.loop { r with state := .busy }) :=
  ⟨_, run_beginRound h.rc hs, h.put hS _, rfl⟩
theorem CIn.rend_ {P : Program} {S : Nat} (h : CAt w0 n S e cnt r W1) (hS : S = w0.heap.size + 5) (j : Option Code) : ∃ W2, (Instr.endRound (S + 1) j).run P W1 = .ok (.bool j.isNone) W2 ∧ CAt w0 n S e cnt { r with state := if j.isNone then .ready else .done, pending := j } W2 ∧ W2 = W1.putObj (S + 1) (.loop { r with state := if j.isNone then .ready else .done, pending := j }) :=
  ⟨_, run_endRound j h.rc, h.put hS _, rfl⟩
theorem CIn.leave {F : Fence} {m : Nat} {P : Program} {fn : Func} {tmps : Array Value} {R : Ending → World → Prop} {S : Nat} (h : CAt w0 n S e cnt r W1) (hS : S = w0.heap.size + 5)
    (hR : ∀ w', Below w0.heap.size w0 w' → w'.heap[w0.heap.size + 1 + 1]? = some (.cells #[.int .i64 e] 28 (0, 0)) → ∃ v, (results fn tmps).run P w' = .ok v w' ∧ R (.returned v) w') : LeavesInM F m P fn tmps R (marks [S]) .returning W1 :=
  leaves_marks (B := S) [S] W1 (by simp) (fun D hD => by rw [List.mem_singleton] at hD; subst hD; exact ⟨Nat.le_refl _, h.xD⟩)
    (fun w' hw' => hR w' (h.below.trans (hw'.mono (by omega))) ((hw'.block _ (by omega)).trans h.x4))
theorem CIn.end_ {P : Program} {S : Nat} {j : Option Code} (h : CAt w0 n S e cnt r W1) (hS : S = w0.heap.size + 5) (hs : r.state ≠ .busy) (hp : r.pending = j) : ∃ W2 r', (Instr.endLoop (S + 1)).run P W1 = .ok j W2 ∧ CAt w0 n S e cnt r' W2 :=
  ⟨_, _, hp ▸ run_endLoop h.rc hs, h.put hS _⟩
end

theorem KB.set {n0 b : Nat} {M : Nat → Prop} {W W1 : World} (h : KB n0 M W W1) (hb : n0 ≤ b) (hM : M b) (v : Value) : KB n0 M W (W1.setCell ⟨b, 0, none⟩ v) :=
  ⟨h.below.setCell (p := ⟨b, 0, none⟩) hb v, h.kept.then_ ⟨(KeepsWalks.setCell W1 _ v).size, fun i _ hne => Below.heap_setCell _ _ _ _ (fun e => hne (by rw [e]; exact hM))⟩ (fun _ hk => .inl hk)⟩
theorem callsIn_inRound {F : Fence} {n : Nat} {P : Program} {l : Nat} {f : FuncId} {args : Array Value} {w : World} {R : Ending → World → Prop} (h : CallsIn F n P f args w R) : CallsIn (F.inRound l) n P f args w R := h
set_option maxRecDepth 100000 in
set_option maxHeartbeats 2000000 in
theorem Check.calls (T : S24) (A : Option Addr) (c : Nat) (n : Int) (w : World) (hC : Kd.C k24 w A T.f3.length T.f3) (hc : T.f3.length ≤ c) (hsz : sizeT T ≤ 1048576) :
    CallsIn Fence.wide 0 Try.prog 21 #[tv T A c, .int .i64 n] w fun e w' => e = .returned (.int .i64 (checkF T n)) ∧ Below w.heap.size w w' := by
  obtain ⟨kind, v, q, ts⟩ := T
  simp only at hC hc
  refine callsIn_of_wp_marks Try.func21 rfl trivial ?_
  simp only [Try.ntmps21, List.size_toArray, List.length_cons, List.length_nil, Nat.reduceAdd, Nat.reduceSub, Array.replicate_succ, Array.replicate_zero, List.push_toArray, List.append_toArray, List.nil_append, List.cons_append]
  have HC := Aside0.mk hC
  clear hC
  have hck1 : n < 0 ∨ 65536 < n → checkF ⟨kind, v, q, ts⟩ n = 1 := by
    intro h
    unfold checkF
    rcases h with h | h
    · rw [if_pos h]
    · split
      · rfl
      · rfl
  have hb0 : Below w.heap.size w (((w.alloc (.cells #[.int .i64 kind, .int .i64 v, .int .i64 q, .slice A ts.length c] 24)).alloc (.cells #[.int .i64 n] 3)).alloc (.cells #[.int .i64 1] 28)) := below_alloc (below_alloc (below_alloc (Below.refl _ _) _) _) _
  have hr0 : (((w.alloc (.cells #[.int .i64 kind, .int .i64 v, .int .i64 q, .slice A ts.length c] 24)).alloc (.cells #[.int .i64 n] 3)).alloc (.cells #[.int .i64 1] 28)).heap[w.heap.size + 1 + 1]? = some (.cells #[.int .i64 1] 28 (0, 0)) := by
    have h := blk_new ((w.alloc (.cells #[.int .i64 kind, .int .i64 v, .int .i64 q, .slice A ts.length c] 24)).alloc (.cells #[.int .i64 n] 3)) (.cells #[.int .i64 1] 28)
    rwa [World.size_alloc, World.size_alloc] at h
  have HB0 := Aside0.mk hb0
  have HR0 := Aside0.mk hr0
  have HCK1 := Aside0.mk hck1
  clear hb0 hr0 hck1
  by_cases h1 : n < 0
  · gi_wp2
    exact ⟨_, results_e rfl rfl HR0.out, by rw [HCK1.out (.inl h1)], HB0.out⟩
  · by_cases h2 : 65536 < n
    · gi_wp2
      exact ⟨_, results_e rfl rfl HR0.out, by rw [HCK1.out (.inr h2)], HB0.out⟩
    · clear HB0 HR0 HCK1
      gi_wp2
      refine ⟨trivial, rfl, (parts.calls ⟨kind, v, q, ts⟩ A c _).mono ?_⟩
      rintro e w3 ⟨rfl, rfl⟩
      gi_wp2
      have hck : checkF ⟨kind, v, q, ts⟩ n = if formedT ⟨kind, v, q, ts⟩ n = false then 1 else if 65536 < sizeT ⟨kind, v, q, ts⟩ then 2 else 0 := by
        unfold checkF
        rw [if_neg (by omega), if_neg (by omega)]
      have HCK := Aside0.mk hck
      clear hck
      obtain ⟨Wp, hWp⟩ : ∃ Wp, ((((w.alloc (.cells #[.int .i64 kind, .int .i64 v, .int .i64 q, .slice A ts.length c] 24)).alloc (.cells #[.int .i64 n] 3)).alloc (.cells #[.int .i64 0] 28)).alloc (.cells #[.int .i64 0] 3)).alloc (tcells ⟨kind, v, q, ts⟩ A c) = Wp := ⟨_, rfl⟩
      have hsp : Wp.heap.size = w.heap.size + 5 := by rw [← hWp]; simp
      have hbp : Below w.heap.size w Wp := by rw [← hWp]; exact below_alloc (below_alloc (below_alloc (below_alloc (below_alloc (Below.refl _ _) _) _) _) _) _
      have hx3 : Wp.heap[w.heap.size + 1]? = some (.cells #[.int .i64 n] 3 (0, 0)) := by
        rw [← hWp]
        refine blk_alloc (blk_alloc (blk_alloc ?_ _) _) _
        have h := blk_new (w.alloc (.cells #[.int .i64 kind, .int .i64 v, .int .i64 q, .slice A ts.length c] 24)) (.cells #[.int .i64 n] 3)
        rwa [World.size_alloc] at h
      have hx4 : Wp.heap[w.heap.size + 1 + 1]? = some (.cells #[.int .i64 0] 28 (0, 0)) := by
        rw [← hWp]
        refine blk_alloc (blk_alloc ?_ _) _
        have h := blk_new ((w.alloc (.cells #[.int .i64 kind, .int .i64 v, .int .i64 q, .slice A ts.length c] 24)).alloc (.cells #[.int .i64 n] 3)) (.cells #[.int .i64 0] 28)
        rwa [World.size_alloc, World.size_alloc] at h
      have hx5 : Wp.heap[w.heap.size + 1 + 1 + 1]? = some (.cells #[.int .i64 0] 3 (0, 0)) := by
        rw [← hWp]
        refine blk_alloc ?_ _
        have h := blk_new (((w.alloc (.cells #[.int .i64 kind, .int .i64 v, .int .i64 q, .slice A ts.length c] 24)).alloc (.cells #[.int .i64 n] 3)).alloc (.cells #[.int .i64 0] 28)) (.cells #[.int .i64 0] 3)
        rwa [World.size_alloc, World.size_alloc, World.size_alloc] at h
      have hxt : Wp.heap[w.heap.size + 1 + 1 + 1 + 1]? = some (tcells ⟨kind, v, q, ts⟩ A c) := by
        rw [← hWp]
        have h := blk_new ((((w.alloc (.cells #[.int .i64 kind, .int .i64 v, .int .i64 q, .slice A ts.length c] 24)).alloc (.cells #[.int .i64 n] 3)).alloc (.cells #[.int .i64 0] 28)).alloc (.cells #[.int .i64 0] 3)) (tcells ⟨kind, v, q, ts⟩ A c)
        rwa [World.size_alloc, World.size_alloc, World.size_alloc, World.size_alloc] at h
      rw [hWp]
      clear hWp
      refine wpIn_rangeFunc_at (n := 0) rfl rfl (fun _ => trivial) 58 #[.pointer (some ⟨w.heap.size + 1 + 1 + 1 + 1, 0, none⟩)] rfl (enters_ (P := Try.prog) Try.func58 (by kernel_rfl) rfl) ?_
      intro fn0
      generalize hrec : recOf fn0 _ _ _ _ _ = rec
      have HREC := Aside0.mk hrec
      clear hrec
      have hb4 : Below Wp.heap.size Wp ((Wp.alloc (.deferred (some []))).alloc (.loop (rec .ready none))) := below_alloc (below_alloc (Below.refl _ _) _) _
      have hD4 : ((Wp.alloc (.deferred (some []))).alloc (.loop (rec .ready none))).heap[Wp.heap.size]? = some (.deferred (some [])) := blk_alloc (blk_new Wp _) _
      have hl4 : ((Wp.alloc (.deferred (some []))).alloc (.loop (rec .ready none))).heap[Wp.heap.size + 1]? = some (.loop (rec .ready none)) := by
        have h := blk_new (Wp.alloc (.deferred (some []))) (.loop (rec .ready none))
        rwa [World.size_alloc] at h
      have hs4 : ((Wp.alloc (.deferred (some []))).alloc (.loop (rec .ready none))).heap.size = Wp.heap.size + 1 + 1 := by simp
      generalize (Wp.alloc (.deferred (some []))).alloc (.loop (rec .ready none)) = W4 at hb4 hD4 hl4 hs4 ⊢
      have hCI : CIn w n (Wp.heap.size + 1) Wp.heap.size (w.heap.size + 1) (w.heap.size + 1 + 1) (w.heap.size + 1 + 1 + 1) 0 (wrap64 0) (rec .ready none) W4 :=
        ⟨hbp.trans (hb4.mono hbp.size), blk_below hx3 hb4, blk_below hx4 hb4, by rw [show wrap64 0 = 0 from IntWalk.wrap64_in _ (by omega)]; exact blk_below hx5 hb4, hD4, hl4⟩
      refine (parts1.calls w (sizeT ⟨kind, v, q, ts⟩) ⟨kind, v, q, ts⟩ (preT ⟨kind, v, q, ts⟩) (Wp.heap.size + 1) (fun k => k = w.heap.size + 1 + 1 ∨ k = w.heap.size + 1 + 1 + 1 ∨ k = Wp.heap.size + 1)
        (fun pre W => (∀ x ∈ pre, okN n x = true) ∧ CIn w n (Wp.heap.size + 1) Wp.heap.size (w.heap.size + 1) (w.heap.size + 1 + 1) (w.heap.size + 1 + 1 + 1) 0 (wrap64 pre.length) (rec .ready none) W)
        (fun W => (∃ x ∈ preT ⟨kind, v, q, ts⟩, okN n x = false) ∧ ∃ cnt, CIn w n (Wp.heap.size + 1) Wp.heap.size (w.heap.size + 1) (w.heap.size + 1 + 1) (w.heap.size + 1 + 1 + 1) 1 cnt (rec .done (some .ret)) W)
        [] (w.heap.size + 1 + 1 + 1 + 1) A c W4 (Nat.le_refl _) hsz (fun x hx => hx) ?srounds ?sM ?sMt ?sJ ?sJx hCI.below (blk_below hxt hb4) HC.out hc ⟨fun x hx => (by cases hx), hCI⟩).mono ?post
      case sM => intro k hk hm; omega
      case sMt => omega
      case sJ => exact fun pre W1 W2 h hb => ⟨h.1, h.2.kept hs4 hsp hb⟩
      case sJx => exact fun W1 W2 h hb => ⟨h.1, h.2.elim fun cnt h => ⟨cnt, h.kept hs4 hsp hb⟩⟩
      case srounds =>
        clear hCI hb4 hD4 hl4 hs4 hbp hx3 hx4 hx5 hxt HC HCK
        rintro pre' x A' c' W1 hx ⟨hj, hr⟩ hW1 hC1 hc1
        have hrec := HREC.out
        subst hrec
        clear HREC
        refine ⟨_, _, _, _, run_yield hr.rc rfl, roundIn_of_wpIn trivial ?_⟩
        have HSP := Aside0.mk hsp
        have hbA := below_alloc (Below.refl W1.heap.size W1) (tcells x A' c')
        have hrA := hr.step hbA
        obtain ⟨Wb, hbr, hrb, hWb⟩ := hrA.begin_ (P := Try.prog) hsp rfl
        have hxb : Wb.heap[W1.heap.size]? = some (tcells x A' c') := by
          rw [hWb]
          exact (World.putObj_heap_other (by have := blk_lt hr.rc; omega)).trans (blk_new _ _)
        have hkbb : KB w.heap.size (fun k => k = w.heap.size + 1 + 1 ∨ k = w.heap.size + 1 + 1 + 1 ∨ k = Wp.heap.size + 1) W1 Wb := by
          rw [hWb]
          exact KB.put ⟨hbA.mono hr.below.size, Kept.of_below hbA _⟩ (by have := hr.below.size; simp; omega) (by omega) (.inr (.inr rfl)) _
        have zx0 : Wb.cell? ⟨W1.heap.size, 0, none⟩ = some (.int .i64 x.f0) := (blk_cell hxb 0).trans rfl
        have zx1 : Wb.cell? ⟨W1.heap.size, 1, none⟩ = some (.int .i64 x.f1) := (blk_cell hxb 1).trans rfl
        have zx2 : Wb.cell? ⟨W1.heap.size, 2, none⟩ = some (.int .i64 x.f2) := (blk_cell hxb 2).trans rfl
        have zx3 : Wb.cell? ⟨W1.heap.size, 3, none⟩ = some (.slice A' x.f3.length c') := (blk_cell hxb 3).trans rfl
        have z3 : Wb.cell? ⟨w.heap.size + 1, 0, none⟩ = some (.int .i64 n) := (blk_cell hrb.x3 0).trans rfl
        have HCX := Aside0.mk (Kd.C_below hC1 hrb.below)
        have HRB := Aside0.mk hrb
        have HKBB := Aside0.mk hkbb
        clear hWb hxb hkbb hrb hrA hbA hr hW1 hC1 hsp
        simp [recOf]
        gi_wp2
        refine ⟨trivial, rfl, (callsIn_inRound (callsIn_wide.2 (formed.calls _ _ _ A' c' x.f3 n Wb HCX.out hc1))).mono ?_⟩
        rintro e W2 ⟨rfl, hb2⟩
        have hr2 := HRB.out.step hb2
        have HKB2 : Aside0 (KB w.heap.size (fun k => k = w.heap.size + 1 + 1 ∨ k = w.heap.size + 1 + 1 + 1 ∨ k = Wp.heap.size + 1) W1 W2) := ⟨HKBB.out.trans ⟨hb2.mono HRB.out.below.size, Kept.of_below hb2 _⟩⟩
        have z4 : W2.cell? ⟨w.heap.size + 1 + 1, 0, none⟩ = some (.int .i64 0) := (blk_cell hr2.x4 0).trans rfl
        have z5 : W2.cell? ⟨w.heap.size + 1 + 1 + 1, 0, none⟩ = some (.int .i64 (wrap64 pre'.length)) := (blk_cell hr2.x5 0).trans rfl
        have zf4 : W2.frozen? ⟨w.heap.size + 1 + 1, 0, none⟩ = false := Boxed.frozen (W := W2) hr2.x4
        have zf5 : W2.frozen? ⟨w.heap.size + 1 + 1 + 1, 0, none⟩ = false := Boxed.frozen (W := W2) hr2.x5
        have HR2 := Aside0.mk hr2
        clear zx0 zx1 zx2 zx3 z3 hbr hb2 hr2 HRB HKBB HCX
        have HJ := Aside0.mk hj
        clear hj
        by_cases hf : formedF x.f0 x.f1 x.f2 x.f3.length n = true
        · obtain ⟨W6, hend, hr6, hW6⟩ := CIn.rend_ (P := Try.prog) (HR2.out.set5 HSP.out (wrap64 (wrap64 pre'.length + 1))) HSP.out none
          gi_wp2
          refine ⟨_, W6, hend, ?_, .inl ⟨rfl, ?_, ?_⟩⟩
          · rw [hW6]
            exact KB.put (HKB2.out.set (by omega) (.inr (.inl rfl)) _) ((HR2.out.set5 HSP.out _).below.size) (by have := HSP.out; omega) (.inr (.inr rfl)) _
          · intro y hy
            rcases hy with hy | hy
            · exact HJ.out y hy
            · subst hy
              exact hf
          · rw [wrap64_step] at hr6
            exact hr6
        · have hf2 : formedF x.f0 x.f1 x.f2 x.f3.length n = false := by simpa using hf
          obtain ⟨W6, hend, hr6, hW6⟩ := CIn.rend_ (P := Try.prog) (HR2.out.set4 HSP.out 1) HSP.out (some .ret)
          gi_wp2
          refine ⟨_, W6, hend, ?_, .inr ⟨rfl, ?_, ?_⟩⟩
          · rw [hW6]
            exact KB.put (HKB2.out.set (by omega) (.inl rfl) _) ((HR2.out.set4 HSP.out _).below.size) (by have := HSP.out; omega) (.inr (.inr rfl)) _
          · exact ⟨x, hx, hf2⟩
          · exact ⟨_, hr6⟩
      case post =>
        have HSP := Aside0.mk hsp
        have HLEN := Aside0.mk (sizeT_pre ⟨kind, v, q, ts⟩)
        have HFORM := Aside0.mk (formedT_pre ⟨kind, v, q, ts⟩ n)
        clear hCI hb4 hD4 hl4 hs4 hbp hx3 hx4 hx5 hxt HC
        rintro e W5 ⟨⟨v5, rfl⟩, hkb5, (⟨hj5, hr5⟩ | ⟨⟨x, hx, hxf⟩, cnt, hr5⟩)⟩
        · have e1 : (rec .ready none).state ≠ .busy := by rw [← HREC.out]; simp [recOf]
          have e2 : (rec .ready none).pending = none := by rw [← HREC.out]
          obtain ⟨W6, r6, hend, hr6⟩ := CIn.end_ (P := Try.prog) hr5 hsp e1 e2
          rw [List.nil_append, HLEN.out, IntWalk.wrap64_in _ (by omega)] at hr6
          have HR6 := Aside0.mk hr6
          refine ⟨none, W6, hend, ?_⟩
          have z5 : W6.cell? ⟨w.heap.size + 1 + 1 + 1, 0, none⟩ = some (.int .i64 (sizeT ⟨kind, v, q, ts⟩)) := (blk_cell hr6.x5 0).trans rfl
          have zf4 : W6.frozen? ⟨w.heap.size + 1 + 1, 0, none⟩ = false := Boxed.frozen (W := W6) hr6.x4
          have z4 : W6.cell? ⟨w.heap.size + 1 + 1, 0, none⟩ = some (.int .i64 0) := (blk_cell hr6.x4 0).trans rfl
          have hall : formedT ⟨kind, v, q, ts⟩ n = true := by
            rw [HFORM.out, List.all_eq_true]
            exact fun x hx => hj5 x (by simpa using hx)
          have HCK2 : Aside0 (checkF ⟨kind, v, q, ts⟩ n = if 65536 < sizeT ⟨kind, v, q, ts⟩ then 2 else 0) := ⟨by rw [HCK.out, hall]; simp⟩
          clear e1 e2 hend hr6 hkb5 hj5 hr5 HREC hall HCK HFORM hsp
          generalize sizeT ⟨kind, v, q, ts⟩ = sz at *
          by_cases h3 : 65536 < sz
          · have h3' : (65536 : Int) < sz := by omega
            rw [if_pos h3] at HCK2
            clear h3 hsz HLEN
            gi_wp2
            exact CIn.leave (HR6.out.set4 HSP.out 2) HSP.out fun w' hw' hx' => ⟨_, results_e rfl rfl hx', by rw [HCK2.out], hw'⟩
          · have h3' : ¬ (65536 : Int) < sz := by omega
            rw [if_neg h3] at HCK2
            clear h3 hsz HLEN
            gi_wp2
            exact CIn.leave (HR6.out.set4 HSP.out 0) HSP.out fun w' hw' hx' => ⟨_, results_e rfl rfl hx', by rw [HCK2.out], hw'⟩
        · have e1 : (rec .done (some .ret)).state ≠ .busy := by rw [← HREC.out]; simp [recOf]
          have e2 : (rec .done (some .ret)).pending = some .ret := by rw [← HREC.out]
          obtain ⟨W6, r6, hend, hr6⟩ := CIn.end_ (P := Try.prog) hr5 hsp e1 e2
          have HR6 := Aside0.mk hr6
          refine ⟨some .ret, W6, hend, ?_⟩
          have hall : formedT ⟨kind, v, q, ts⟩ n = false := by
            rw [HFORM.out, List.all_eq_false]
            exact ⟨x, hx, by simp [hxf]⟩
          have HCK2 : Aside0 (checkF ⟨kind, v, q, ts⟩ n = 1) := ⟨by rw [HCK.out, hall]; simp⟩
          clear e1 e2 hend hr6 hkb5 hr5 HREC hall HCK HFORM hsp hx hxf HLEN
          gi_wp2
          exact CIn.leave HR6.out HSP.out fun w' hw' hx' => ⟨_, results_e rfl rfl hx', by rw [HCK2.out], hw'⟩
/-- In the form that printed callers ask for. -/
def flat_Check.f (kind v q : Int) (l : List S24) (n : Int) : Option Int := if sizeT ⟨kind, v, q, l⟩ ≤ 1048576 then some (checkF ⟨kind, v, q, l⟩ n) else none
theorem flat_Check.calls (kind v q : Int) (A : Option Addr) (c : Nat) (l : List S24) (n : Int) (r : Int) (w : World) (hC : Kd.C k24 w A l.length l) (hc : l.length ≤ c) (h : flat_Check.f kind v q l n = some r) :
    Calls Try.prog 21 #[.agg #[.int .i64 kind, .int .i64 v, .int .i64 q, .slice A l.length c], .int .i64 n] w fun e w' => e = .returned (.int .i64 r) ∧ Below w.heap.size w w' := by
  unfold flat_Check.f at h
  by_cases hs : sizeT ⟨kind, v, q, l⟩ ≤ 1048576
  · rw [if_pos hs] at h
    obtain rfl := Option.some.inj h
    exact callsIn_wide.1 (Check.calls ⟨kind, v, q, l⟩ A c n w hC hc hs)
  · rw [if_neg hs] at h
    cases h
end Go.Proofs.Ytkcmkoolcakfjaa.P

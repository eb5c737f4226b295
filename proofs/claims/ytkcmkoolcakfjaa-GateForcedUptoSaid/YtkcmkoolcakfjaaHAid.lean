/- Small laws for the walks of this seat: a literal of one element, an append of one element whose place is known, rows that are the call's own beside others; no program in them. -/
import Derived.Test.YtkcmkoolcakfjaaWMore
import Derived.Test.YtkcmkoolcakfjaaWNEv
import Derived.Test.YtkcmkoolcakfjaaWGuard
namespace Go.Proofs.Ytkcmkoolcakfjaa.Aid
open Go.RowKit Go.Proofs.YtkcmkoolcakfjaaW.PrintWords Go.Proofs.YtkcmkoolcakfjaaW.PrintLast Go.Proofs.YtkcmkoolcakfjaaW.PrintMore
set_option linter.unusedVariables false
set_option linter.unusedSimpArgs false

/-- A row of scalars of the call's own. -/
def Row {α : Type} (enc : α → Value) (W : World) (B e : Nat) (v : Value) (xs : List α) : Prop := W.ownsRow B e 1 v xs.length (encs enc xs)

section
variable {α : Type} {enc : α → Value} {W w1 : World} {B e : Nat} {v : Value} {xs : List α}
theorem Row.nil (enc : α → Value) (W : World) (B e : Nat) : Row enc W B e (.slice none 0 0) [] := World.ownsRow_nil W B e 1
theorem Row.move (h : Row enc W B e v xs) (hm : ∀ k, v.ownBlock = some k → w1.heap[k]? = W.heap[k]?) : Row enc w1 B e v xs := own_move h hm
theorem Row.lt (h : Row enc W B e v xs) : ∀ k, v.ownBlock = some k → B ≤ k ∧ k < W.heap.size := World.ownsRow.lt h
theorem Row.below (h : Row enc W B e v xs) (hb : Below W.heap.size W w1) : Row enc w1 B e v xs := h.move fun k hk => hb.block k (h.lt k hk).2
theorem Row.grown (h : Row enc W B e v xs) {row : Option Nat} (hg : W.grownBy w1 row) (hne : ∀ k, v.ownBlock = some k → some k ≠ row) : Row enc w1 B e v xs :=
  h.move fun k hk => hg.block k (h.lt k hk).2 (hne k hk)
theorem Row.far (h : Row enc W B e v xs) {p : Addr} (hne : ∀ k, v.ownBlock = some k → k ≠ p.block) (u : Value) : Row enc (W.setCell p u) B e v xs :=
  h.move fun k hk => Below.heap_setCell W p u k (hne k hk)
theorem Row.typed (h : Row enc W B e v xs) : ∀ k, v.ownBlock = some k → ∃ cells, W.heap[k]? = some (.cells cells e (0, 0)) := fun k hk => own_typed h k hk
theorem Row.ne_block (h : Row enc W B e v xs) {g t : Nat} {cells : Array Value} (hb : W.heap[g]? = some (.cells cells t (0, 0))) (ht : e ≠ t) : ∀ k, v.ownBlock = some k → k ≠ g := by
  intro k hk he
  subst he
  obtain ⟨cs, hc⟩ := h.typed k hk
  rw [hc] at hb
  injection hb with hb
  injection hb with _ hb
  exact ht hb
theorem Row.reads {h1 : ∀ x, (enc x).oneCell' = true} (h : Row enc W B e v xs) : ∃ A c, v = .slice A xs.length c ∧ xs.length ≤ c ∧ (Kd.scalar enc h1).C W A xs.length xs := by
  have hR : (Kd.scalar enc h1).R e W B (fun _ => True) v xs := Kd.R_of_own h (fun _ _ => trivial)
  exact Kd.R_reads hR
/-- The value's shape, its length a letter. -/
theorem Row.form (h : Row enc W B e v xs) : ∃ A n c, v = .slice A n c := by
  rcases h.2 with ⟨rfl, _⟩ | ⟨g, cap, cur, rfl, _⟩
  · exact ⟨_, _, _, rfl⟩
  · exact ⟨_, _, _, rfl⟩
theorem Row.toR {h1 : ∀ x, (enc x).oneCell' = true} (h : Row enc W B e v xs) (ok : Nat → Prop) (hok : ∀ k, v.ownBlock = some k → ok k) : (Kd.scalar enc h1).R e W B ok v xs := Kd.R_of_own h hok
theorem Row.ofR {h1 : ∀ x, (enc x).oneCell' = true} {ok : Nat → Prop} (h : (Kd.scalar enc h1).R e W B ok v xs) : Row enc W B e v xs := Kd.own_of_R h
theorem Row.lower {B' : Nat} (h : Row enc W B e v xs) (hb : B' ≤ B) : Row enc W B' e v xs := own_weaken h hb
/-- A literal's block. -/
theorem Row.lit (W : World) (B e : Nat) (x : α) (hB : B ≤ W.heap.size) : Row enc (W.alloc (.cells #[enc x] e)) B e (.slice (some ⟨W.heap.size, 0, none⟩) 1 1) [x] := by
  have h := World.ownsRow_lit (base := B) (e := e) (size := 1) W #[enc x] 1 hB (by simp [maxLen]) (by simp)
  exact h
theorem Row.of_block {g : Nat} {x : α} (hB : B ≤ g) (hb : W.heap[g]? = some (.cells #[enc x] e (0, 0))) : Row enc W B e (.slice (some ⟨g, 0, none⟩) 1 1) [x] :=
  ⟨by simp [encs], .inr ⟨g, 1, #[enc x], rfl, hB, hb, Nat.le_refl _, by simp [maxLen], by simp, by simp [encs]⟩⟩
end

section
variable {P : Program} {ops : Array Oper} {rest : List Oper} {o : Oper} {a : Act} {Q : Exit → Act → World → Prop} {Kc : Act → World → Prop} {α : Type} {enc : α → Value}
/-- A literal of one element in a region that draws. -/
theorem lit1_step {W : World} (hw : Region.wanted o (yielded ops a.tmps) = true) {y : Value} {e : Nat}
    (hrun : (execOp a.eval o).run P W = .ok (.value (.slice (some ⟨W.heap.size, 0, none⟩) 1 1)) (W.alloc (.cells #[y] e (0, 0))))
    (h : ∀ b, b = W.heap.size → ∀ w1, w1.heap[b]? = some (.cells #[y] e (0, 0)) → Below W.heap.size W w1 → Kc (a.put o.dst (.slice (some ⟨b, 0, none⟩) 1 1)) w1) :
    if Region.wanted o (yielded ops a.tmps) = true then Oper.wp P o a W Kc Q else Kc (a.put o.dst undef) W :=
  event_step hw hrun (h _ rfl _ (blk_new W _) (below_alloc (Below.refl _ _) _))
/-- What an append of one element, which lies in block b, does. -/
theorem run_app1 {W : World} (B : Nat) (t ty e : TypeId) (z : Value) (bytes : Nat) (ht : P.underlying t = some (.slice e)) (hinfo : (P.info? e).map (fun i => (i.zero, i.size, i.bytes)) = some (some z, 1, bytes)) (hz : z.cells.size = 1) (hb0 : 0 < bytes) (h1 : ∀ x, (enc x).oneCell' = true)
    {v : Value} {xs : List α} {y : α} {b : Nat} (HO : Row enc W B e v xs) (hb : W.heap[b]? = some (.cells #[enc y] e (0, 0))) (hB : B ≤ W.heap.size) (hl : (xs.length + 1) * bytes ≤ 140737488355328) :
    ∃ v1 w1, (Builtin.append_ #[t, t] ty #[v, .slice (some ⟨b, 0, none⟩) 1 1]).run P W = .ok v1 w1 ∧ Row enc w1 B e v1 (xs ++ [y]) ∧ W.grownBy w1 v.ownBlock ∧ (v1.ownBlock = v.ownBlock ∨ v1.ownBlock = some W.heap.size) ∧ ∃ k, v1.ownBlock = some k := by
  obtain ⟨i0, hi, hzz⟩ := Option.map_eq_some_iff.1 hinfo
  simp only [Prod.mk.injEq] at hzz
  obtain ⟨hz0, hz1, hz2⟩ := hzz
  have hlen : xs.length + 1 ≤ 140737488355328 := Nat.le_trans (Nat.le_mul_of_pos_right _ hb0) hl
  obtain ⟨v1, w1, hr, ho, hg, _, hat⟩ := run_append_own_at (P := P) W B t ty e i0 z 1 bytes ht hi hz0 hz1 hz2 hz (by omega) v xs.length (encs enc xs) HO ⟨b, 0, none⟩ 1 1 [enc y] rfl
    (World.news_of_block (cs := #[enc y]) (t := e) (fr := (0, 0)) hb) (by simp [h1]) (by simp only [maxLen]; omega) hl hB
  have ho' : Row enc w1 B e v1 (xs ++ [y]) := by simpa [Row, encs] using ho
  refine ⟨v1, w1, hr, ho', hg, hat, ?_⟩
  obtain ⟨g, cap, he, _⟩ := World.ownsRow.form ho' (by simp)
  exact ⟨g, by rw [he]; rfl⟩
/-- An append of one element in a region that draws. -/
theorem app1_step {W : World} (B : Nat) (s x : Operand) (t e : TypeId) (z : Value) (bytes : Nat) (hw : Region.wanted o (yielded ops a.tmps) = true)
    (ho : o.op = .call { callee := .builtin .append, args := #[s, x], argTypes := #[t, t] })
    (ht : P.underlying t = some (.slice e)) (hinfo : (P.info? e).map (fun i => (i.zero, i.size, i.bytes)) = some (some z, 1, bytes)) (hz : z.cells.size = 1) (hb0 : 0 < bytes) (h1 : ∀ x, (enc x).oneCell' = true)
    {v : Value} {xs : List α} {y : α} {b : Nat} (hs : a.eval s = v) (hx : a.eval x = .slice (some ⟨b, 0, none⟩) 1 1) (HO : Row enc W B e v xs) (hb : W.heap[b]? = some (.cells #[enc y] e (0, 0))) (hB : B ≤ W.heap.size) (hl : (xs.length + 1) * bytes ≤ 140737488355328)
    (h : ∀ v1 w1, Row enc w1 B e v1 (xs ++ [y]) → W.grownBy w1 v.ownBlock → (v1.ownBlock = v.ownBlock ∨ v1.ownBlock = some W.heap.size) → (∃ k, v1.ownBlock = some k) → Kc (a.put o.dst v1) w1) :
    if Region.wanted o (yielded ops a.tmps) = true then Oper.wp P o a W Kc Q else Kc (a.put o.dst undef) W := by
  obtain ⟨v1, w1, hr, h2, h3, h4, h5⟩ := run_app1 (P := P) (enc := enc) B t o.type e z bytes ht hinfo hz hb0 h1 HO hb hB hl
  rw [if_pos hw]
  unfold Oper.wp execOp
  simp only [ho, resolve, invoke, builtin, Sem.run_bind, Sem.run_pure, Result.andThen_ok, List.map_toArray, List.map_cons, List.map_nil, hs, hx, hr]
  exact h v1 w1 h2 h3 h4 h5
/-- The same in a walk. -/
theorem app1_list {W : World} (B : Nat) (hgd : o.guard = none) (s x : Operand) (t e : TypeId) (z : Value) (bytes : Nat)
    (ho : o.op = .call { callee := .builtin .append, args := #[s, x], argTypes := #[t, t] })
    (ht : P.underlying t = some (.slice e)) (hinfo : (P.info? e).map (fun i => (i.zero, i.size, i.bytes)) = some (some z, 1, bytes)) (hz : z.cells.size = 1) (hb0 : 0 < bytes) (h1 : ∀ x, (enc x).oneCell' = true)
    {v : Value} {xs : List α} {y : α} {b : Nat} (hs : a.eval s = v) (hx : a.eval x = .slice (some ⟨b, 0, none⟩) 1 1) (HO : Row enc W B e v xs) (hb : W.heap[b]? = some (.cells #[enc y] e (0, 0))) (hB : B ≤ W.heap.size) (hl : (xs.length + 1) * bytes ≤ 140737488355328)
    (h : ∀ v1 w1, Row enc w1 B e v1 (xs ++ [y]) → W.grownBy w1 v.ownBlock → (v1.ownBlock = v.ownBlock ∨ v1.ownBlock = some W.heap.size) → (∃ k, v1.ownBlock = some k) → wpList P ops Q rest (a.put o.dst v1) w1) :
    wpList P ops Q (o :: rest) a W := by
  obtain ⟨v1, w1, hr, h2, h3, h4, h5⟩ := run_app1 (P := P) (enc := enc) B t o.type e z bytes ht hinfo hz hb0 h1 HO hb hB hl
  refine wpList_plain hgd fun K hK => ?_
  unfold Oper.wp execOp
  simp only [ho, resolve, invoke, builtin, Sem.run_bind, Sem.run_pure, Result.andThen_ok, List.map_toArray, List.map_cons, List.map_nil, hs, hx, hr]
  exact hK _ _ (h v1 w1 h2 h3 h4 h5)
/-- A call that panics, in a region that draws. -/
theorem callp_step {W : World} (f : FuncId) (args : Array Value) (hw : Region.wanted o (yielded ops a.tmps) = true) (hrun : (execOp a.eval o).run P W = .ok (.enter f args) W)
    (h : Calls P f args W fun e w' => ∃ ch, e = .panicked ch ∧ Q (.panic ch) a w') : if Region.wanted o (yielded ops a.tmps) = true then Oper.wp P o a W Kc Q else Kc (a.put o.dst undef) W := by
  rw [if_pos hw]
  unfold Oper.wp
  rw [hrun, Oper.upon_enter]
  refine h.mono fun e w'' hh => ?_
  obtain ⟨ch, rfl, hk⟩ := hh
  exact hk
end
end Go.Proofs.Ytkcmkoolcakfjaa.Aid

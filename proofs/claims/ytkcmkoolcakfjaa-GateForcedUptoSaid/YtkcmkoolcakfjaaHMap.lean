/- Maps with keys of kind int whose entries are known: an insert, a lookup. -/
import Derived.Test.YtkcmkoolcakfjaaHAid
import Derived.MapKept
import Derived.RangeFuncOwn
namespace Go.Proofs.Ytkcmkoolcakfjaa.Aid
open Go.MapKept Go.RowKit Go.Proofs.YtkcmkoolcakfjaaW.PrintWords Go.Proofs.YtkcmkoolcakfjaaW.PrintLast Go.Proofs.YtkcmkoolcakfjaaW.PrintMore
set_option linter.unusedVariables false
set_option linter.unusedSimpArgs false
section
variable {P : Program} {W : World}
theorem run_checkKey_int {kt : TypeId} {ik : IntKind} (hk : P.underlying kt = some (.int ik)) (e : Bool) (k : Int) : (Instr.checkKey e 10000 kt (.int ik k)).run P W = .ok () W :=
  run_checkKey (w := W) (k := .int ik k) hk (by simp [IsKey]) e 9999
/-- A new key. -/
theorem run_mapUpdate_new {t kt et : TypeId} {ik : IntKind} (hm : P.underlying t = some (.map kt et)) (hk : P.underlying kt = some (.int ik)) {r : Nat} {es : Array MapEntry} {clock : Nat} (hb : W.heap[r]? = some (.map es clock)) (k : Int) (val : Value) (hf : Instr.findNow (.int ik) (.int ik k) es.toList 0 = some none) :
    (Instr.mapUpdate t (.map (some r)) (.int ik k) val).run P W = .ok () (W.putObj r (.map (es.push { key := .int ik k, val, born := clock }) (clock + 1))) := by
  have hg : (getObj r).run P W = .ok (.map es clock) W := by simp [getObj, Sem.run, hb]
  have hs : (setObj r (.map (es.push { key := .int ik k, val, born := clock }) (clock + 1))).run P W = .ok () (W.putObj r (.map (es.push { key := .int ik k, val, born := clock }) (clock + 1))) := by simp [setObj, Sem.run, hb, World.putObj]
  simp [Instr.mapUpdate, run_underlying hm, hg, run_checkKey_int hk, run_findKey (w := W) hk hf, hs]
theorem run_lookup_int {t kt et : TypeId} {ik : IntKind} (hm : P.underlying t = some (.map kt et)) (hk : P.underlying kt = some (.int ik)) {r : Nat} {es : Array MapEntry} {clock : Nat} (hb : W.heap[r]? = some (.map es clock)) (k : Int) (val : Value) (i : Nat) (hf : Instr.findNow (.int ik) (.int ik k) es.toList 0 = some (some (i, val))) :
    (Instr.lookup t (.map (some r)) (.int ik k) false).run P W = .ok val W := by
  have hg : (getObj r).run P W = .ok (.map es clock) W := by simp [getObj, Sem.run, hb]
  simp [Instr.lookup, run_underlying hm, hg, run_checkKey_int hk, run_findKey (w := W) hk hf]
variable {ops : Array Oper} {rest : List Oper} {o : Oper} {a : Act} {Q : Exit → Act → World → Prop}
/-- A literal's entry. -/
theorem insert_list (hgd : o.guard = none) {t kt et : TypeId} {ik : IntKind} {m k x : Operand} (ho : o.op = .insert t m k x) (hN : o.dst = none) (hm : P.underlying t = some (.map kt et)) (hk : P.underlying kt = some (.int ik))
    (r : Nat) (es : Array MapEntry) (clock : Nat) (key : Int) (val : Value) (hr : a.eval m = .map (some r)) (hkv : a.eval k = .int ik key) (hv : a.eval x = val) (hb : W.heap[r]? = some (.map es clock)) (hf : Instr.findNow (.int ik) (.int ik key) es.toList 0 = some none)
    (h : ∀ w1, w1.heap[r]? = some (.map (es.push { key := .int ik key, val, born := clock }) (clock + 1)) → W.grownBy w1 (some r) → wpList P ops Q rest a w1) : wpList P ops Q (o :: rest) a W := by
  refine wpList_plain hgd fun K hK => ?_
  have hlt := (Array.getElem?_eq_some_iff.1 hb).1
  have hrun : (execOp a.eval o).run P W = .ok .skip (W.putObj r (.map (es.push { key := .int ik key, val, born := clock }) (clock + 1))) := by
    unfold execOp
    simp [ho, hr, hkv, hv, run_mapUpdate_new hm hk hb key val hf]
  unfold Oper.wp
  rw [hrun]
  show K (a.put o.dst undef) _
  rw [hN]
  exact hK _ _ (h _ (World.putObj_heap_same hlt) (grownBy_putObj' _ _ _))
end
end Go.Proofs.Ytkcmkoolcakfjaa.Aid

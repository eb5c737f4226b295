/- chalklinelaw13.GateForced: for every ground formula and assignment whose bulk is at most 1048576, the law answers true and leaves what was handed in as it was. -/
import Derived.Test.YtkcmkoolcakfjaaHOpen
import Derived.Test.YtkcmkoolcakfjaaHLaws6

namespace Go.Proofs.Ytkcmkoolcakfjaa.gateForced
open Go.ChangeShapes Go.WideShapes Go.ChangeAt Go.RowKit Go.Proofs.Ytkcmkoolcakfjaa.P Go.Proofs.YtkcmkoolcakfjaaW.PrintWords
set_option linter.unusedVariables false
set_option linter.unusedSimpArgs false

theorem own : ownKnob Try.prog.godebug = none := by kernel_rfl
theorem laidOut : laidOutB Try.prog = true := by kernel_rfl

set_option maxRecDepth 100000 in
theorem contract (H : Type) (enc : TypeId × Value → H) (W : World) (base : Nat) (args : Array Value) (ds gs : List (DataW H)) (before : List MemPlace)
    (hval : ∀ (j : Nat) t v, Try.f9.params[j]? = some t → args[j]? = some v → Value.okWide Try.prog W .any base t v)
    (hW : DataW.Whole enc Try.prog Try.f9.params.toList Rows.gateForcedSpec.vars false W args.toList ds gs before) (hk : Rows.uptoSmall H (ds ++ gs) = true) :
    Calls Try.prog 9 args W fun e W' => ∃ v, e = .returned v ∧ Rows.gateForcedSpec.post enc Try.prog Try.f9 false true false false W args v W' := by
  have hW' := hW
  obtain ⟨p, q, hA0, hV, rfl, hfz, hnd⟩ := hW
  have hA : DataW.TrodAll enc Try.prog W 0 (fun _ => true) true Try.f9.params.toList args.toList ds p := hA0
  rw [Try.params9] at hA hval
  obtain ⟨v0, vs0, d0, ds0, p0, q0, hargs, rfl, rfl, h0, r0⟩ := trodAll_cons hA
  obtain ⟨v1, vs1, d1, ds1, p1, q1, rfl, rfl, rfl, h1, r1⟩ := trodAll_cons r0
  obtain ⟨rfl, rfl, rfl⟩ := trodAll_nil r1
  obtain rfl : args = #[v0, v1] := by cases args; simp_all
  obtain ⟨rfl, rfl⟩ := trodVars_none hV
  have lt0 : ∀ x ∈ p0, x.block < W.heap.size := by obtain ⟨m, hm⟩ := h0; exact DataW.trod_lt m _ _ _ hm
  have lt1 : ∀ x ∈ p1, x.block < W.heap.size := by obtain ⟨m, hm⟩ := h1; exact DataW.trod_lt m _ _ _ hm
  obtain ⟨a1, len1, cap1, rfl⟩ := okWide_slice Try.underlying43 (hval 1 43 v1 rfl rfl)
  obtain ⟨bs, B, k, hu, hk1, hD, hbu⟩ : ∃ (ts : List Bool) (A : Option Addr) (c : Nat), Value.slice a1 len1 cap1 = .slice A ts.length c ∧ ts.length ≤ c ∧ Kd.C Kd.bool W A ts.length ts ∧ ts.length ≤ Rows.uptoBulk d1 := by
    obtain ⟨m, hm⟩ := h1
    exact trod_bools m _ _ hm
  have hv0 := hval 0 24 v0 rfl rfl
  obtain ⟨cs0, rfl⟩ : ∃ cs, v0 = .agg cs := by
    unfold Value.okWide at hv0
    rw [Try.underlying24] at hv0
    obtain ⟨cs, rfl, _⟩ := hv0
    exact ⟨cs, rfl⟩
  obtain ⟨T, A, c, hcs, hc, hC, hb⟩ : ∃ (T : S24) (A : Option Addr) (c : Nat), cs0.toList = [.int .i64 T.f0, .int .i64 T.f1, .int .i64 T.f2, .slice A T.f3.length c] ∧ T.f3.length ≤ c ∧ Kd.C k24 W A T.f3.length T.f3 ∧ sizeT T ≤ Rows.uptoBulk d0 := by
    obtain ⟨m, hm⟩ := h0
    exact trod_tree m _ _ hm
  have hsz : sizeT T + bs.length ≤ 1048576 := by
    have h := of_decide_eq_true hk
    simp only [List.append_nil, List.cons_append, List.nil_append, Rows.uptoBulkAll] at h
    omega
  obtain rfl : cs0 = #[.int .i64 T.f0, .int .i64 T.f1, .int .i64 T.f2, .slice A T.f3.length c] := by
    rw [← hcs]
  rw [hu] at h1 hW' ⊢
  clear hA0 hcs hu
  simp only [List.append_nil] at hW'
  obtain ⟨K, hK⟩ := GateForced_tells T.f0 T.f1 T.f2 T.f3 bs (by rw [eta24]; omega) (by omega)
  refine (chalklinelaw13_GateForced.calls K T.f0 T.f1 T.f2 A c T.f3 B k bs true W hC hc hD hk1 hK).mono fun e W' ⟨he, bel⟩ => ?_
  subst he
  exact ⟨_, rfl, _, _, _, [], _, [], hW', trodAll_mk1 (shut_bool Try.underlying4 _), trodAll_cons_mk (Below.trod laidOut (by kernel_rfl) (of_decide_eq_true (by kernel_rfl)) h0 bel lt0) (trodAll_cons_mk (Below.trod laidOut (by kernel_rfl) (of_decide_eq_true (by kernel_rfl)) h1 bel lt1) trodAll_mk0), rfl, bel.frame _, fun h => by cases h⟩

set_option maxRecDepth 100000 in
theorem lifted (os : Os) (started : os.Started) (H : Type) (enc : TypeId × Value → H) (F : Stop.Interp) :
    ReturnsInHanded {} Try.checked os 9 .any ((Rows.OpenSpec.upto Rows.gateForcedSpec).pre6 enc Try.prog Try.f9 Rows.gateForcedUptoRow.domain false) (((Rows.OpenSpec.upto Rows.gateForcedSpec).at F).post enc Try.prog Try.f9 false true false false) := by
  refine returnsInHanded_of_cond (C := Try.checked) (s := Rows.OpenSpec.upto Rows.gateForcedSpec) (k := Rows.uptoSmall) rfl own started (by kernel_rfl) Try.func9
    (OpenSpec.witness (enc := enc) (C := Try.checked) (s := Rows.OpenSpec.upto Rows.gateForcedSpec) (k := Rows.uptoSmall) rfl false ⟨#[], #[.agg #[.int .i64 1, .int .i64 0, .int .i64 0, .slice none 0 0], .slice none 0 0], []⟩ 8 (by kernel_rfl) (by kernel_rfl) (by kernel_rfl)
      (x := ([.agg [.lit (.int .i64 1), .lit (.int .i64 0), .lit (.int .i64 0), .nil], .nil], [], [])) (by kernel_rfl) rfl (by kernel_rfl)) ?_
  intro W base args ds gs before hval hW _ hk _
  exact contract H enc W base args ds gs before hval hW hk

theorem proved : Rows.GateForcedUptoSaid :=
  OpenClaim.holds_of_cond 9 Try.f9 rfl rfl rfl rfl rfl rfl rfl ⟨rfl, rfl, rfl, rfl, rfl⟩ rfl rfl rfl rfl rfl (by kernel_rfl) Try.func9 (by kernel_rfl)
    (of_decide_eq_true (by kernel_rfl)) (by unfold Func.isWrapper; first | (rw [if_pos (by decide +kernel)]; kernel_rfl) | (rw [if_neg (by decide +kernel)]; exact ⟨rfl, rfl⟩))
    (fun os started H enc _ F => lifted os started H enc F)
end Go.Proofs.Ytkcmkoolcakfjaa.gateForced

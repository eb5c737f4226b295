/- slices.Clone at []int: what it hands back is a row of its own that reads as the argument. -/
import Derived.Test.YtkcmkoolcakfjaaPx0
import Derived.Lib.LazyBuf
namespace Go.Proofs.Ytkcmkoolcakfjaa.P
open Go.RowKit Go.Proofs.YtkcmkoolcakfjaaW.PrintWords Go.Proofs.YtkcmkoolcakfjaaW.PrintLast Go.Proofs.YtkcmkoolcakfjaaW.PrintMore
set_option linter.unusedVariables false
set_option linter.unusedSimpArgs false

set_option maxRecDepth 100000 in
set_option maxHeartbeats 1000000 in
theorem slices_Clone.calls (A : Option Addr) (c : Nat) (l : List Int) (w : World) (hr : Kd.C (Kd.int .i64) w A l.length l) (hc : l.length ≤ c) (hl : l.length * 8 ≤ 140737488355328) :
    Calls Try.prog 81 #[.slice A l.length c] w fun e w' => ∃ v, e = .returned v ∧ Kd.R (Kd.int .i64) 3 w' w.heap.size (fun k => w.heap.size ≤ k) v l ∧ Below w.heap.size w w' := by
  have HR := Aside0.mk hr
  have HL := Aside0.mk hl
  clear hr hl
  have heq : ∀ W : World, (binOp .eql 34 (.slice A l.length c) (.slice none 0 0)).run Try.prog W = .ok (.bool A.isNone) W := fun W => Go.run_eql_slice_nil W 34 3 A l.length c Try.underlying34
  cases A with
  | none =>
    have h0 : l = [] := by
      by_cases h : 0 < l.length
      · obtain ⟨ad, he, _⟩ := HR.out.2.2 h
        cases he
      · exact List.eq_nil_of_length_eq_zero (by omega)
    subst h0
    simp only [Option.isNone_none, List.length_nil] at heq
    go_enter Try.func81, Try.ntmps81
    go_wp2
    go_ret
    exact ⟨_, rfl, Kd.R_nil _ _ _ _ _, Below.refl _ _⟩
  | some ad =>
    simp only [Option.isNone_some] at heq
    go_enter Try.func81, Try.ntmps81
    go_wp2_with (first
      | ((with_reducible refine gate_dst (N := 5) rfl ?_); refine Kd.R_lit (Kd.int .i64) (w0 := w) w.heap.size 3 ?hg (N := 5) ?hd (xs := ([] : List Int)) (inner := []) (ok := fun k => w.heap.size ≤ k) (okp := fun k => w.heap.size ≤ k) ?hr (Reps.none _ _) (fun _ hk => hk) (Nat.le_refl _) (Below.refl _ _) (Nat.le_refl _) (by simp) ?_; (case hd => rfl); (case hg => rfl); (case hr => first | (go_simp; done) | (go_simp; rfl)); intro v1 w1 ho hb hg_ hnew; have HO := Aside0.mk ho; have HB := Aside0.mk hb; have HG := Aside0.mk hg_; clear ho hb hg_ hnew)
      | ((with_reducible refine gate_dst (N := 7) rfl ?_); refine Kd.R_append_row (Value.int .i64) 0 (w0 := w) w.heap.size ?hg (.tmp 5) (.tmp 6) 34 3 (.int .i64 0) 8 ?ho Try.underlying34 info3 rfl (by decide) v1 [] l (some ad) l.length c (fun k => w.heap.size ≤ k) ?hs ?hx ?hf HO.out (Kd.C_below HR.out HB.out) HB.out HB.out.size ?hl ?_; (case hg => rfl); (case ho => rfl); (case hs => rfl); (case hx => rfl); (case hf => intro k hk; exact Nat.le_trans HB.out.size hk); (case hl => have := HL.out; simp; omega); intro v2 w2 ho2 hb2 _ _; have HO2 := Aside0.mk ho2; have HB2 := Aside0.mk hb2; clear ho2 hb2))
    go_ret
    exact ⟨_, rfl, by have h := HO2.out; simp only [List.nil_append] at h; exact h, HB2.out⟩
end Go.Proofs.Ytkcmkoolcakfjaa.P

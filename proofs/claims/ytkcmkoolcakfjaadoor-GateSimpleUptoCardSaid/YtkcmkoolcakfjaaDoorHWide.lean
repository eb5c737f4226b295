/- gate.wide: has a node of a tree too many operands? -/
import Derived.Test.YtkcmkoolcakfjaaDoorHIndex
namespace Go.Proofs.YtkcmkoolcakfjaaDoor.P
open Go.RowKit Go.Proofs.YtkcmkoolcakfjaaDoorW.PrintWords Go.Proofs.YtkcmkoolcakfjaaDoorW.PrintLast Go.Proofs.YtkcmkoolcakfjaaDoorW.PrintMore Go.Proofs.YtkcmkoolcakfjaaDoor.Aid
set_option linter.unusedVariables false
set_option linter.unusedSimpArgs false

theorem wideTs_any (ts : List S24) : wideTs ts = ts.any wideT := by
  induction ts with
  | nil => rfl
  | cons t ts ih => simp [wideTs, ih]
theorem sizeTs_mem {ts : List S24} : ∀ t ∈ ts, sizeT t ≤ sizeTs ts := by
  induction ts with
  | nil => intro t ht; cases ht
  | cons a ts ih =>
    intro t ht
    rcases List.mem_cons.1 ht with rfl | ht
    · simp [sizeTs]
    · have := ih t ht; simp only [sizeTs]; omega
theorem sizeTs_length (ts : List S24) : ts.length ≤ sizeTs ts := by
  induction ts with
  | nil => simp [sizeTs]
  | cons t ts ih =>
    have : 1 ≤ sizeT t := by cases t; simp [sizeT]
    simp only [sizeTs, List.length_cons]
    omega

set_option maxRecDepth 100000 in
set_option maxHeartbeats 1000000 in
theorem wide.calls (N : Nat) (hN : N ≤ 1048576) : ∀ (T : S24) (A : Option Addr) (c : Nat) (w0 w : World), sizeT T ≤ N → Below w0.heap.size w0 w → Kd.C k24 w0 A T.f3.length T.f3 → T.f3.length ≤ c →
    Calls Tryd.prog 20 #[.agg #[.int .i64 T.f0, .int .i64 T.f1, .int .i64 T.f2, .slice A T.f3.length c]] w fun e w' => e = .returned (.bool (wideT T)) ∧ Below w.heap.size w w' := by
  induction N with
  | zero => intro T; intros; have : 1 ≤ sizeT T := by { cases T; simp [sizeT] }; omega
  | succ N ih =>
    rintro ⟨kind, v, q, ts⟩ A c w0 w hsz hW hC hc
    simp only at hC hc ⊢
    have hlen : ts.length ≤ 1048576 := by have := sizeTs_length ts; simp only [sizeT] at hsz; omega
    by_cases h1 : 4095 < ts.length
    · have hT : wideT ⟨kind, v, q, ts⟩ = true := by simp [wideT, h1]
      have HT := Aside0.mk hT
      clear hT hC hW ih
      have h1' : (4095 : Int) < ts.length := by omega
      have h1b : decide ((4095 : Int) < ts.length) = true := decide_eq_true h1'
      go_enter Tryd.func20, Tryd.ntmps20
      go_wp2_with fail
      go_ret
      exact ⟨by rw [HT.out]; rfl, below_alloc (Below.refl _ _) _⟩
    · have hT : wideT ⟨kind, v, q, ts⟩ = ts.any wideT := by simp [wideT, h1, wideTs_any]
      have HT := Aside0.mk hT
      have h1b : decide ((4095 : Int) < ts.length) = false := decide_eq_false (by omega)
      have hb0 := below_alloc (Below.refl w.heap.size w) (.cells #[.int .i64 kind, .int .i64 v, .int .i64 q, .slice A ts.length c] 24)
      have HI := Aside0.mk (ContainsFunc_tree.calls 20 #[] wideT A c ts w0 _ (below_step hW hb0) hC hc hlen (fun args w => enters_ Tryd.func20 (by kernel_rfl) rfl args w) (fun x hx A' c' W hW' hC' hc' => by
        have := sizeTs_mem x hx
        simp only [sizeT] at hsz
        exact ih (by omega) x A' c' w0 W (by omega) (below_step (below_step hW hb0) hW') hC' hc'))
      have HB0 := Aside0.mk hb0
      clear hT hC hW ih hb0
      go_enter Tryd.func20, Tryd.ntmps20
      go_wp2_with (go_at_call 38; refine HI.out.mono ?_; rintro e w2 ⟨rfl, hb⟩; have HB := Aside0.mk (below_step HB0.out hb); clear hb)
      go_ret
      exact ⟨by rw [HT.out]; rfl, HB.out⟩
end Go.Proofs.YtkcmkoolcakfjaaDoor.P

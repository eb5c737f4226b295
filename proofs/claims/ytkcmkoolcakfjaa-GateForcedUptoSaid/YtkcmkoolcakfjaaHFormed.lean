/- flat.formed: is a node well-formed? -/
import Derived.Test.YtkcmkoolcakfjaaPx1
import Derived.Test.YtkcmkoolcakfjaaHSpec
namespace Go.Proofs.Ytkcmkoolcakfjaa.P
open Go.RowKit Go.Proofs.YtkcmkoolcakfjaaW.PrintWords Go.Proofs.YtkcmkoolcakfjaaW.PrintLast Go.Proofs.YtkcmkoolcakfjaaW.PrintMore
set_option linter.unusedVariables false
set_option linter.unusedSimpArgs false

theorem formed_tells (kind v q : Int) (l : List S24) (n : Int) : flat_formed.f 3 kind v q l n = some (formedF kind v q l.length n) := by
  have hlen0 : ((l.length : Int) == 0) = (l.length == 0) := by rw [Bool.eq_iff_iff]; simp
  have hlen1 : ((l.length : Int) == 1) = (l.length == 1) := by rw [Bool.eq_iff_iff]; simp; omega
  by_cases h6 : kind = 6
  · subst h6
    by_cases hv : v = 0 <;> by_cases hq : 0 ≤ q <;> simp [flat_formed.f, flat_formed.j0, flat_formed.j1, formedF, hv, hq]
  · by_cases hq : q = 0
    · subst hq
      by_cases h1 : kind = 1
      · subst h1
        by_cases hv : v = 0
        · subst hv; simp [flat_formed.f, flat_formed.j0, formedF, hlen0]
        · by_cases hv1 : v = 1
          · subst hv1; simp [flat_formed.f, flat_formed.j0, formedF, hlen0]
          · simp [flat_formed.f, flat_formed.j0, formedF, hv, hv1]
      · by_cases h2 : kind = 2
        · subst h2
          by_cases hv : 1 ≤ v
          · by_cases hv1 : v ≤ n
            · simp [flat_formed.f, flat_formed.j0, formedF, hv, hv1, hlen0]
            · simp [flat_formed.f, flat_formed.j0, formedF, hv, hv1]
          · simp [flat_formed.f, flat_formed.j0, formedF, hv]
        · by_cases h3 : kind = 3
          · subst h3
            by_cases hv : v = 0
            · subst hv; simp [flat_formed.f, flat_formed.j0, formedF, hlen1]
            · simp [flat_formed.f, flat_formed.j0, formedF, hv]
          · by_cases h4 : kind = 4
            · subst h4; simp [flat_formed.f, flat_formed.j0, flat_formed.j1, formedF]
            · by_cases h5 : kind = 5
              · subst h5; simp [flat_formed.f, flat_formed.j0, flat_formed.j1, formedF]
              · simp [flat_formed.f, flat_formed.j0, flat_formed.j1, formedF, h1, h2, h3, h4, h5, h6]
    · simp [flat_formed.f, flat_formed.j0, formedF, h6, hq]
theorem formed.calls (kind v q : Int) (A : Option Addr) (c : Nat) (l : List S24) (n : Int) (w : World) (hC : Kd.C k24 w A l.length l) (hc : l.length ≤ c) :
    Calls Try.prog 39 #[.agg #[.int .i64 kind, .int .i64 v, .int .i64 q, .slice A l.length c], .int .i64 n] w fun e w' => e = .returned (.bool (formedF kind v q l.length n)) ∧ Below w.heap.size w w' :=
  flat_formed.calls 3 kind v q A c l n _ w hC hc (formed_tells kind v q l n)
end Go.Proofs.Ytkcmkoolcakfjaa.P

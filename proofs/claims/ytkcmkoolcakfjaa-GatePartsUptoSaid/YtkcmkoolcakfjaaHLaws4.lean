/- Encoding a concatenation, in plain Lean. -/
import Derived.Test.YtkcmkoolcakfjaaHLaws2
namespace Go.Proofs.Ytkcmkoolcakfjaa.P
open Go.RowKit Go.Proofs.YtkcmkoolcakfjaaW.PrintWords
set_option linter.unusedVariables false
set_option linter.unusedSimpArgs false

theorem litsF_append (a b : List S24) : ∀ nx, litsF (a ++ b) nx = ((litsF a nx).1 ++ (litsF b (litsF a nx).2.2).1, (litsF a nx).2.1 ++ (litsF b (litsF a nx).2.2).2.1, (litsF b (litsF a nx).2.2).2.2) := by
  induction a with
  | nil => intro nx; simp [litsF]
  | cons t a ih => intro nx; simp [litsF, ih]
theorem madeE_append (a b : List S24) : ∀ nx, madeE (a ++ b) nx = if madeE a nx = 0 then madeE b (litsF a nx).2.2 else madeE a nx := by
  induction a with
  | nil => intro nx; simp [madeE, litsF]
  | cons t a ih =>
    intro nx
    by_cases h1 : checkF t (nx - 1) = 0
    · by_cases h2 : wideT t = true
      · simp [madeE, litsF, h1, h2]
      · by_cases h3 : 65537 < (litF t nx).2.2
        · simp [madeE, litsF, h1, h2, h3]
        · simp [madeE, litsF, h1, h2, h3, ih]
    · simp [madeE, litsF, h1]
theorem madeF_append {a b : List S24} {next : Int} {xa : List Int} {la : List S40} {na ea : Int} {zb : List Int} {ob : List S40} {ib eb : Int} (hA : madeF a next = (xa, la, na, ea)) (hZ : madeF b na = (zb, ob, ib, eb)) :
    madeF (a ++ b) next = if ea ≠ 0 then ([], [], 0, ea) else if eb ≠ 0 then ([], [], 0, eb) else (xa ++ zb, la ++ ob, ib, 0) := by
  by_cases h1 : next < 1
  · have h : madeF a next = ([], [], 0, 1) := by unfold madeF; rw [if_pos h1]
    rw [h] at hA
    simp only [Prod.mk.injEq] at hA
    obtain ⟨rfl, rfl, rfl, rfl⟩ := hA
    unfold madeF
    rw [if_pos h1]
    simp
  · by_cases h2 : 65537 < next
    · have h : madeF a next = ([], [], 0, 1) := by unfold madeF; rw [if_neg h1, if_pos h2]
      rw [h] at hA
      simp only [Prod.mk.injEq] at hA
      obtain ⟨rfl, rfl, rfl, rfl⟩ := hA
      unfold madeF
      rw [if_neg h1, if_pos h2]
      simp
    · by_cases h3 : madeE a next = 0
      · have h : madeF a next = ((litsF a next).1, (litsF a next).2.1, (litsF a next).2.2, 0) := by unfold madeF; rw [if_neg h1, if_neg h2, if_pos h3]
        rw [h] at hA
        simp only [Prod.mk.injEq] at hA
        obtain ⟨rfl, rfl, rfl, rfl⟩ := hA
        have h4 := (madeE_zero a next (by omega) h3).2
        have h5 := (litsF_grows a next).1
        by_cases h6 : madeE b (litsF a next).2.2 = 0
        · have h : madeF b (litsF a next).2.2 = ((litsF b (litsF a next).2.2).1, (litsF b (litsF a next).2.2).2.1, (litsF b (litsF a next).2.2).2.2, 0) := by unfold madeF; rw [if_neg (by omega), if_neg (by omega), if_pos h6]
          rw [h] at hZ
          simp only [Prod.mk.injEq] at hZ
          obtain ⟨rfl, rfl, rfl, rfl⟩ := hZ
          unfold madeF
          rw [if_neg h1, if_neg h2, madeE_append, if_pos h3, if_pos h6, litsF_append]
          simp
        · have h : madeF b (litsF a next).2.2 = ([], [], 0, madeE b (litsF a next).2.2) := by unfold madeF; rw [if_neg (by omega), if_neg (by omega), if_neg h6]
          rw [h] at hZ
          simp only [Prod.mk.injEq] at hZ
          obtain ⟨rfl, rfl, rfl, rfl⟩ := hZ
          unfold madeF
          rw [if_neg h1, if_neg h2, madeE_append, if_pos h3, if_neg h6]
          simp [h6]
      · have h : madeF a next = ([], [], 0, madeE a next) := by unfold madeF; rw [if_neg h1, if_neg h2, if_neg h3]
        rw [h] at hA
        simp only [Prod.mk.injEq] at hA
        obtain ⟨rfl, rfl, rfl, rfl⟩ := hA
        unfold madeF
        rw [if_neg h1, if_neg h2, madeE_append, if_neg h3, if_neg h3, if_pos h3]
end Go.Proofs.Ytkcmkoolcakfjaa.P

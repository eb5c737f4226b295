/- What the printed functions compute, in plain Lean: sizes, widths, the reference's constraints. -/
import Derived.Test.YtkcmkoolcakfjaaPx3
import Derived.Test.YtkcmkoolcakfjaaHGates
namespace Go.Proofs.Ytkcmkoolcakfjaa.P
open Go.RowKit Go.Proofs.YtkcmkoolcakfjaaW.PrintWords
set_option linter.unusedVariables false
set_option linter.unusedSimpArgs false

theorem up_ {α : Type} {g : Nat → Option α} (hm : ∀ k, LeO (g k) (g (k + 1))) {r : α} {k k' : Nat} (h : g k = some r) (hk : k ≤ k') : g k' = some r := by
  induction hk with
  | refl => exact h
  | step _ ih => exact hm _ _ ih
theorem eta24 (t : S24) : (⟨t.f0, t.f1, t.f2, t.f3⟩ : S24) = t := by cases t; rfl
theorem w64 (a : Int) (h : -9223372036854775808 ≤ a ∧ a ≤ 9223372036854775807) : wrap64 a = a := IntWalk.wrap64_in a h

theorem sizeTs_drop (ts : List S24) (i : Int) (h0 : 0 ≤ i) (h1 : i < ts.length) : sizeTs (ts.drop i.toNat) = sizeT (rd_T24 ts i) + sizeTs (ts.drop (i + 1).toNat) := by
  have e : (i + 1).toNat = i.toNat + 1 := by omega
  have hlt : i.toNat < ts.length := by omega
  rw [List.drop_eq_getElem_cons hlt, e]
  simp [sizeTs, rd_T24, List.getD_eq_getElem?_getD, List.getElem?_eq_getElem hlt]
theorem Size_tells (N : Nat) (hN : N ≤ 1048576) : ∀ (k v q : Int) (l : List S24), sizeT ⟨k, v, q, l⟩ ≤ N → ∃ K, chalklineref11_Size.f K k v q l = some (sizeT ⟨k, v, q, l⟩ : Int) := by
  induction N with
  | zero => intro k v q l h; simp [sizeT] at h
  | succ N ih =>
    intro k v q l h
    have hl : ∀ m : Nat, ∀ (acc i : Int), l.length - i.toNat = m → 0 ≤ i → i ≤ l.length → 0 ≤ acc → acc + sizeTs (l.drop i.toNat) ≤ 1048576 → ∃ K, chalklineref11_Size.l0 K acc i k v q l = some (acc + sizeTs (l.drop i.toNat)) := by
      intro m
      induction m with
      | zero =>
        intro acc i hm h0 h1 _ _
        have hi : i = l.length := by omega
        refine ⟨1, ?_⟩
        subst hi
        simp [chalklineref11_Size.l0, sizeTs]
      | succ m ihm =>
        intro acc i hm h0 h1 ha hb
        have hlt : i < l.length := by omega
        have hd := sizeTs_drop l i h0 hlt
        have hmem := rd_T24_mem l i h0 hlt
        have hsz := size_mem _ hmem
        simp only [sizeT] at h
        obtain ⟨K1, hK1⟩ := ih (by omega) (rd_T24 l i).f0 (rd_T24 l i).f1 (rd_T24 l i).f2 (rd_T24 l i).f3 (by
          have : (⟨(rd_T24 l i).f0, (rd_T24 l i).f1, (rd_T24 l i).f2, (rd_T24 l i).f3⟩ : S24) = rd_T24 l i := eta24 _
          rw [this]
          omega)
        have e1 : (⟨(rd_T24 l i).f0, (rd_T24 l i).f1, (rd_T24 l i).f2, (rd_T24 l i).f3⟩ : S24) = rd_T24 l i := eta24 _
        rw [e1] at hK1
        obtain ⟨K2, hK2⟩ := ihm (acc + sizeT (rd_T24 l i)) (i + 1) (by omega) (by omega) (by omega) (by omega) (by rw [hd] at hb; omega)
        refine ⟨max K1 K2 + 1, ?_⟩
        unfold chalklineref11_Size.l0
        rw [if_pos hlt, if_pos h0, up_ (fun k => (chalklineref11_Size.mono_l k).1 _ _ _ _) hK1 (Nat.le_max_left K1 K2), Option.bind_some, w64 _ (by rw [hd] at hb; omega), w64 _ (by have : l.length ≤ 1048576 := by { have := length_le_sizeTs l; omega }; omega)]
        rw [up_ (fun k => (chalklineref11_Size.mono_l k).2 _ _ _ _ _ _) hK2 (Nat.le_max_right K1 K2), hd]
        congr 1
        push_cast
        omega
    obtain ⟨K, hK⟩ := hl (l.length) 1 0 (by simp) (by omega) (by omega) (by omega) (by simp only [sizeT] at h; simp; omega)
    refine ⟨K + 1, ?_⟩
    unfold chalklineref11_Size.f
    rw [hK]
    simp [sizeT]

theorem wideTs_drop (ts : List S24) (i : Int) (h0 : 0 ≤ i) (h1 : i < ts.length) : wideTs (ts.drop i.toNat) = (wideT (rd_T24 ts i) || wideTs (ts.drop (i + 1).toNat)) := by
  have e : (i + 1).toNat = i.toNat + 1 := by omega
  have hlt : i.toNat < ts.length := by omega
  rw [List.drop_eq_getElem_cons hlt, e]
  simp [wideTs, rd_T24, List.getD_eq_getElem?_getD, List.getElem?_eq_getElem hlt]
/-- What the reference's Gates answers. -/
def refF (T : S24) (next : Int) : Int × List S40 × Int × Int :=
  if next < 1 then (0, [], 0, 1) else if 65537 < next then (0, [], 0, 1) else if checkF T (next - 1) ≠ 0 then (0, [], 0, checkF T (next - 1)) else if wideT T = true then (0, [], 0, 2) else
  if 65537 < (litF T next).2.2 then (0, [], 0, 2) else ((litF T next).1, (litF T next).2.1, (litF T next).2.2, 0)
theorem refF_made (T : S24) (next : Int) : refF T next = ((madeF [T] next).1.headD 0, (madeF [T] next).2.1, (madeF [T] next).2.2.1, (madeF [T] next).2.2.2) := by
  unfold refF madeF
  by_cases h1 : next < 1
  · simp [h1]
  · by_cases h2 : 65537 < next
    · simp [h1, h2]
    · rw [if_neg h1, if_neg h1, if_neg h2, if_neg h2]
      by_cases h3 : checkF T (next - 1) = 0
      · by_cases h4 : wideT T = true
        · simp [madeE, h3, h4]
        · by_cases h5 : 65537 < (litF T next).2.2
          · simp [madeE, h3, h4, h5]
          · simp [madeE, h3, h4, h5, litsF]
      · simp [madeE, h3]

end Go.Proofs.Ytkcmkoolcakfjaa.P

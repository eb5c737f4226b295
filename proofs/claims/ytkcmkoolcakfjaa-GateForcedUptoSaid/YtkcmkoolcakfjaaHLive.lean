/- What the laws of the gate lean on, in plain Lean. -/
import Derived.Test.YtkcmkoolcakfjaaHPlain
namespace Go.Proofs.Ytkcmkoolcakfjaa.P
open Go.RowKit Go.Proofs.YtkcmkoolcakfjaaW.PrintWords
set_option linter.unusedVariables false
set_option linter.unusedSimpArgs false

/-- A constraint's lists are of a length that an int tells. -/
def shortC (s : S40) : Prop := s.f0.length ≤ 1099511627776 ∧ s.f1.length ≤ 1099511627776
theorem Same_self (a b : List Int) (c : Int) (ha : a.length ≤ 1099511627776) (hb : b.length ≤ 1099511627776) : ∃ K, chalklineref12_Same.f K a b c a b c = some true := by
  have h1 : ∀ m : Nat, ∀ i : Int, b.length - i.toNat = m → 0 ≤ i → i ≤ b.length → ∃ K, chalklineref12_Same.l1 K i a b c a b c = some true := by
    intro m
    induction m with
    | zero =>
      intro i hm h0 h1
      exact ⟨1, by unfold chalklineref12_Same.l1; rw [if_neg (by omega)]⟩
    | succ m ih =>
      intro i hm h0 h1
      obtain ⟨K, hK⟩ := ih (i + 1) (by omega) (by omega) (by omega)
      exact ⟨K + 1, by unfold chalklineref12_Same.l1; rw [if_pos (by omega), if_pos h0, if_pos (by omega), if_pos rfl, w64 _ (by omega)]; exact hK⟩
  have h0 : ∀ m : Nat, ∀ i : Int, a.length - i.toNat = m → 0 ≤ i → i ≤ a.length → ∃ K, chalklineref12_Same.l0 K i a b c a b c = some true := by
    intro m
    induction m with
    | zero =>
      intro i hm h0 h2
      obtain ⟨K, hK⟩ := h1 b.length 0 (by simp) (by omega) (by omega)
      exact ⟨K + 1, by unfold chalklineref12_Same.l0; rw [if_neg (by omega)]; exact hK⟩
    | succ m ih =>
      intro i hm h0 h2
      obtain ⟨K, hK⟩ := ih (i + 1) (by omega) (by omega) (by omega)
      exact ⟨K + 1, by unfold chalklineref12_Same.l0; rw [if_pos (by omega), if_pos h0, if_pos (by omega), if_pos rfl, w64 _ (by omega)]; exact hK⟩
  obtain ⟨K, hK⟩ := h0 a.length 0 (by simp) (by omega) (by omega)
  refine ⟨K + 1, ?_⟩
  unfold chalklineref12_Same.f
  rw [if_pos rfl, if_pos rfl]
  unfold chalklineref12_Same.j0
  simp [hK]
theorem SameAll_self (l : List S40) (hl : l.length ≤ 1099511627776) (hs : ∀ s ∈ l, shortC s) : ∃ K, chalklineref13_SameAll.f K l l = some true := by
  have h0 : ∀ m : Nat, ∀ i : Int, l.length - i.toNat = m → 0 ≤ i → i ≤ l.length → ∃ K, chalklineref13_SameAll.l0 K l l l.length i = some true := by
    intro m
    induction m with
    | zero =>
      intro i hm h0 h2
      exact ⟨1, by unfold chalklineref13_SameAll.l0; rw [if_neg (by omega)]⟩
    | succ m ih =>
      intro i hm h0 h2
      obtain ⟨K, hK⟩ := ih (i + 1) (by omega) (by omega) (by omega)
      have hmem : rd_T40 l i ∈ l := by
        unfold rd_T40
        rw [List.getD_eq_getElem?_getD, List.getElem?_eq_getElem (show i.toNat < l.length by omega)]
        exact List.getElem_mem _
      obtain ⟨K2, hK2⟩ := Same_self (rd_T40 l i).f0 (rd_T40 l i).f1 (rd_T40 l i).f2 (hs _ hmem).1 (hs _ hmem).2
      refine ⟨max K K2 + 1, ?_⟩
      unfold chalklineref13_SameAll.l0
      rw [if_pos (by omega), if_pos h0, if_pos (by omega), if_pos (by omega), up_ (chalklineref12_Same.mono _ _ _ _ _ _) hK2 (Nat.le_max_right K K2), Option.bind_some, if_pos rfl, w64 _ (by omega), up_ (fun k => (chalklineref13_SameAll.mono_l k) _ _ _ _) hK (Nat.le_max_left K K2)]
  obtain ⟨K, hK⟩ := h0 l.length 0 (by simp) (by omega) (by omega)
  refine ⟨K, ?_⟩
  unfold chalklineref13_SameAll.f
  rw [if_pos rfl]
  exact hK
theorem sumsF_short (x k : Int) (ls : List Int) (hl : ls.length ≤ 4095) : ∀ s ∈ sumsF x k ls, shortC s := by
  intro s hs
  unfold sumsF at hs
  unfold shortC
  split at hs
  · simp at hs; subst hs; simp
  · split at hs
    · simp at hs; subst hs; simp
    · simp at hs
      rcases hs with rfl | rfl
      · simp; omega
      · simp; omega
mutual
theorem litF_short : ∀ (t : S24) (next : Int), wideT t = false → ∀ s ∈ (litF t next).2.1, shortC s
  | ⟨kind, v, q, l⟩, next, hw => by
    simp only [wideT, Bool.or_eq_false_iff, decide_eq_false_iff_not] at hw
    have h := litsF_short l next hw.2
    unfold litF
    split
    · intro s hs; cases hs
    · split
      · exact h
      · intro s hs
        rcases List.mem_append.1 hs with hs | hs
        · exact h s hs
        · exact sumsF_short _ _ _ (by rw [litsF_length]; omega) s hs
theorem litsF_short : ∀ (ts : List S24) (next : Int), wideTs ts = false → ∀ s ∈ (litsF ts next).2.1, shortC s
  | [], next, hw => by intro s hs; simp [litsF] at hs
  | t :: ts, next, hw => by
    simp only [wideTs, Bool.or_eq_false_iff] at hw
    intro s hs
    simp only [litsF, List.mem_append] at hs
    rcases hs with hs | hs
    · exact litF_short t next hw.1 s hs
    · exact litsF_short ts _ hw.2 s hs
end
theorem refF_cases (T : S24) (next : Int) : (∃ e, e ≠ 0 ∧ refF T next = (0, [], 0, e)) ∨ (1 ≤ next ∧ next ≤ 65537 ∧ formedT T (next - 1) = true ∧ checkF T (next - 1) = 0 ∧ wideT T = false ∧ (litF T next).2.2 ≤ 65537 ∧ refF T next = ((litF T next).1, (litF T next).2.1, (litF T next).2.2, 0)) := by
  unfold refF
  by_cases h1 : next < 1
  · exact .inl ⟨1, by simp, by rw [if_pos h1]⟩
  · by_cases h2 : 65537 < next
    · exact .inl ⟨1, by simp, by rw [if_neg h1, if_pos h2]⟩
    · rw [if_neg h1, if_neg h2]
      by_cases h3 : checkF T (next - 1) = 0
      · rw [if_neg (by simpa using h3)]
        by_cases h4 : wideT T = true
        · exact .inl ⟨2, by simp, by rw [if_pos h4]⟩
        · rw [if_neg h4]
          by_cases h5 : 65537 < (litF T next).2.2
          · exact .inl ⟨2, by simp, by rw [if_pos h5]⟩
          · exact .inr ⟨by omega, by omega, checkF_zero h3, h3, by simpa using h4, by omega, by rw [if_neg h5]⟩
      · exact .inl ⟨_, h3, by rw [if_pos h3]⟩
theorem Gates_tells {kind v q : Int} {l : List S24} {next : Int} (hs : sizeT ⟨kind, v, q, l⟩ ≤ 1048576) : gate_Gates.f kind v q l next = some (refF ⟨kind, v, q, l⟩ next) := by
  unfold gate_Gates.f
  rw [if_pos hs, refF_made]
/-- The constraints are no more than an int tells, and short. -/
theorem refF_short (T : S24) (next : Int) : (refF T next).2.1.length ≤ 1099511627776 ∧ ∀ s ∈ (refF T next).2.1, shortC s := by
  rcases refF_cases T next with ⟨e, _, h⟩ | ⟨h1, h2, _, _, h4, h5, h⟩
  · rw [h]; exact ⟨by simp, fun s hs => by cases hs⟩
  · rw [h]
    have := (litF_grows T next).2
    exact ⟨by simp only; omega, litF_short T next h4⟩
theorem live_tells : ∃ K, chalklinelaw13_live.f K = some true := by
  have e3 : refF ⟨4, 0, 0, [⟨2, 1, 0, []⟩, ⟨3, 0, 0, [⟨2, 2, 0, []⟩]⟩]⟩ 3 = (3, [⟨[2, 1, 1], [-3, 1, -2], 2⟩, ⟨[1, 1, 1], [3, -1, 2], 1⟩], 4, 0) := by
    simp [refF, checkF, formedT, formedTs, formedF, sizeT, sizeTs, wideT, wideTs, litF, litsF, sumsF, thr]
  have e2 : refF ⟨4, 0, 0, [⟨2, 1, 0, []⟩, ⟨3, 0, 0, [⟨2, 2, 0, []⟩]⟩]⟩ 2 = (0, [], 0, 1) := by
    simp [refF, checkF, formedT, formedTs, formedF, sizeT, sizeTs, wideT, wideTs, litF, litsF, sumsF, thr]
  obtain ⟨K, hK⟩ := SameAll_self [⟨[2, 1, 1], [-3, 1, -2], 2⟩, ⟨[1, 1, 1], [3, -1, 2], 1⟩] (by simp) (by intro s hs; simp at hs; rcases hs with rfl | rfl <;> simp [shortC])
  refine ⟨K, ?_⟩
  unfold chalklinelaw13_live.f
  simp only [chalklinelaw13_v.f, Option.bind_some]
  rw [Gates_tells (by simp [sizeT, sizeTs]), Gates_tells (by simp [sizeT, sizeTs]), e3, e2]
  simp [hK]

end Go.Proofs.Ytkcmkoolcakfjaa.P

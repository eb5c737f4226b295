/- What the printed functions compute, in plain Lean: sizes, widths, the reference's constraints. -/
import Derived.Test.YtkcmkoolcakfjaaPx4A
import Derived.Test.YtkcmkoolcakfjaaPx3
import Derived.Test.YtkcmkoolcakfjaaHGates
namespace Go.Proofs.Ytkcmkoolcakfjaa.P
open Go.RowKit Go.Proofs.YtkcmkoolcakfjaaW.PrintWords
set_option linter.unusedVariables false
set_option linter.unusedSimpArgs false

theorem up_ {α : Type} {g : Nat → Option α} (hm : ∀ k, LeO (g k) (g (k + 1))) {r : α} {k k' : Nat} (h : g k = some r) (hk : k ≤ k') : g k' = some r := by
  induction hk with
  | refl => exact h
  | step _ ih => exact hm _ _ ih
theorem eta24 (t : S24) : (⟨t.f0, t.f1, t.f2, t.f3⟩ : S24) = t := by cases t; rfl
theorem w64 (a : Int) (h : -9223372036854775808 ≤ a ∧ a ≤ 9223372036854775807) : wrap64 a = a := IntWalk.wrap64_in a h

theorem sizeTs_drop (ts : List S24) (i : Int) (h0 : 0 ≤ i) (h1 : i < ts.length) : sizeTs (ts.drop i.toNat) = sizeT (rd_T24 ts i) + sizeTs (ts.drop (i + 1).toNat) := by
  have e : (i + 1).toNat = i.toNat + 1 := by omega
  have hlt : i.toNat < ts.length := by omega
  rw [List.drop_eq_getElem_cons hlt, e]
  simp [sizeTs, rd_T24, List.getD_eq_getElem?_getD, List.getElem?_eq_getElem hlt]
theorem Size_tells (N : Nat) (hN : N ≤ 1048576) : ∀ (k v q : Int) (l : List S24), sizeT ⟨k, v, q, l⟩ ≤ N → ∃ K, chalklineref11_Size.f K k v q l = some (sizeT ⟨k, v, q, l⟩ : Int) := by
  induction N with
  | zero => intro k v q l h; simp [sizeT] at h
  | succ N ih =>
    intro k v q l h
    have hl : ∀ m : Nat, ∀ (acc i : Int), l.length - i.toNat = m → 0 ≤ i → i ≤ l.length → 0 ≤ acc → acc + sizeTs (l.drop i.toNat) ≤ 1048576 → ∃ K, chalklineref11_Size.l0 K acc i k v q l = some (acc + sizeTs (l.drop i.toNat)) := by
      intro m
      induction m with
      | zero =>
        intro acc i hm h0 h1 _ _
        have hi : i = l.length := by omega
        refine ⟨1, ?_⟩
        subst hi
        simp [chalklineref11_Size.l0, sizeTs]
      | succ m ihm =>
        intro acc i hm h0 h1 ha hb
        have hlt : i < l.length := by omega
        have hd := sizeTs_drop l i h0 hlt
        have hmem := rd_T24_mem l i h0 hlt
        have hsz := size_mem _ hmem
        simp only [sizeT] at h
        obtain ⟨K1, hK1⟩ := ih (by omega) (rd_T24 l i).f0 (rd_T24 l i).f1 (rd_T24 l i).f2 (rd_T24 l i).f3 (by
          have : (⟨(rd_T24 l i).f0, (rd_T24 l i).f1, (rd_T24 l i).f2, (rd_T24 l i).f3⟩ : S24) = rd_T24 l i := eta24 _
          rw [this]
          omega)
        have e1 : (⟨(rd_T24 l i).f0, (rd_T24 l i).f1, (rd_T24 l i).f2, (rd_T24 l i).f3⟩ : S24) = rd_T24 l i := eta24 _
        rw [e1] at hK1
        obtain ⟨K2, hK2⟩ := ihm (acc + sizeT (rd_T24 l i)) (i + 1) (by omega) (by omega) (by omega) (by omega) (by rw [hd] at hb; omega)
        refine ⟨max K1 K2 + 1, ?_⟩
        unfold chalklineref11_Size.l0
        rw [if_pos hlt, if_pos h0, up_ (fun k => (chalklineref11_Size.mono_l k).1 _ _ _ _) hK1 (Nat.le_max_left K1 K2), Option.bind_some, w64 _ (by rw [hd] at hb; omega), w64 _ (by have : l.length ≤ 1048576 := by { have := length_le_sizeTs l; omega }; omega)]
        rw [up_ (fun k => (chalklineref11_Size.mono_l k).2 _ _ _ _ _ _) hK2 (Nat.le_max_right K1 K2), hd]
        congr 1
        push_cast
        omega
    obtain ⟨K, hK⟩ := hl (l.length) 1 0 (by simp) (by omega) (by omega) (by omega) (by simp only [sizeT] at h; simp; omega)
    refine ⟨K + 1, ?_⟩
    unfold chalklineref11_Size.f
    rw [hK]
    simp [sizeT]

theorem wideTs_drop (ts : List S24) (i : Int) (h0 : 0 ≤ i) (h1 : i < ts.length) : wideTs (ts.drop i.toNat) = (wideT (rd_T24 ts i) || wideTs (ts.drop (i + 1).toNat)) := by
  have e : (i + 1).toNat = i.toNat + 1 := by omega
  have hlt : i.toNat < ts.length := by omega
  rw [List.drop_eq_getElem_cons hlt, e]
  simp [wideTs, rd_T24, List.getD_eq_getElem?_getD, List.getElem?_eq_getElem hlt]
theorem broad_tells (N : Nat) (hN : N ≤ 1048576) : ∀ (k v q : Int) (l : List S24), sizeT ⟨k, v, q, l⟩ ≤ N → ∃ K, chalklineref13_broad.f K k v q l = some (wideT ⟨k, v, q, l⟩) := by
  induction N with
  | zero => intro k v q l h; simp [sizeT] at h
  | succ N ih =>
    intro k v q l h
    simp only [sizeT] at h
    have hlen := length_le_sizeTs l
    have hl : ∀ m : Nat, ∀ (i : Int), l.length - i.toNat = m → 0 ≤ i → i ≤ l.length → ∃ K, chalklineref13_broad.l0 K l l.length i k v q l = some (wideTs (l.drop i.toNat) || decide (4095 < l.length)) := by
      intro m
      induction m with
      | zero =>
        intro i hm h0 h1
        have hi : i = l.length := by omega
        refine ⟨1, ?_⟩
        subst hi
        simp [chalklineref13_broad.l0, wideTs]
        omega
      | succ m ihm =>
        intro i hm h0 h1
        have hlt : i < l.length := by omega
        have hd := wideTs_drop l i h0 hlt
        have hmem := rd_T24_mem l i h0 hlt
        have hsz := size_mem _ hmem
        obtain ⟨K1, hK1⟩ := ih (by omega) (rd_T24 l i).f0 (rd_T24 l i).f1 (rd_T24 l i).f2 (rd_T24 l i).f3 (by
          have : (⟨(rd_T24 l i).f0, (rd_T24 l i).f1, (rd_T24 l i).f2, (rd_T24 l i).f3⟩ : S24) = rd_T24 l i := eta24 _
          rw [this]
          omega)
        have e1 : (⟨(rd_T24 l i).f0, (rd_T24 l i).f1, (rd_T24 l i).f2, (rd_T24 l i).f3⟩ : S24) = rd_T24 l i := eta24 _
        rw [e1] at hK1
        obtain ⟨K2, hK2⟩ := ihm (i + 1) (by omega) (by omega) (by omega)
        refine ⟨max K1 K2 + 1, ?_⟩
        unfold chalklineref13_broad.l0
        rw [if_pos hlt, if_pos h0, if_pos hlt, up_ (fun k => (chalklineref13_broad.mono_l k).1 _ _ _ _) hK1 (Nat.le_max_left K1 K2), Option.bind_some, w64 _ (by omega), hd]
        by_cases hw : wideT (rd_T24 l i) = true
        · rw [if_pos hw, hw]; rfl
        · rw [if_neg hw, up_ (fun k => (chalklineref13_broad.mono_l k).2 _ _ _ _ _ _ _) hK2 (Nat.le_max_right K1 K2)]
          simp [hw]
    obtain ⟨K, hK⟩ := hl l.length 0 (by simp) (by omega) (by omega)
    refine ⟨K + 1, ?_⟩
    unfold chalklineref13_broad.f
    rw [hK]
    simp [wideT, Bool.or_comm]

theorem take_int (l : List Int) (i : Int) (h0 : 0 ≤ i) (h1 : i < l.length) : l.take (i + 1).toNat = l.take i.toNat ++ [rd l i] := by
  have e : (i + 1).toNat = i.toNat + 1 := by omega
  rw [e, List.take_succ_eq_append_getElem (by omega)]
  simp [rd, List.getD_eq_getElem?_getD, List.getElem?_eq_getElem (show i.toNat < l.length by omega)]
theorem sums_tells (x k : Int) (l : List Int) (hl : l.length ≤ 4095) (hx : -4503599627370496 ≤ x ∧ x ≤ 4503599627370496) (hk : k ≤ 4503599627370496) (hy : ∀ y ∈ l, -4503599627370496 ≤ y ∧ y ≤ 4503599627370496) : ∃ K, chalklineref13_sums.f K x k l = some (sumsF x k l) := by
  by_cases h1 : k ≤ 0
  · exact ⟨0, by unfold chalklineref13_sums.f sumsF; rw [if_pos h1, if_pos h1]⟩
  · by_cases h2 : k > l.length
    · exact ⟨0, by unfold chalklineref13_sums.f sumsF; rw [if_neg h1, if_neg h1, if_pos h2, if_pos h2, w64 _ (by omega)]⟩
    · have hloop : ∀ m : Nat, ∀ (i : Int) (c1 l1 c2 l2 : List Int), l.length - i.toNat = m → 0 ≤ i → i ≤ l.length → c1.length ≤ i + 1 → l1.length ≤ i + 1 → c2.length ≤ i + 1 → l2.length ≤ i + 1 →
          ∃ K, chalklineref13_sums.l0 K l l.length i c1 l1 k c2 l2 (l.length - k + 1) = some [⟨c1 ++ List.replicate (l.length - i.toNat) 1, l1 ++ l.drop i.toNat, k⟩, ⟨c2 ++ List.replicate (l.length - i.toNat) 1, l2 ++ (l.drop i.toNat).map (fun y => -y), l.length - k + 1⟩] := by
        intro m
        induction m with
        | zero =>
          intro i c1 l1 c2 l2 hm h0 h1 _ _ _ _
          have hi : i = l.length := by omega
          refine ⟨1, ?_⟩
          subst hi
          simp [chalklineref13_sums.l0]
        | succ m ihm =>
          intro i c1 l1 c2 l2 hm h0 h1 e1 e2 e3 e4
          have hlt : i < l.length := by omega
          obtain ⟨K, hK⟩ := ihm (i + 1) (c1 ++ [1]) (l1 ++ [rd l i]) (c2 ++ [1]) (l2 ++ [-(rd l i)]) (by omega) (by omega) (by omega) (by simp; omega) (by simp; omega) (by simp; omega) (by simp; omega)
          refine ⟨K + 1, ?_⟩
          have hmem : rd l i ∈ l := by
            unfold rd
            rw [List.getD_eq_getElem?_getD, List.getElem?_eq_getElem (show i.toNat < l.length by omega)]
            exact List.getElem_mem _
          have hb := hy _ hmem
          unfold chalklineref13_sums.l0
          rw [if_pos hlt, if_pos h0, if_pos hlt, if_pos (by omega), if_pos (by omega), if_pos (by omega), if_pos (by omega), w64 _ (by omega), w64 _ (by omega), hK]
          have e : (i + 1).toNat = i.toNat + 1 := by omega
          have hd : l.drop i.toNat = rd l i :: l.drop (i.toNat + 1) := by
            rw [List.drop_eq_getElem_cons (show i.toNat < l.length by omega)]
            simp [rd, List.getD_eq_getElem?_getD, List.getElem?_eq_getElem (show i.toNat < l.length by omega)]
          have hr : List.replicate (l.length - i.toNat) (1 : Int) = 1 :: List.replicate (l.length - (i.toNat + 1)) 1 := by
            rw [show l.length - i.toNat = (l.length - (i.toNat + 1)) + 1 by omega]
            rfl
          rw [hd, hr, e]
          simp
      obtain ⟨K, hK⟩ := hloop l.length 0 [k] [-x] [l.length - k + 1] [x] (by simp) (by omega) (by omega) (by simp) (by simp) (by simp) (by simp)
      refine ⟨K, ?_⟩
      unfold chalklineref13_sums.f sumsF
      rw [if_neg h1, if_neg h1, if_neg h2, if_neg (by omega), w64 (-x) (by omega), w64 ((l.length : Int) - k) (by omega), w64 _ (by omega), hK]
      simp
end Go.Proofs.Ytkcmkoolcakfjaa.P

/- GateFits in plain Lean. -/
import Derived.Test.YtkcmkoolcakfjaaHOpen
import Derived.Test.YtkcmkoolcakfjaaPx6
namespace Go.Proofs.Ytkcmkoolcakfjaa.P
open Go.RowKit Go.Proofs.YtkcmkoolcakfjaaW.PrintWords
set_option linter.unusedVariables false
set_option linter.unusedSimpArgs false

mutual
/-- The nodes that get a new variable. -/
def newsF : S24 → Int
  | ⟨k, _, _, l⟩ => newsFs l + (if k ≠ 2 ∧ k ≠ 3 then 1 else 0)
def newsFs : List S24 → Int
  | [] => 0
  | t :: ts => newsF t + newsFs ts
end
mutual
theorem newsF_bound : ∀ (t : S24), 0 ≤ newsF t ∧ newsF t ≤ sizeT t
  | ⟨k, _, _, l⟩ => by
    have h := newsFs_bound l
    simp only [newsF, sizeT]
    push_cast
    split <;> omega
theorem newsFs_bound : ∀ (ts : List S24), 0 ≤ newsFs ts ∧ newsFs ts ≤ sizeTs ts
  | [] => by simp [newsFs, sizeTs]
  | t :: ts => by
    have h1 := newsF_bound t
    have h2 := newsFs_bound ts
    simp only [newsFs, sizeTs]
    push_cast
    omega
end
theorem newsFs_drop (ts : List S24) (i : Int) (h0 : 0 ≤ i) (h1 : i < ts.length) : newsFs (ts.drop i.toNat) = newsF (rd_T24 ts i) + newsFs (ts.drop (i + 1).toNat) := by
  have e : (i + 1).toNat = i.toNat + 1 := by omega
  have hlt : i.toNat < ts.length := by omega
  rw [List.drop_eq_getElem_cons hlt, e]
  simp [newsFs, rd_T24, List.getD_eq_getElem?_getD, List.getElem?_eq_getElem hlt]
mutual
/-- Formed trees: the next variable is so many further. -/
theorem litF_after : ∀ (t : S24) (n nx : Int), formedT t n = true → (litF t nx).2.2 = nx + newsF t
  | ⟨k, v, q, l⟩, n, nx, hf => by
    simp only [formedT, Bool.and_eq_true] at hf
    have h := litsF_after l n nx hf.2
    unfold litF
    simp only [newsF]
    by_cases h2 : k = 2
    · subst h2
      have hl : l = [] := by
        have h1 := hf.1
        simp [formedF] at h1
        exact h1.2.2
      subst hl
      simp [newsFs]
    · by_cases h3 : k = 3
      · simp [h3, h]
      · simp [h2, h3, h]
        omega
theorem litsF_after : ∀ (ts : List S24) (n nx : Int), formedTs ts n = true → (litsF ts nx).2.2 = nx + newsFs ts
  | [], n, nx, _ => by simp [litsF, newsFs]
  | t :: ts, n, nx, hf => by
    simp only [formedTs, Bool.and_eq_true] at hf
    have h1 := litF_after t n nx hf.1
    have h2 := litsF_after ts n (litF t nx).2.2 hf.2
    simp only [litsF, newsFs]
    omega
end
mutual
/-- The literals are of variables in use. -/
theorem litF_lit : ∀ (t : S24) (n nx : Int), formedT t n = true → 0 ≤ n → n < nx → (litF t nx).1 ≠ 0 ∧ (litF t nx).1 < (litF t nx).2.2 ∧ -(litF t nx).1 < (litF t nx).2.2
  | ⟨k, v, q, l⟩, n, nx, hf, h0, h1 => by
    simp only [formedT, Bool.and_eq_true] at hf
    have hl := litsF_lit l n nx hf.2 h0 h1
    have hg := litsF_grows l nx
    unfold litF
    by_cases h2 : k = 2
    · subst h2
      have hv := hf.1
      simp [formedF] at hv
      simp only [if_true]
      omega
    · by_cases h3 : k = 3
      · rw [if_neg h2, if_pos h3]
        subst h3
        have hv := hf.1
        simp [formedF] at hv
        obtain ⟨t, rfl⟩ := List.length_eq_one_iff.1 hv.2.2
        have := hl (litF t nx).1 (by simp [litsF])
        simp only [litsF, List.headD_cons] at this ⊢
        omega
      · rw [if_neg h2, if_neg h3]
        simp only
        omega
theorem litsF_lit : ∀ (ts : List S24) (n nx : Int), formedTs ts n = true → 0 ≤ n → n < nx → ∀ y ∈ (litsF ts nx).1, y ≠ 0 ∧ y < (litsF ts nx).2.2 ∧ -y < (litsF ts nx).2.2
  | [], n, nx, _, _, _ => by intro y hy; simp [litsF] at hy
  | t :: ts, n, nx, hf, h0, h1 => by
    simp only [formedTs, Bool.and_eq_true] at hf
    have h2 := litF_lit t n nx hf.1 h0 h1
    have hg := litF_grows t nx
    have hg2 := litsF_grows ts (litF t nx).2.2
    have h3 := litsF_lit ts n (litF t nx).2.2 hf.2 h0 (by omega)
    intro y hy
    simp only [litsF, List.mem_cons] at hy ⊢
    rcases hy with rfl | hy
    · omega
    · exact h3 y hy
end
/-- A constraint is well-formed over the variables 1 to n. -/
def okC (n : Int) (s : S40) : Prop := s.f0.length = s.f1.length ∧ s.f1.length ≤ 4096 ∧ (∀ c ∈ s.f0, -1099511627776 ≤ c ∧ c ≤ 1099511627776) ∧ (-1099511627776 ≤ s.f2 ∧ s.f2 ≤ 1099511627776) ∧ ∀ y ∈ s.f1, y ≠ 0 ∧ y ≤ n ∧ -y ≤ n
theorem okC_mono {n n' : Int} {s : S40} (h : okC n s) (hn : n ≤ n') : okC n' s := ⟨h.1, h.2.1, h.2.2.1, h.2.2.2.1, fun y hy => by have := h.2.2.2.2 y hy; omega⟩
theorem linF_ok {n : Int} {s : S40} (h : okC n s) (h0 : 0 ≤ n) (h1 : n ≤ 65536) : linF s.f0 s.f1 s.f2 n = 0 := by
  obtain ⟨e1, e2, e3, e4, e5⟩ := h
  unfold linF
  have ha : s.f0.any oddF = false := by
    rw [List.any_eq_false]
    intro c hc
    have := e3 c hc
    simp [oddF]
    omega
  have hb : s.f1.any (wrongF n) = false := by
    rw [List.any_eq_false]
    intro y hy
    have := e5 y hy
    simp [wrongF]
    omega
  have hc : oddF s.f2 = false := by
    simp [oddF]
    omega
  rw [if_neg (by omega), if_neg (by omega), if_neg (by simp [e1]), hc, ha, hb]
  simp
  omega
theorem sumsF_ok (x k : Int) (ls : List Int) (n : Int) (hl : ls.length ≤ 4095) (hx : x ≠ 0 ∧ x ≤ n ∧ -x ≤ n) (hy : ∀ y ∈ ls, y ≠ 0 ∧ y ≤ n ∧ -y ≤ n) : ∀ s ∈ sumsF x k ls, okC n s := by
  intro s hs
  unfold sumsF at hs
  unfold okC
  split at hs
  · simp at hs; subst hs; simp; omega
  · split at hs
    · simp at hs; subst hs; simp; omega
    · rename_i h1 h2
      simp at hs
      rcases hs with rfl | rfl
      · refine ⟨by simp, by simp; omega, ?_, by simp only; omega, ?_⟩
        · intro c hc
          rcases List.mem_cons.1 hc with rfl | hc
          · omega
          · have := List.eq_of_mem_replicate hc; omega
        · intro y hyy
          rcases List.mem_cons.1 hyy with rfl | hyy
          · omega
          · exact hy y hyy
      · refine ⟨by simp, by simp; omega, ?_, by simp only; omega, ?_⟩
        · intro c hc
          rcases List.mem_cons.1 hc with rfl | hc
          · omega
          · have := List.eq_of_mem_replicate hc; omega
        · intro y hyy
          rcases List.mem_cons.1 hyy with rfl | hyy
          · omega
          · obtain ⟨z, hz, rfl⟩ := List.mem_map.1 hyy
            have := hy z hz
            omega
mutual
theorem litF_okC : ∀ (t : S24) (n nx : Int), formedT t n = true → wideT t = false → 0 ≤ n → n < nx → ∀ s ∈ (litF t nx).2.1, okC ((litF t nx).2.2 - 1) s
  | ⟨k, v, q, l⟩, n, nx, hf, hw, h0, h1 => by
    simp only [formedT, Bool.and_eq_true] at hf
    simp only [wideT, Bool.or_eq_false_iff, decide_eq_false_iff_not] at hw
    have hs := litsF_okC l n nx hf.2 hw.2 h0 h1
    have hl := litsF_lit l n nx hf.2 h0 h1
    have hg := litsF_grows l nx
    unfold litF
    by_cases h2 : k = 2
    · rw [if_pos h2]; intro s hs; cases hs
    · by_cases h3 : k = 3
      · rw [if_neg h2, if_pos h3]; exact hs
      · rw [if_neg h2, if_neg h3]
        intro s hs'
        rcases List.mem_append.1 hs' with hs' | hs'
        · exact okC_mono (hs s hs') (by simp only; omega)
        · refine sumsF_ok _ _ _ _ (by rw [litsF_length]; omega) (by simp only; omega) (fun y hy => ?_) s hs'
          have := hl y hy
          simp only
          omega
theorem litsF_okC : ∀ (ts : List S24) (n nx : Int), formedTs ts n = true → wideTs ts = false → 0 ≤ n → n < nx → ∀ s ∈ (litsF ts nx).2.1, okC ((litsF ts nx).2.2 - 1) s
  | [], n, nx, _, _, _, _ => by intro s hs; simp [litsF] at hs
  | t :: ts, n, nx, hf, hw, h0, h1 => by
    simp only [formedTs, Bool.and_eq_true] at hf
    simp only [wideTs, Bool.or_eq_false_iff] at hw
    have hg := litF_grows t nx
    have hg2 := litsF_grows ts (litF t nx).2.2
    intro s hs
    simp only [litsF, List.mem_append] at hs ⊢
    rcases hs with hs | hs
    · exact okC_mono (litF_okC t n nx hf.1 hw.1 h0 h1 s hs) (by omega)
    · exact litsF_okC ts n _ hf.2 hw.2 h0 (by omega) s hs
end
theorem News_tells (N : Nat) (hN : N ≤ 1048576) : ∀ (k v q : Int) (l : List S24), sizeT ⟨k, v, q, l⟩ ≤ N → ∃ K, chalklineref13_News.f K k v q l = some (newsF ⟨k, v, q, l⟩) := by
  induction N with
  | zero => intro k v q l h; simp [sizeT] at h
  | succ N ih =>
    intro k v q l h
    simp only [sizeT] at h
    have hlen := length_le_sizeTs l
    have hl : ∀ m : Nat, ∀ (acc i : Int), l.length - i.toNat = m → 0 ≤ i → i ≤ l.length → 0 ≤ acc → acc + sizeTs (l.drop i.toNat) ≤ 1048576 → ∃ K, chalklineref13_News.l0 K acc l l.length i k v q l = some (acc + newsFs (l.drop i.toNat) + (if k ≠ 2 ∧ k ≠ 3 then 1 else 0)) := by
      intro m
      induction m with
      | zero =>
        intro acc i hm h0 h1 h2 h3
        have hi : i = l.length := by omega
        refine ⟨1, ?_⟩
        subst hi
        unfold chalklineref13_News.l0
        rw [if_neg (by omega)]
        simp only [Int.toNat_natCast, List.drop_length, newsFs, sizeTs] at h3 ⊢
        by_cases k2 : k = 2
        · simp [k2]
        · by_cases k3 : k = 3
          · simp [k3]
          · rw [if_neg k2, if_neg k3, if_pos ⟨k2, k3⟩, w64 _ (by omega)]
            simp
      | succ m ihm =>
        intro acc i hm h0 h1 h2 h3
        have hlt : i < l.length := by omega
        have hd := newsFs_drop l i h0 hlt
        have hds := sizeTs_drop l i h0 hlt
        have hmem := rd_T24_mem l i h0 hlt
        have hsz := size_mem _ hmem
        have hb := newsF_bound (rd_T24 l i)
        obtain ⟨K1, hK1⟩ := ih (by omega) (rd_T24 l i).f0 (rd_T24 l i).f1 (rd_T24 l i).f2 (rd_T24 l i).f3 (by rw [eta24]; omega)
        rw [eta24] at hK1
        rw [hds] at h3
        push_cast at h3
        obtain ⟨K2, hK2⟩ := ihm (acc + newsF (rd_T24 l i)) (i + 1) (by omega) (by omega) (by omega) (by omega) (by omega)
        refine ⟨max K1 K2 + 1, ?_⟩
        unfold chalklineref13_News.l0
        rw [if_pos hlt, if_pos h0, if_pos hlt, up_ (fun k => (chalklineref13_News.mono_l k).1 _ _ _ _) hK1 (Nat.le_max_left K1 K2), Option.bind_some, w64 _ (by omega), w64 _ (by omega), up_ (fun k => (chalklineref13_News.mono_l k).2 _ _ _ _ _ _ _ _) hK2 (Nat.le_max_right K1 K2), hd]
        congr 1
        omega
    obtain ⟨K, hK⟩ := hl l.length 0 0 (by simp) (by omega) (by omega) (by omega) (by simp; omega)
    refine ⟨K + 1, ?_⟩
    unfold chalklineref13_News.f
    rw [hK]
    simp [newsF]
/-- GateFits answers true. -/
theorem GateFits_tells (kind v q : Int) (l : List S24) (next : Int) (hs : sizeT ⟨kind, v, q, l⟩ ≤ 1048576) : ∃ K, chalklinelaw13_GateFits.f K kind v q l next = some true := by
  obtain ⟨K1, h1⟩ := live_tells
  obtain ⟨K2, h2⟩ := Size_tells 1048576 (Nat.le_refl _) kind v q l hs
  obtain ⟨K3, h3⟩ := News_tells 1048576 (Nat.le_refl _) kind v q l hs
  rcases refF_cases ⟨kind, v, q, l⟩ next with ⟨e, he, hr⟩ | ⟨g1, g2, g3, g4, g5, g6, hr⟩
  · refine ⟨K1 + K2, ?_⟩
    unfold chalklinelaw13_GateFits.f
    rw [up_ (fun k => chalklinelaw13_live.mono k) h1 (by omega), Option.bind_some, if_pos rfl, up_ (fun k => chalklineref11_Size.mono _ _ _ _ k) h2 (by omega), Option.bind_some]
    split
    · rfl
    · rw [Gates_tells hs, Option.bind_some, hr]
      simp [he]
  · have hlit := litF_lit ⟨kind, v, q, l⟩ (next - 1) next g3 (by omega) (by omega)
    have hok := litF_okC ⟨kind, v, q, l⟩ (next - 1) next g3 g5 (by omega) (by omega)
    have haf := litF_after ⟨kind, v, q, l⟩ (next - 1) next g3
    have hgr := litF_grows ⟨kind, v, q, l⟩ next
    have hnb := newsF_bound ⟨kind, v, q, l⟩
    generalize hx : (litF ⟨kind, v, q, l⟩ next).1 = x at hlit hr
    generalize hc : (litF ⟨kind, v, q, l⟩ next).2.1 = cs at hok hr hgr
    generalize ha : (litF ⟨kind, v, q, l⟩ next).2.2 = after at hlit hok haf hr g6 hgr
    have hloop : ∀ m : Nat, ∀ i : Int, cs.length - i.toNat = m → 0 ≤ i → i ≤ cs.length → ∃ K, chalklinelaw13_GateFits.l0 K next x after cs cs.length i kind v q l = some true := by
      intro m
      induction m with
      | zero =>
        intro i hm h0 h1
        refine ⟨K3 + 1, ?_⟩
        unfold chalklinelaw13_GateFits.l0
        have hfc : flat_Check.f kind v q l (wrap64 (next - 1)) = some 0 := by
          unfold flat_Check.f
          rw [if_pos hs, w64 _ (by omega), g4]
        rw [if_neg (by omega), h3, Option.bind_some, w64 (next + _) (by omega), if_pos (by omega), if_neg hlit.1, if_pos hlit.2.1, w64 (-x) (by omega), if_pos hlit.2.2, hfc]
        rfl
      | succ m ihm =>
        intro i hm h0 h1
        obtain ⟨K, hK⟩ := ihm (i + 1) (by omega) (by omega) (by omega)
        have hmem : rd_T40 cs i ∈ cs := by
          unfold rd_T40
          rw [List.getD_eq_getElem?_getD, List.getElem?_eq_getElem (show i.toNat < cs.length by omega)]
          exact List.getElem_mem _
        have hk := hok _ hmem
        have hlc : lin_Check.f (rd_T40 cs i).f0 (rd_T40 cs i).f1 (rd_T40 cs i).f2 (wrap64 (after - 1)) = some 0 := by
          unfold lin_Check.f
          have e1 := hk.1
          have e2 := hk.2.1
          rw [if_pos ⟨by omega, by omega⟩, w64 _ (by omega), linF_ok hk (by omega) (by omega)]
        refine ⟨K + 1, ?_⟩
        unfold chalklinelaw13_GateFits.l0
        rw [if_pos (by omega), if_pos h0, if_pos (by omega), hlc, Option.bind_some, if_pos rfl, w64 _ (by omega)]
        exact hK
    obtain ⟨K4, h4⟩ := hloop cs.length 0 (by simp) (by omega) (by omega)
    refine ⟨K1 + K2 + K4, ?_⟩
    unfold chalklinelaw13_GateFits.f
    rw [up_ (fun k => chalklinelaw13_live.mono k) h1 (by omega), Option.bind_some, if_pos rfl, up_ (fun k => chalklineref11_Size.mono _ _ _ _ k) h2 (by omega), Option.bind_some]
    split
    · rfl
    · rw [Gates_tells hs, Option.bind_some, hr]
      simp only [if_true]
      exact up_ (fun k => (chalklinelaw13_GateFits.mono_l k) _ _ _ _ _ _ _ _ _ _) h4 (by omega)
end Go.Proofs.Ytkcmkoolcakfjaa.P

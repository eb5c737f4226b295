/- GateAll in plain Lean, and what a list of ground formulas that is handed in reads as. -/
import Derived.Test.YtkcmkoolcakfjaaHOpen
import Derived.Test.YtkcmkoolcakfjaaPx5
namespace Go.Proofs.Ytkcmkoolcakfjaa.P
open Go.RowKit Go.Proofs.YtkcmkoolcakfjaaW.PrintWords
set_option linter.unusedVariables false
set_option linter.unusedSimpArgs false

theorem few_tells (l : List S24) (hl : l.length ≤ 1048576) (hs : ∀ t ∈ l, sizeT t ≤ 1048576) (a1 : Int) (ha : 0 ≤ a1 ∧ a1 ≤ 1000000) : ∃ K b, chalklinelaw13_few.f K l a1 = some b := by
  have hloop : ∀ m : Nat, ∀ i n : Int, i.toNat + m = 21 → 0 ≤ i → 0 ≤ n → n ≤ a1 → ∃ K b, chalklinelaw13_few.l0 K l a1 n i = some b := by
    intro m
    induction m with
    | zero =>
      intro i n hm h0 _ _
      refine ⟨2, decide ((l.length : Int) ≤ 20), ?_⟩
      have hi : i = 21 := by omega
      subst hi
      unfold chalklinelaw13_few.l0
      split
      · simp [chalklinelaw13_few.j1]
      · simp [chalklinelaw13_few.j1]
    | succ m ih =>
      intro i n hm h0 hn0 hn1
      by_cases hlt : i < l.length
      · have hmem := rd_T24_mem l i h0 hlt
        obtain ⟨K1, hK1⟩ := Size_tells 1048576 (Nat.le_refl _) (rd_T24 l i).f0 (rd_T24 l i).f1 (rd_T24 l i).f2 (rd_T24 l i).f3 (by rw [eta24]; exact hs _ hmem)
        rw [eta24] at hK1
        have hsz := hs _ hmem
        by_cases hbig : n + sizeT (rd_T24 l i) > a1
        · refine ⟨K1 + 2, false, ?_⟩
          unfold chalklinelaw13_few.l0
          rw [if_pos hlt, show decide (i ≤ 20) = true from decide_eq_true (by omega)]
          unfold chalklinelaw13_few.j1
          rw [if_pos rfl, if_pos h0, if_pos hlt, hK1, Option.bind_some, w64 _ (by omega), if_pos hbig]
        · obtain ⟨K2, b, hK2⟩ := ih (i + 1) (n + sizeT (rd_T24 l i)) (by omega) (by omega) (by omega) (by omega)
          refine ⟨max K1 K2 + 2, b, ?_⟩
          unfold chalklinelaw13_few.l0
          rw [if_pos hlt, show decide (i ≤ 20) = true from decide_eq_true (by omega)]
          unfold chalklinelaw13_few.j1
          rw [if_pos rfl, if_pos h0, if_pos hlt, up_ (fun k => chalklineref11_Size.mono _ _ _ _ k) hK1 (Nat.le_max_left K1 K2), Option.bind_some, w64 _ (by omega), if_neg hbig, w64 _ (by omega)]
          exact up_ (fun k => (chalklinelaw13_few.mono_l k).1 _ _ _ _) hK2 (Nat.le_max_right K1 K2)
      · refine ⟨2, decide ((l.length : Int) ≤ 20), ?_⟩
        unfold chalklinelaw13_few.l0
        rw [if_neg hlt]
        simp [chalklinelaw13_few.j1]
  exact hloop 21 0 0 (by simp) (by omega) (by omega) ha.1

theorem Ints_self (l : List Int) (hl : l.length ≤ 1099511627776) : ∃ K, chalklineref13_Ints.f K l l = some true := by
  have h0 : ∀ m : Nat, ∀ i : Int, l.length - i.toNat = m → 0 ≤ i → i ≤ l.length → ∃ K, chalklineref13_Ints.l0 K l l l.length i = some true := by
    intro m
    induction m with
    | zero =>
      intro i hm h0 h2
      exact ⟨1, by unfold chalklineref13_Ints.l0; rw [if_neg (by omega)]⟩
    | succ m ih =>
      intro i hm h0 h2
      obtain ⟨K, hK⟩ := ih (i + 1) (by omega) (by omega) (by omega)
      exact ⟨K + 1, by unfold chalklineref13_Ints.l0; rw [if_pos (by omega), if_pos h0, if_pos (by omega), if_pos (by omega), if_pos rfl, w64 _ (by omega)]; exact hK⟩
  obtain ⟨K, hK⟩ := h0 l.length 0 (by simp) (by omega) (by omega)
  exact ⟨K, by unfold chalklineref13_Ints.f; rw [if_pos rfl]; exact hK⟩

theorem madeE_drop (ts : List S24) (i nx : Int) (h0 : 0 ≤ i) (h1 : i < ts.length) : madeE (ts.drop i.toNat) nx = if checkF (rd_T24 ts i) (nx - 1) ≠ 0 then checkF (rd_T24 ts i) (nx - 1) else if wideT (rd_T24 ts i) = true then 2 else if 65537 < (litF (rd_T24 ts i) nx).2.2 then 2 else madeE (ts.drop (i + 1).toNat) (litF (rd_T24 ts i) nx).2.2 := by
  have e : (i + 1).toNat = i.toNat + 1 := by omega
  have hlt' : i.toNat < ts.length := by omega
  rw [List.drop_eq_getElem_cons hlt', e]
  simp [madeE, rd_T24, List.getD_eq_getElem?_getD, List.getElem?_eq_getElem hlt']
theorem litsF_drop (ts : List S24) (i nx : Int) (h0 : 0 ≤ i) (h1 : i < ts.length) : litsF (ts.drop i.toNat) nx = ((litF (rd_T24 ts i) nx).1 :: (litsF (ts.drop (i + 1).toNat) (litF (rd_T24 ts i) nx).2.2).1, (litF (rd_T24 ts i) nx).2.1 ++ (litsF (ts.drop (i + 1).toNat) (litF (rd_T24 ts i) nx).2.2).2.1, (litsF (ts.drop (i + 1).toNat) (litF (rd_T24 ts i) nx).2.2).2.2) := by
  have e : (i + 1).toNat = i.toNat + 1 := by omega
  have hlt' : i.toNat < ts.length := by omega
  rw [List.drop_eq_getElem_cons hlt', e]
  simp [litsF, rd_T24, List.getD_eq_getElem?_getD, List.getElem?_eq_getElem hlt']
theorem madeE_zero : ∀ (ts : List S24) (nx : Int), nx ≤ 65537 → madeE ts nx = 0 → wideTs ts = false ∧ (litsF ts nx).2.2 ≤ 65537
  | [], nx, h, _ => ⟨rfl, by simpa [litsF] using h⟩
  | t :: ts, nx, h, he => by
    simp only [madeE] at he
    split at he
    · rename_i h1; exact absurd he h1
    · split at he
      · cases he
      · rename_i h2
        split at he
        · cases he
        · rename_i h3
          obtain ⟨h4, h5⟩ := madeE_zero ts _ (by omega) he
          exact ⟨by simp [wideTs, h2, h4], by simpa [litsF] using h5⟩
theorem refAll_tells (l : List S24) (next : Int) (hl : l.length ≤ 1048576) (hs : ∀ t ∈ l, sizeT t ≤ 1048576) : ∃ K, chalklineref13_All.f K l next = some (madeF l next) := by
  have hloop : ∀ m : Nat, ∀ (i nx : Int) (ls : List Int) (cs : List S40), l.length - i.toNat = m → 0 ≤ i → i ≤ l.length → 1 ≤ nx → nx ≤ 65537 → ls.length ≤ i → (cs.length : Int) ≤ 2 * nx →
      ∃ K, chalklineref13_All.l0 K nx ls cs l l.length i = some (if madeE (l.drop i.toNat) nx = 0 then (ls ++ (litsF (l.drop i.toNat) nx).1, cs ++ (litsF (l.drop i.toNat) nx).2.1, (litsF (l.drop i.toNat) nx).2.2, 0) else ([], [], 0, madeE (l.drop i.toNat) nx)) := by
    intro m
    induction m with
    | zero =>
      intro i nx ls cs hm h0 h1 _ _ _ _
      have hi : i = l.length := by omega
      refine ⟨1, ?_⟩
      subst hi
      simp [chalklineref13_All.l0, madeE, litsF]
    | succ m ih =>
      intro i nx ls cs hm h0 h1 hn1 hn2 hls hcs
      have hlt : i < l.length := by omega
      have hmem := rd_T24_mem l i h0 hlt
      have hsz := hs _ hmem
      rw [madeE_drop l i nx h0 hlt, litsF_drop l i nx h0 hlt]
      have hG : chalklineref13_Gates.f (rd_T24 l i).f0 (rd_T24 l i).f1 (rd_T24 l i).f2 (rd_T24 l i).f3 nx = some (refF (rd_T24 l i) nx) := by
        unfold chalklineref13_Gates.f
        rw [eta24, if_pos hsz]
      have hR : refF (rd_T24 l i) nx = if checkF (rd_T24 l i) (nx - 1) ≠ 0 then (0, [], 0, checkF (rd_T24 l i) (nx - 1)) else if wideT (rd_T24 l i) = true then (0, [], 0, 2) else if 65537 < (litF (rd_T24 l i) nx).2.2 then (0, [], 0, 2) else ((litF (rd_T24 l i) nx).1, (litF (rd_T24 l i) nx).2.1, (litF (rd_T24 l i) nx).2.2, 0) := by
        unfold refF
        rw [if_neg (by omega), if_neg (by omega)]
      by_cases h3 : checkF (rd_T24 l i) (nx - 1) = 0
      · rw [if_neg (by simpa using h3)] at hR
        by_cases h4 : wideT (rd_T24 l i) = true
        · rw [if_pos h4] at hR
          refine ⟨1, ?_⟩
          unfold chalklineref13_All.l0
          rw [if_pos hlt, if_pos h0, if_pos hlt, hG, hR]
          simp [h3, h4]
        · rw [if_neg h4] at hR
          by_cases h5 : 65537 < (litF (rd_T24 l i) nx).2.2
          · rw [if_pos h5] at hR
            refine ⟨1, ?_⟩
            unfold chalklineref13_All.l0
            rw [if_pos hlt, if_pos h0, if_pos hlt, hG, hR]
            simp [h3, h4, h5]
          · rw [if_neg h5] at hR
            have hgr := litF_grows (rd_T24 l i) nx
            obtain ⟨K, hK⟩ := ih (i + 1) (litF (rd_T24 l i) nx).2.2 (ls ++ [(litF (rd_T24 l i) nx).1]) (cs ++ (litF (rd_T24 l i) nx).2.1) (by omega) (by omega) (by omega) (by omega) (by omega) (by simp; omega) (by simp only [List.length_append]; omega)
            refine ⟨K + 1, ?_⟩
            unfold chalklineref13_All.l0
            rw [if_pos hlt, if_pos h0, if_pos hlt, hG, hR, Option.bind_some, if_pos rfl, if_pos (by omega), if_pos (by simp only; omega), w64 _ (by omega)]
            simp only
            rw [hK]
            simp [h3, h4, h5]
      · rw [if_pos h3] at hR
        refine ⟨1, ?_⟩
        unfold chalklineref13_All.l0
        rw [if_pos hlt, if_pos h0, if_pos hlt, hG, hR]
        simp [h3]
  unfold chalklineref13_All.f madeF
  by_cases h1 : next < 1
  · exact ⟨1, by rw [if_pos h1, if_pos h1]; simp [chalklineref13_All.j0]⟩
  · by_cases h2 : 65537 < next
    · exact ⟨1, by rw [if_neg h1, if_neg h1, if_pos h2]; simp [chalklineref13_All.j0]; intro h; omega⟩
    · obtain ⟨K, hK⟩ := hloop l.length 0 next [] [] (by simp) (by omega) (by omega) (by omega) (by omega) (by simp) (by simp; omega)
      refine ⟨K + 1, ?_⟩
      have hj : chalklineref13_All.j0 (K + 1) l next false = chalklineref13_All.l0 K next [] [] l l.length 0 := by simp [chalklineref13_All.j0]
      rw [if_neg h1, if_neg h1, if_neg h2, show decide (next > 65537) = false from decide_eq_false (by omega), hj, hK]
      simp
theorem smallTs_of {l : List S24} (hl : l.length ≤ 1048576) (hs : ∀ t ∈ l, sizeT t ≤ 1048576) : smallTs l = true := by
  simp only [smallTs, Bool.and_eq_true, decide_eq_true_eq, List.all_eq_true]
  exact ⟨hl, hs⟩
theorem madeF_short (l : List S24) (next : Int) (hl : l.length ≤ 1048576) : (madeF l next).1.length ≤ 1099511627776 ∧ (madeF l next).2.1.length ≤ 1099511627776 ∧ ∀ s ∈ (madeF l next).2.1, shortC s := by
  by_cases h0 : (madeF l next).2.2.2 = 0
  · obtain ⟨h, h1, h2, h3⟩ := madeF_ok h0
    obtain ⟨h4, h5⟩ := madeE_zero l next h2 h3
    have hg := litsF_grows l next
    rw [h]
    exact ⟨by rw [litsF_length]; omega, by simp only; omega, litsF_short l next h4⟩
  · rw [madeF_err h0]
    exact ⟨by simp, by simp, fun s hs => by cases hs⟩
/-- GateAll answers true. -/
theorem GateAll_tells (l : List S24) (next : Int) (hl : l.length ≤ 1048576) (hs : ∀ t ∈ l, sizeT t ≤ 1048576) : ∃ K, chalklinelaw13_GateAll.f K l next = some true := by
  obtain ⟨K1, h1⟩ := live_tells
  obtain ⟨K2, b, h2⟩ := few_tells l hl hs 2000 (by omega)
  obtain ⟨K3, h3⟩ := refAll_tells l next hl hs
  obtain ⟨hm1, hm2, hm3⟩ := madeF_short l next hl
  obtain ⟨K4, h4⟩ := Ints_self _ hm1
  obtain ⟨K5, h5⟩ := SameAll_self _ hm2 hm3
  refine ⟨K1 + K2 + K3 + K4 + K5, ?_⟩
  unfold chalklinelaw13_GateAll.f
  rw [up_ (fun k => chalklinelaw13_live.mono k) h1 (by omega), Option.bind_some, if_pos rfl, up_ (fun k => chalklinelaw13_few.mono _ _ k) h2 (by omega), Option.bind_some]
  cases b
  · rfl
  · rw [if_pos rfl]
    unfold gate_All.f
    rw [if_pos (smallTs_of hl hs), Option.bind_some, up_ (fun k => chalklineref13_All.mono _ _ k) h3 (by omega), Option.bind_some, up_ (fun k => chalklineref13_Ints.mono _ _ k) h4 (by omega), Option.bind_some, if_pos rfl, up_ (fun k => chalklineref13_SameAll.mono _ _ k) h5 (by omega)]
    simp

section
variable {H : Type} {enc : TypeId × Value → H} {w : World} {spare : Nat → Bool} {held : Bool}
set_option maxRecDepth 100000 in
/-- A list of trees that lies in memory. -/
theorem trod_trees (fuel : Nat) (v : Value) (x : DataW H × List MemPlace) (h3 : DataW.trod enc Try.prog w 0 spare held fuel 22 [v] = some x) : ∃ (ts : List S24) (A : Option Addr) (c : Nat), v = .slice A ts.length c ∧ ts.length ≤ c ∧ Kd.C k24 w A ts.length ts ∧ sizeTs ts ≤ Rows.uptoBulk x.1 := by
  rcases DataW.trod_slice Try.underlying22 h3 with ⟨e3, d3⟩ | ⟨a, len, cap, elems, rest, m, rfl, e3, d3, hb, hlc, hcm, hel, hat, _, _⟩
  · injection e3 with e3 _
    subst e3
    exact ⟨[], none, 0, rfl, Nat.le_refl _, Kd.C_nil k24 w, by simp [sizeTs]⟩
  · injection e3 with e3 _
    subst e3
    have hex : ∀ i : Nat, ∃ T : S24, i < len → ∃ cs', w.cells? 0 (a.add (i * 4)) 4 = some cs' ∧ k24.K w T cs' ∧ ∀ d, elems[i]? = some d → sizeT T ≤ Rows.uptoBulk d.1 := by
      intro i
      by_cases hi : i < len
      · have hi' := hat i hi
        rw [cells24_, List.getElem?_eq_getElem (by omega)] at hi'
        obtain ⟨cs', h1, h2⟩ := Option.bind_eq_some_iff.1 hi'
        obtain ⟨T, A, c, hcs, hc, hC, hsz⟩ := trod_tree m cs' _ h2
        refine ⟨T, fun _ => ⟨cs', h1, by rw [hcs]; exact k24_mk w T hc hC, fun d hd => ?_⟩⟩
        rw [List.getElem?_eq_getElem (by omega)] at hd
        rw [← Option.some.inj hd]
        exact hsz
      · exact ⟨z24, fun h => absurd h hi⟩
    obtain ⟨f, hf'⟩ := Classical.axiomOfChoice hex
    refine ⟨(List.range len).map f, some a, cap, by simp, by simpa using hlc, ⟨by simp, by simp only [maxLen] at hcm; simp; omega, fun _ => ⟨a, rfl, fun j p hj => ?_⟩⟩, ?_⟩
    · rw [List.getElem?_map] at hj
      obtain ⟨j', hj', rfl⟩ := Option.map_eq_some_iff.1 hj
      have hjl : j < len := by
        have := (List.getElem?_eq_some_iff.1 hj').1
        simpa using this
      have hjj : j' = j := by
        rw [List.getElem?_range hjl] at hj'
        exact (Option.some.inj hj').symm
      subst hjj
      obtain ⟨cs', h1, h2, _⟩ := hf' j' hjl
      obtain ⟨_, hl4, hcell⟩ := World.cells?_some h1
      refine ⟨cs', by rw [hl4]; rfl, h2, fun i u hu => ?_⟩
      have hi4 : i < 4 := by
        have := (List.getElem?_eq_some_iff.1 hu).1
        omega
      have hs : k24.sz = 4 := rfl
      rw [hs, ← Addr.add_add, hcell i hi4]
      exact hu
    · have hsum := bulk_sum f (elems.map (·.1)) 0 (fun i d hd => by
        rw [List.getElem?_map] at hd
        obtain ⟨d', hd', rfl⟩ := Option.map_eq_some_iff.1 hd
        have hil : i < len := by
          have := (List.getElem?_eq_some_iff.1 hd').1
          omega
        obtain ⟨_, _, _, h3⟩ := hf' i hil
        rw [Nat.zero_add]
        exact h3 d' hd')
      simp only [Nat.zero_add, List.length_map, hel] at hsum
      have hsum2 : sizeTs ((List.range len).map f) ≤ Rows.uptoBulkAll (elems.map (·.1)) := hsum
      rw [d3]
      simp only [Rows.uptoBulk]
      omega
end
end Go.Proofs.Ytkcmkoolcakfjaa.P

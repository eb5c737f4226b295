/- What a ground formula that is handed in reads as. -/
import Derived.Test.YtkcmkoolcakfjaaHLive
import Derived.Test.YtkcmkoolcakfjaaRows
import Derived.ProofKit
import Derived.OpenShut
import Derived.JoinedCond
import Derived.Lib.SmallJoins
namespace Go.Proofs.Ytkcmkoolcakfjaa.P
open Go.RowKit Go.Proofs.YtkcmkoolcakfjaaW.PrintWords
set_option linter.unusedVariables false
set_option linter.unusedSimpArgs false

theorem cells3_ : Try.prog.cellsOf 3 = 1 := by kernel_rfl
theorem cells22_ : Try.prog.cellsOf 22 = 1 := by kernel_rfl
theorem cells24_ : Try.prog.cellsOf 24 = 4 := by kernel_rfl
section
variable {H : Type} {enc : TypeId × Value → H} {w : World} {spare : Nat → Bool} {held : Bool}
theorem trod_int {n : Nat} {cs : List Value} {x : DataW H × List MemPlace} (h : DataW.trod enc Try.prog w 0 spare held n 3 cs = some x) : ∃ i, cs = [.int .i64 i] ∧ x.1 = .lit (.int .i64 i) := by
  obtain ⟨i, rfl, rfl, _⟩ := DataW.trod_int Try.underlying3 h
  exact ⟨i, rfl, rfl⟩
theorem bulk_sum (f : Nat → S24) : ∀ (es : List (DataW H)) (o : Nat), (∀ i d, es[i]? = some d → sizeT (f (o + i)) ≤ Rows.uptoBulk d) → sizeTs ((List.range es.length).map fun i => f (o + i)) ≤ Rows.uptoBulkAll es
  | [], _, _ => by simp [sizeTs]
  | d :: es, o, h => by
    have h0 := h 0 d rfl
    have h1 := bulk_sum f es (o + 1) (fun i d' hd => by
      have := h (i + 1) d' hd
      rwa [show o + (i + 1) = o + 1 + i by omega] at this)
    rw [List.length_cons, List.range_succ_eq_map, List.map_cons, List.map_map]
    simp only [sizeTs, Rows.uptoBulkAll]
    have e : (List.range es.length).map ((fun i => f (o + i)) ∘ Nat.succ) = (List.range es.length).map fun i => f (o + 1 + i) := by
      apply List.map_congr_left
      intro i _
      show f (o + (i + 1)) = _
      rw [show o + (i + 1) = o + 1 + i by omega]
    rw [e]
    have h0' : sizeT (f o) ≤ Rows.uptoBulk d := h0
    simp only [Nat.add_zero]
    omega
set_option maxRecDepth 100000 in
/-- A tree that lies in memory. -/
theorem trod_tree (fuel : Nat) : ∀ (cs : List Value) (x : DataW H × List MemPlace), DataW.trod enc Try.prog w 0 spare held fuel 24 cs = some x → ∃ (T : S24) (A : Option Addr) (c : Nat), cs = [.int .i64 T.f0, .int .i64 T.f1, .int .i64 T.f2, .slice A T.f3.length c] ∧ T.f3.length ≤ c ∧ Kd.C k24 w A T.f3.length T.f3 ∧ sizeT T ≤ Rows.uptoBulk x.1 := by
  induction fuel using Nat.strongRecOn with
  | ind fuel ih =>
    intro cs x h
    obtain ⟨xs, n, rfl, rfl, hl, hlen, hf⟩ := DataW.trod_struct Try.underlying24 h
    rw [cells24_] at hl
    match xs, hlen, cs, hl with
    | [y0, y1, y2, y3], _, [c0, c1, c2, c3], _ =>
      obtain ⟨i0, e0, d0⟩ := trod_int (by simpa [cells3_] using hf 0 _ rfl)
      obtain ⟨i1, e1, d1⟩ := trod_int (by simpa [cells3_] using hf 1 _ rfl)
      obtain ⟨i2, e2, d2⟩ := trod_int (by simpa [cells3_] using hf 2 _ rfl)
      have h3 : DataW.trod enc Try.prog w 0 spare held n 22 [c3] = some y3 := by simpa [cells22_] using hf 3 _ rfl
      injection e0 with e0 _
      injection e1 with e1 _
      injection e2 with e2 _
      subst e0 e1 e2
      rcases DataW.trod_slice Try.underlying22 h3 with ⟨e3, d3⟩ | ⟨a, len, cap, elems, rest, m, rfl, e3, d3, hb, hlc, hcm, hel, hat, _, _⟩
      · injection e3 with e3 _
        subst e3
        refine ⟨⟨i0, i1, i2, []⟩, none, 0, rfl, Nat.le_refl _, Kd.C_nil k24 w, ?_⟩
        rw [List.map_cons, List.map_cons, List.map_cons, List.map_cons, List.map_nil]
        simp [sizeT, sizeTs, Rows.uptoBulk]
      · injection e3 with e3 _
        subst e3
        have hex : ∀ i : Nat, ∃ T : S24, i < len → ∃ cs', w.cells? 0 (a.add (i * 4)) 4 = some cs' ∧ k24.K w T cs' ∧ ∀ d, elems[i]? = some d → sizeT T ≤ Rows.uptoBulk d.1 := by
          intro i
          by_cases hi : i < len
          · have hi' := hat i hi
            rw [cells24_, List.getElem?_eq_getElem (by omega)] at hi'
            obtain ⟨cs', h1, h2⟩ := Option.bind_eq_some_iff.1 hi'
            obtain ⟨T, A, c, hcs, hc, hC, hsz⟩ := ih m (by omega) cs' _ h2
            refine ⟨T, fun _ => ⟨cs', h1, by rw [hcs]; exact k24_mk w T hc hC, fun d hd => ?_⟩⟩
            rw [List.getElem?_eq_getElem (by omega)] at hd
            rw [← Option.some.inj hd]
            exact hsz
          · exact ⟨z24, fun h => absurd h hi⟩
        obtain ⟨f, hf'⟩ := Classical.axiomOfChoice hex
        refine ⟨⟨i0, i1, i2, (List.range len).map f⟩, some a, cap, by simp, by simpa using hlc, ⟨by simp, by simp only [maxLen] at hcm; simp; omega, fun _ => ⟨a, rfl, fun j p hj => ?_⟩⟩, ?_⟩
        · rw [List.getElem?_map] at hj
          obtain ⟨j', hj', rfl⟩ := Option.map_eq_some_iff.1 hj
          have hjl : j < len := by
            have := (List.getElem?_eq_some_iff.1 hj').1
            simpa using this
          have hjj : j' = j := by
            rw [List.getElem?_range hjl] at hj'
            exact (Option.some.inj hj').symm
          subst hjj
          obtain ⟨cs', h1, h2, _⟩ := hf' j' hjl
          obtain ⟨_, hl4, hcell⟩ := World.cells?_some h1
          refine ⟨cs', by rw [hl4]; rfl, h2, fun i u hu => ?_⟩
          have hi4 : i < 4 := by
            have := (List.getElem?_eq_some_iff.1 hu).1
            omega
          have hs : k24.sz = 4 := rfl
          rw [hs, ← Addr.add_add, hcell i hi4]
          exact hu
        · have hsum := bulk_sum f (elems.map (·.1)) 0 (fun i d hd => by
            rw [List.getElem?_map] at hd
            obtain ⟨d', hd', rfl⟩ := Option.map_eq_some_iff.1 hd
            have hil : i < len := by
              have := (List.getElem?_eq_some_iff.1 hd').1
              omega
            obtain ⟨_, _, _, h3⟩ := hf' i hil
            rw [Nat.zero_add]
            exact h3 d' hd')
          simp only [Nat.zero_add, List.length_map, hel] at hsum
          have hsum2 : sizeTs ((List.range len).map f) ≤ Rows.uptoBulkAll (elems.map (·.1)) := hsum
          rw [d3]
          simp only [List.map_cons, List.map_nil, sizeT, Rows.uptoBulk, Rows.uptoBulkAll]
          omega
end
end Go.Proofs.Ytkcmkoolcakfjaa.P

/- What the gate's constraints say of an assignment, in plain Lean; a list of bools that is handed in. -/
import Derived.Test.YtkcmkoolcakfjaaHLive
import Derived.Test.YtkcmkoolcakfjaaHLin
import Derived.Test.YtkcmkoolcakfjaaHVal
import Derived.Test.YtkcmkoolcakfjaaHTreeVal
import Derived.Test.YtkcmkoolcakfjaaPx0
import Derived.Test.YtkcmkoolcakfjaaHOpen
/- The literals and constraints are of variables in use and well-formed, in plain Lean. -/
namespace Go.Proofs.Ytkcmkoolcakfjaa.P
open Go.RowKit Go.Proofs.YtkcmkoolcakfjaaW.PrintWords
set_option linter.unusedVariables false
set_option linter.unusedSimpArgs false

mutual
/-- The nodes that get a new variable. -/
def newsF : S24 → Int
  | ⟨k, _, _, l⟩ => newsFs l + (if k ≠ 2 ∧ k ≠ 3 then 1 else 0)
def newsFs : List S24 → Int
  | [] => 0
  | t :: ts => newsF t + newsFs ts
end
mutual
theorem newsF_bound : ∀ (t : S24), 0 ≤ newsF t ∧ newsF t ≤ sizeT t
  | ⟨k, _, _, l⟩ => by
    have h := newsFs_bound l
    simp only [newsF, sizeT]
    push_cast
    split <;> omega
theorem newsFs_bound : ∀ (ts : List S24), 0 ≤ newsFs ts ∧ newsFs ts ≤ sizeTs ts
  | [] => by simp [newsFs, sizeTs]
  | t :: ts => by
    have h1 := newsF_bound t
    have h2 := newsFs_bound ts
    simp only [newsFs, sizeTs]
    push_cast
    omega
end
theorem newsFs_drop (ts : List S24) (i : Int) (h0 : 0 ≤ i) (h1 : i < ts.length) : newsFs (ts.drop i.toNat) = newsF (rd_T24 ts i) + newsFs (ts.drop (i + 1).toNat) := by
  have e : (i + 1).toNat = i.toNat + 1 := by omega
  have hlt : i.toNat < ts.length := by omega
  rw [List.drop_eq_getElem_cons hlt, e]
  simp [newsFs, rd_T24, List.getD_eq_getElem?_getD, List.getElem?_eq_getElem hlt]
mutual
/-- Formed trees: the next variable is so many further. -/
theorem litF_after : ∀ (t : S24) (n nx : Int), formedT t n = true → (litF t nx).2.2 = nx + newsF t
  | ⟨k, v, q, l⟩, n, nx, hf => by
    simp only [formedT, Bool.and_eq_true] at hf
    have h := litsF_after l n nx hf.2
    unfold litF
    simp only [newsF]
    by_cases h2 : k = 2
    · subst h2
      have hl : l = [] := by
        have h1 := hf.1
        simp [formedF] at h1
        exact h1.2.2
      subst hl
      simp [newsFs]
    · by_cases h3 : k = 3
      · simp [h3, h]
      · simp [h2, h3, h]
        omega
theorem litsF_after : ∀ (ts : List S24) (n nx : Int), formedTs ts n = true → (litsF ts nx).2.2 = nx + newsFs ts
  | [], n, nx, _ => by simp [litsF, newsFs]
  | t :: ts, n, nx, hf => by
    simp only [formedTs, Bool.and_eq_true] at hf
    have h1 := litF_after t n nx hf.1
    have h2 := litsF_after ts n (litF t nx).2.2 hf.2
    simp only [litsF, newsFs]
    omega
end
mutual
/-- The literals are of variables in use. -/
theorem litF_lit : ∀ (t : S24) (n nx : Int), formedT t n = true → 0 ≤ n → n < nx → (litF t nx).1 ≠ 0 ∧ (litF t nx).1 < (litF t nx).2.2 ∧ -(litF t nx).1 < (litF t nx).2.2
  | ⟨k, v, q, l⟩, n, nx, hf, h0, h1 => by
    simp only [formedT, Bool.and_eq_true] at hf
    have hl := litsF_lit l n nx hf.2 h0 h1
    have hg := litsF_grows l nx
    unfold litF
    by_cases h2 : k = 2
    · subst h2
      have hv := hf.1
      simp [formedF] at hv
      simp only [if_true]
      omega
    · by_cases h3 : k = 3
      · rw [if_neg h2, if_pos h3]
        subst h3
        have hv := hf.1
        simp [formedF] at hv
        obtain ⟨t, rfl⟩ := List.length_eq_one_iff.1 hv.2.2
        have := hl (litF t nx).1 (by simp [litsF])
        simp only [litsF, List.headD_cons] at this ⊢
        omega
      · rw [if_neg h2, if_neg h3]
        simp only
        omega
theorem litsF_lit : ∀ (ts : List S24) (n nx : Int), formedTs ts n = true → 0 ≤ n → n < nx → ∀ y ∈ (litsF ts nx).1, y ≠ 0 ∧ y < (litsF ts nx).2.2 ∧ -y < (litsF ts nx).2.2
  | [], n, nx, _, _, _ => by intro y hy; simp [litsF] at hy
  | t :: ts, n, nx, hf, h0, h1 => by
    simp only [formedTs, Bool.and_eq_true] at hf
    have h2 := litF_lit t n nx hf.1 h0 h1
    have hg := litF_grows t nx
    have hg2 := litsF_grows ts (litF t nx).2.2
    have h3 := litsF_lit ts n (litF t nx).2.2 hf.2 h0 (by omega)
    intro y hy
    simp only [litsF, List.mem_cons] at hy ⊢
    rcases hy with rfl | hy
    · omega
    · exact h3 y hy
end
/-- A constraint is well-formed over the variables 1 to n. -/
def okC (n : Int) (s : S40) : Prop := s.f0.length = s.f1.length ∧ s.f1.length ≤ 4096 ∧ (∀ c ∈ s.f0, -1099511627776 ≤ c ∧ c ≤ 1099511627776) ∧ (-1099511627776 ≤ s.f2 ∧ s.f2 ≤ 1099511627776) ∧ ∀ y ∈ s.f1, y ≠ 0 ∧ y ≤ n ∧ -y ≤ n
theorem okC_mono {n n' : Int} {s : S40} (h : okC n s) (hn : n ≤ n') : okC n' s := ⟨h.1, h.2.1, h.2.2.1, h.2.2.2.1, fun y hy => by have := h.2.2.2.2 y hy; omega⟩
theorem linF_ok {n : Int} {s : S40} (h : okC n s) (h0 : 0 ≤ n) (h1 : n ≤ 65536) : linF s.f0 s.f1 s.f2 n = 0 := by
  obtain ⟨e1, e2, e3, e4, e5⟩ := h
  unfold linF
  have ha : s.f0.any oddF = false := by
    rw [List.any_eq_false]
    intro c hc
    have := e3 c hc
    simp [oddF]
    omega
  have hb : s.f1.any (wrongF n) = false := by
    rw [List.any_eq_false]
    intro y hy
    have := e5 y hy
    simp [wrongF]
    omega
  have hc : oddF s.f2 = false := by
    simp [oddF]
    omega
  rw [if_neg (by omega), if_neg (by omega), if_neg (by simp [e1]), hc, ha, hb]
  simp
  omega
theorem sumsF_ok (x k : Int) (ls : List Int) (n : Int) (hl : ls.length ≤ 4095) (hx : x ≠ 0 ∧ x ≤ n ∧ -x ≤ n) (hy : ∀ y ∈ ls, y ≠ 0 ∧ y ≤ n ∧ -y ≤ n) : ∀ s ∈ sumsF x k ls, okC n s := by
  intro s hs
  unfold sumsF at hs
  unfold okC
  split at hs
  · simp at hs; subst hs; simp; omega
  · split at hs
    · simp at hs; subst hs; simp; omega
    · rename_i h1 h2
      simp at hs
      rcases hs with rfl | rfl
      · refine ⟨by simp, by simp; omega, ?_, by simp only; omega, ?_⟩
        · intro c hc
          rcases List.mem_cons.1 hc with rfl | hc
          · omega
          · have := List.eq_of_mem_replicate hc; omega
        · intro y hyy
          rcases List.mem_cons.1 hyy with rfl | hyy
          · omega
          · exact hy y hyy
      · refine ⟨by simp, by simp; omega, ?_, by simp only; omega, ?_⟩
        · intro c hc
          rcases List.mem_cons.1 hc with rfl | hc
          · omega
          · have := List.eq_of_mem_replicate hc; omega
        · intro y hyy
          rcases List.mem_cons.1 hyy with rfl | hyy
          · omega
          · obtain ⟨z, hz, rfl⟩ := List.mem_map.1 hyy
            have := hy z hz
            omega
mutual
theorem litF_okC : ∀ (t : S24) (n nx : Int), formedT t n = true → wideT t = false → 0 ≤ n → n < nx → ∀ s ∈ (litF t nx).2.1, okC ((litF t nx).2.2 - 1) s
  | ⟨k, v, q, l⟩, n, nx, hf, hw, h0, h1 => by
    simp only [formedT, Bool.and_eq_true] at hf
    simp only [wideT, Bool.or_eq_false_iff, decide_eq_false_iff_not] at hw
    have hs := litsF_okC l n nx hf.2 hw.2 h0 h1
    have hl := litsF_lit l n nx hf.2 h0 h1
    have hg := litsF_grows l nx
    unfold litF
    by_cases h2 : k = 2
    · rw [if_pos h2]; intro s hs; cases hs
    · by_cases h3 : k = 3
      · rw [if_neg h2, if_pos h3]; exact hs
      · rw [if_neg h2, if_neg h3]
        intro s hs'
        rcases List.mem_append.1 hs' with hs' | hs'
        · exact okC_mono (hs s hs') (by simp only; omega)
        · refine sumsF_ok _ _ _ _ (by rw [litsF_length]; omega) (by simp only; omega) (fun y hy => ?_) s hs'
          have := hl y hy
          simp only
          omega
theorem litsF_okC : ∀ (ts : List S24) (n nx : Int), formedTs ts n = true → wideTs ts = false → 0 ≤ n → n < nx → ∀ s ∈ (litsF ts nx).2.1, okC ((litsF ts nx).2.2 - 1) s
  | [], n, nx, _, _, _, _ => by intro s hs; simp [litsF] at hs
  | t :: ts, n, nx, hf, hw, h0, h1 => by
    simp only [formedTs, Bool.and_eq_true] at hf
    simp only [wideTs, Bool.or_eq_false_iff] at hw
    have hg := litF_grows t nx
    have hg2 := litsF_grows ts (litF t nx).2.2
    intro s hs
    simp only [litsF, List.mem_append] at hs ⊢
    rcases hs with hs | hs
    · exact okC_mono (litF_okC t n nx hf.1 hw.1 h0 h1 s hs) (by omega)
    · exact litsF_okC ts n _ hf.2 hw.2 h0 (by omega) s hs
end
end Go.Proofs.Ytkcmkoolcakfjaa.P

/- What the gate's constraints say of an assignment, in plain Lean. -/
namespace Go.Proofs.Ytkcmkoolcakfjaa.P
open Go.RowKit Go.Proofs.YtkcmkoolcakfjaaW.PrintWords
set_option linter.unusedVariables false
set_option linter.unusedSimpArgs false

/-- The value of a literal. -/
def trueF (x : Int) (a : List Bool) : Bool := if x < 0 then !(decide (-x < (a.length : Int)) && rdOf false a (-x)) else decide (x < (a.length : Int)) && rdOf false a x
/-- An assignment satisfies all constraints. -/
def holdsF (l : List S40) (a : List Bool) : Bool := l.all fun s => linValF s.f0 s.f1 s.f2 a
/-- How many literals are true. -/
def cntT (ls : List Int) (a : List Bool) : Nat := (ls.filter fun y => trueF y a).length
theorem litT_true {x : Int} {a : List Bool} (h : x ≠ 0) : litT x a = trueF x a := by
  unfold litT trueF absF
  by_cases h0 : x < 0
  · rw [if_pos h0, if_neg (by omega), decide_eq_false (show ¬ 0 < x by omega)]
    simp
  · rw [if_neg h0, if_pos (by omega), decide_eq_true (show 0 < x by omega)]
    simp
theorem trueF_neg {x : Int} {a : List Bool} (h : x ≠ 0) : trueF (-x) a = !trueF x a := by
  unfold trueF
  by_cases h0 : x < 0
  · rw [if_pos h0, if_neg (by omega)]
    simp
  · rw [if_neg h0, if_pos (by omega), Int.neg_neg]
theorem rdOf_append {a D : List Bool} {i : Int} (h0 : 0 ≤ i) (h : i < a.length) : rdOf false (a ++ D) i = rdOf false a i := by
  unfold rdOf
  rw [List.getD_eq_getElem?_getD, List.getD_eq_getElem?_getD, List.getElem?_append_left (by omega)]
theorem trueF_append {x : Int} {a D : List Bool} (h1 : x < a.length) (h2 : -x < a.length) : trueF x (a ++ D) = trueF x a := by
  unfold trueF
  rw [List.length_append]
  by_cases h0 : x < 0
  · rw [if_pos h0, if_pos h0, rdOf_append (by omega) h2, decide_eq_true (show -x < ((a.length + D.length : Nat) : Int) by omega), decide_eq_true h2]
  · rw [if_neg h0, if_neg h0, rdOf_append (by omega) h1, decide_eq_true (show x < ((a.length + D.length : Nat) : Int) by omega), decide_eq_true h1]
theorem append_of_take {A B : List Bool} (h : B.take A.length = A) : ∃ D, B = A ++ D := ⟨B.drop A.length, by
  have h1 := List.take_append_drop A.length B
  rw [h] at h1
  exact h1.symm⟩
theorem trueF_ext {x : Int} {A B : List Bool} (h : B.take A.length = A) (h1 : x < A.length) (h2 : -x < A.length) : trueF x B = trueF x A := by
  obtain ⟨D, rfl⟩ := append_of_take h
  exact trueF_append h1 h2
theorem cntT_ext {ls : List Int} {A B : List Bool} (h : B.take A.length = A) (hl : ∀ y ∈ ls, y < A.length ∧ -y < A.length) : cntT ls B = cntT ls A := by
  unfold cntT
  rw [List.filter_congr (fun y hy => trueF_ext h (hl y hy).1 (hl y hy).2)]
theorem cntT_le (ls : List Int) (a : List Bool) : cntT ls a ≤ ls.length := List.length_filter_le _ _
theorem cntT_neg {ls : List Int} {a : List Bool} (h : ∀ y ∈ ls, y ≠ 0) : cntT (ls.map fun y => -y) a + cntT ls a = ls.length := by
  induction ls with
  | nil => rfl
  | cons y ls ih =>
    have ih' := ih (fun z hz => h z (List.mem_cons_of_mem _ hz))
    have hy := trueF_neg (a := a) (h y List.mem_cons_self)
    unfold cntT at ih' ⊢
    rw [List.map_cons, List.filter_cons, List.filter_cons, hy]
    by_cases ht : trueF y a = true
    · simp only [ht, Bool.not_true, Bool.false_eq_true, if_false, if_true, List.length_cons]; omega
    · simp only [ht, Bool.not_eq_true, if_false, Bool.false_eq_true]
      simp only [show trueF y a = false by simpa using ht, Bool.not_false, if_true, List.length_cons, Bool.false_eq_true, if_false]
      omega
/-- A weighted first literal and others of weight one. -/
theorem foldF_one (c x : Int) (ys : List Int) (a : List Bool) : ∀ n : Nat, n ≤ ys.length → foldF (valG a) (c :: List.replicate ys.length 1) (x :: ys) 0 (n + 1) = (if litT x a = true then c else 0) + (((ys.take n).filter fun y => litT y a).length : Int)
  | 0, _ => by simp [foldF, valG, rd]
  | n + 1, h => by
    have ih := foldF_one c x ys a n (by omega)
    have e1 : rd (c :: List.replicate ys.length 1) ((n + 1 : Nat) : Int) = 1 := by
      unfold rd
      rw [Int.toNat_natCast, List.getD_eq_getElem?_getD, List.getElem?_cons_succ, List.getElem?_replicate, if_pos (by omega)]
      rfl
    have e2 : rd (x :: ys) ((n + 1 : Nat) : Int) = ys[n] := by
      unfold rd
      rw [Int.toNat_natCast, List.getD_eq_getElem?_getD, List.getElem?_cons_succ, List.getElem?_eq_getElem (by omega)]
      rfl
    rw [foldF, ih, e1, e2, valG, List.take_succ_eq_append_getElem (by omega), List.filter_append]
    by_cases ht : litT ys[n] a = true
    · simp [ht]; omega
    · simp [ht]
theorem foldF_one' (c x : Int) (ys : List Int) (a : List Bool) (hx : x ≠ 0) (hy : ∀ y ∈ ys, y ≠ 0) : foldF (valG a) (c :: List.replicate ys.length 1) (x :: ys) 0 (x :: ys).length = (if trueF x a = true then c else 0) + (cntT ys a : Int) := by
  rw [List.length_cons, foldF_one c x ys a ys.length (Nat.le_refl _), litT_true hx, List.take_length, cntT, List.filter_congr (fun y h => litT_true (hy y h))]
/-- The defining constraints of x hold exactly where x has the value of 'at least k of the literals'. -/
theorem sums_holds (x k : Int) (ls : List Int) (a : List Bool) (hl : ls.length ≤ 4095) (hx : 1 ≤ x ∧ x ≤ 65536) (hy : ∀ y ∈ ls, y ≠ 0 ∧ y ≤ 65536 ∧ -y ≤ 65536) : holdsF (sumsF x k ls) a = (trueF x a == decide (k ≤ (cntT ls a : Int))) := by
  have hok := sumsF_ok x k ls 65536 hl (by omega) hy
  have hv : ∀ s ∈ sumsF x k ls, linValF s.f0 s.f1 s.f2 a = decide (s.f2 ≤ foldF (valG a) s.f0 s.f1 0 s.f1.length) := fun s hs => by
    unfold linValF
    rw [if_pos (linF_ok (hok s hs) (by omega) (by omega))]
  have hc := cntT_le ls a
  have hneg := cntT_neg (ls := ls) (a := a) (fun y h => (hy y h).1)
  have hneg2 := trueF_neg (x := x) (a := a) (by omega)
  unfold holdsF
  rw [show ((sumsF x k ls).all fun s => linValF s.f0 s.f1 s.f2 a) = (sumsF x k ls).all fun s => decide (s.f2 ≤ foldF (valG a) s.f0 s.f1 0 s.f1.length) from by
    rw [Bool.eq_iff_iff, List.all_eq_true, List.all_eq_true]
    exact ⟨fun h s hs => by rw [← hv s hs]; exact h s hs, fun h s hs => by rw [hv s hs]; exact h s hs⟩]
  unfold sumsF
  by_cases h1 : k ≤ 0
  · have hf := foldF_one' 1 x [] a (by omega) (by simp)
    simp only [List.length_nil, List.replicate_zero] at hf
    rw [if_pos h1, decide_eq_true (show k ≤ (cntT ls a : Int) by omega)]
    simp only [List.all_cons, List.all_nil, hf, Bool.and_true]
    by_cases ht : trueF x a = true
    · simp [ht, cntT]
    · simp [ht, cntT]
  · rw [if_neg h1]
    by_cases h2 : (ls.length : Int) < k
    · have hf := foldF_one' 1 (-x) [] a (by omega) (by simp)
      simp only [List.length_nil, List.replicate_zero] at hf
      rw [if_pos h2, decide_eq_false (show ¬ k ≤ (cntT ls a : Int) by omega)]
      simp only [List.all_cons, List.all_nil, hf, Bool.and_true, hneg2]
      by_cases ht : trueF x a = true
      · simp [ht, cntT]
      · simp [ht, cntT]
    · rw [if_neg h2]
      have hf1 := foldF_one' k (-x) ls a (by omega) (fun y h => (hy y h).1)
      have hf2 := foldF_one' (ls.length - k + 1) x (ls.map fun y => -y) a (by omega) (fun y h => by
        obtain ⟨z, hz, rfl⟩ := List.mem_map.1 h
        have := (hy z hz).1
        omega)
      rw [List.length_map] at hf2
      simp only [List.all_cons, List.all_nil, hf1, hf2, Bool.and_true, hneg2]
      by_cases ht : trueF x a = true
      · simp only [ht, Bool.not_true, Bool.false_eq_true, if_false, if_true]
        by_cases hk : k ≤ (cntT ls a : Int)
        · rw [decide_eq_true hk, decide_eq_true (by omega), decide_eq_true (by omega)]; rfl
        · rw [decide_eq_false hk, decide_eq_false (show ¬ k ≤ 0 + (cntT ls a : Int) by omega)]; rfl
      · have ht' : trueF x a = false := by simpa using ht
        simp only [ht', Bool.not_false, Bool.false_eq_true, if_false, if_true]
        by_cases hk : k ≤ (cntT ls a : Int)
        · rw [decide_eq_true hk, decide_eq_false (show ¬ (ls.length - k + 1 ≤ 0 + (cntT (ls.map fun y => -y) a : Int)) by omega)]; simp
        · rw [decide_eq_false hk, decide_eq_true (show k ≤ k + (cntT ls a : Int) by omega), decide_eq_true (by omega)]; rfl
end Go.Proofs.Ytkcmkoolcakfjaa.P

/- Evaluating a formula bottom-up gives the one extension that satisfies the gate's constraints, in plain Lean. -/
namespace Go.Proofs.Ytkcmkoolcakfjaa.P
open Go.RowKit Go.Proofs.YtkcmkoolcakfjaaW.PrintWords
set_option linter.unusedVariables false
set_option linter.unusedSimpArgs false

/-- A node's value, of its operands' count. -/
def isF (kind v q : Int) (n : Nat) (cnt : Int) : Bool := if kind = 4 then cnt == (n : Int) else if kind = 5 then decide (0 < cnt) else if kind = 6 then decide (q ≤ cnt) else v == 1
mutual
/-- The literal of a formula and the assignment with its new variables. -/
def readF : S24 → List Bool → Int × List Bool
  | ⟨kind, v, q, l⟩, A =>
    if kind = 2 then (v, A) else
    if kind = 3 then (-((readsF l A).1.headD 0), (readsF l A).2.2) else
    ((readsF l A).2.2.length, (readsF l A).2.2 ++ [isF kind v q l.length (readsF l A).2.1])
/-- The literals of some formulas, how many are true, and the assignment with their new variables. -/
def readsF : List S24 → List Bool → List Int × Int × List Bool
  | [], A => ([], 0, A)
  | t :: ts, A => ((readF t A).1 :: (readsF ts (readF t A).2).1, (if trueF (readF t A).1 (readF t A).2 = true then 1 else 0) + (readsF ts (readF t A).2).2.1, (readsF ts (readF t A).2).2.2)
end
/-- A' is the one extension of A that satisfies l. -/
structure ReadOk (l : List S40) (after : Int) (A A' : List Bool) : Prop where
  len : (A'.length : Int) = after
  pre : A'.take A.length = A
  le : A.length ≤ A'.length
  only : ∀ B : List Bool, B.take A.length = A → A'.length ≤ B.length → (holdsF l B = true ↔ B.take A'.length = A')
theorem thr_is {kind v q : Int} {n : Nat} {m cnt : Int} (hf : formedF kind v q n m = true) (h2 : kind ≠ 2) (h3 : kind ≠ 3) (h0 : 0 ≤ cnt) (h1 : cnt ≤ n) : decide (thr kind v q n ≤ cnt) = isF kind v q n cnt := by
  unfold thr isF
  by_cases k1 : kind = 1
  · subst k1
    have hv : (v = 0 ∨ v = 1) ∧ n = 0 := by
      simp [formedF] at hf
      exact hf.2
    obtain ⟨hv, rfl⟩ := hv
    have hc : cnt = 0 := by omega
    subst hc
    rcases hv with rfl | rfl <;> rfl
  · by_cases k4 : kind = 4
    · subst k4
      simp only [show ¬ (4 : Int) = 1 from by decide, if_false, if_true]
      by_cases h : (n : Int) ≤ cnt
      · rw [decide_eq_true h]
        have : cnt = n := by omega
        simp [this]
      · rw [decide_eq_false h]
        have : ¬ cnt = n := by omega
        simp [this]
    · by_cases k5 : kind = 5
      · subst k5
        simp only [show ¬ (5 : Int) = 1 from by decide, show ¬ (5 : Int) = 4 from by decide, if_false, if_true]
        by_cases h : (1 : Int) ≤ cnt
        · rw [decide_eq_true h, decide_eq_true (by omega)]
        · rw [decide_eq_false h, decide_eq_false (by omega)]
      · by_cases k6 : kind = 6
        · subst k6
          rfl
        · simp [formedF, k1, h2, h3, k4, k5, k6] at hf
theorem is_val {kind v q : Int} {ts : List S24} {m : Int} {a : List Bool} (hf : formedF kind v q ts.length m = true) (h2 : kind ≠ 2) (h3 : kind ≠ 3) : isF kind v q ts.length (cntF ts a) = valF ⟨kind, v, q, ts⟩ a := by
  unfold isF
  rw [valF]
  by_cases k1 : kind = 1
  · subst k1; rfl
  · by_cases k4 : kind = 4
    · subst k4; rfl
    · by_cases k5 : kind = 5
      · subst k5
        show decide (0 < (cntF ts a : Int)) = anyF ts a
        rw [anyF_any, cntF_filter]
        by_cases h : (ts.any fun t => valF t a) = true
        · rw [h]
          obtain ⟨t, ht, hv⟩ := List.any_eq_true.1 h
          have : 0 < (ts.filter fun t => valF t a).length := List.length_pos_of_mem (List.mem_filter.2 ⟨ht, hv⟩)
          exact decide_eq_true (by omega)
        · rw [show (ts.any fun t => valF t a) = false by simpa using h]
          have : (ts.filter fun t => valF t a) = [] := List.filter_eq_nil_iff.2 (fun t ht hv => h (List.any_eq_true.2 ⟨t, ht, hv⟩))
          rw [this]
          decide
      · by_cases k6 : kind = 6
        · subst k6; rfl
        · simp [formedF, k1, h2, h3, k4, k5, k6] at hf
theorem holdsF_append (l1 l2 : List S40) (B : List Bool) : holdsF (l1 ++ l2) B = (holdsF l1 B && holdsF l2 B) := by
  unfold holdsF; rw [List.all_append]
theorem take_of_take {A' B : List Bool} {n : Nat} (h : B.take A'.length = A') (hn : n ≤ A'.length) : B.take n = A'.take n := by
  have h1 : (B.take A'.length).take n = B.take n := by rw [List.take_take, Nat.min_eq_left hn]
  rw [h] at h1
  exact h1.symm
theorem ReadOk.refl (A : List Bool) : ReadOk [] A.length A A := ⟨rfl, List.take_length, Nat.le_refl _, fun B hB _ => by simp [holdsF, hB]⟩
theorem ReadOk.trans {l1 l2 : List S40} {n1 n2 : Int} {A A1 A2 : List Bool} (h : ReadOk l1 n1 A A1) (k : ReadOk l2 n2 A1 A2) : ReadOk (l1 ++ l2) n2 A A2 := by
  refine ⟨k.len, ?_, Nat.le_trans h.le k.le, fun B hB hl => ?_⟩
  · rw [take_of_take k.pre h.le, h.pre]
  · rw [holdsF_append, Bool.and_eq_true, h.only B hB (Nat.le_trans k.le hl)]
    constructor
    · rintro ⟨h1, h2⟩
      exact (k.only B h1 hl).1 h2
    · intro h1
      have h2 : B.take A1.length = A1 := by rw [take_of_take h1 k.le, k.pre]
      exact ⟨h2, (k.only B h2 hl).2 h1⟩
mutual
theorem read_ok : ∀ (t : S24) (n next : Int) (base A : List Bool), formedT t n = true → wideT t = false → 0 ≤ n → n < next → (litF t next).2.2 ≤ 65537 → (A.length : Int) = next → n < base.length → A.take base.length = base →
    (readF t A).1 = (litF t next).1 ∧ ReadOk (litF t next).2.1 (litF t next).2.2 A (readF t A).2 ∧ trueF (readF t A).1 (readF t A).2 = valF t base
  | ⟨kind, v, q, ts⟩, n, next, base, A, hf, hw, h0, h1, hb, hA, hn, hAb => by
    simp only [formedT, Bool.and_eq_true] at hf
    simp only [wideT, Bool.or_eq_false_iff, decide_eq_false_iff_not] at hw
    have hg := litsF_grows ts next
    have hlt := litsF_lit ts n next hf.2 h0 h1
    have hsl := litsF_length ts next
    by_cases k2 : kind = 2
    · subst k2
      have hv : (1 ≤ v ∧ v ≤ n) ∧ ts = [] := by
        have hv := hf.1
        simp [formedF] at hv
        exact ⟨hv.2.1, hv.2.2⟩
      obtain ⟨hv, rfl⟩ := hv
      have e1 : litF ⟨2, v, q, []⟩ next = (v, [], next) := by rw [litF]; rfl
      have e2 : readF ⟨2, v, q, []⟩ A = (v, A) := by rw [readF]; rfl
      rw [e1, e2]
      refine ⟨rfl, ?_, ?_⟩
      · rw [← hA]; exact ReadOk.refl A
      · rw [trueF_ext hAb (by omega) (by omega)]
        show trueF v base = _
        rw [valF]
        show _ = (decide (0 < v) && (decide (v < (base.length : Int)) && rdOf false base v))
        unfold trueF
        rw [if_neg (by omega), decide_eq_true (show 0 < v by omega)]
        rfl
    · by_cases k3 : kind = 3
      · subst k3
        have hl : ∃ t, ts = [t] := by
          have hv := hf.1
          simp [formedF] at hv
          exact List.length_eq_one_iff.1 hv.2.2
        obtain ⟨t, rfl⟩ := hl
        have e1 : litF ⟨3, v, q, [t]⟩ next = (-(litF t next).1, (litF t next).2.1, (litF t next).2.2) := by rw [litF]; simp [litsF]
        have e2 : readF ⟨3, v, q, [t]⟩ A = (-(readF t A).1, (readF t A).2) := by rw [readF]; simp [readsF]
        rw [e1] at hb
        simp only [formedTs, Bool.and_true] at hf
        simp only [wideTs, Bool.or_false] at hw
        obtain ⟨g1, g2, g3⟩ := read_ok t n next base A hf.2 hw.2 h0 h1 hb hA hn hAb
        have hlit := litF_lit t n next hf.2 h0 h1
        rw [e1, e2]
        refine ⟨by rw [g1], g2, ?_⟩
        rw [trueF_neg (by rw [g1]; exact hlit.1), g3, valF]
        show _ = !(anyF [t] base)
        simp [anyF]
      · have e1 : litF ⟨kind, v, q, ts⟩ next = ((litsF ts next).2.2, (litsF ts next).2.1 ++ sumsF (litsF ts next).2.2 (thr kind v q ts.length) (litsF ts next).1, (litsF ts next).2.2 + 1) := by rw [litF]; rw [if_neg k2, if_neg k3]
        have e2 : readF ⟨kind, v, q, ts⟩ A = (((readsF ts A).2.2.length : Int), (readsF ts A).2.2 ++ [isF kind v q ts.length (readsF ts A).2.1]) := by rw [readF]; rw [if_neg k2, if_neg k3]
        rw [e1] at hb ⊢
        rw [e2]
        simp only at hb ⊢
        obtain ⟨g1, g2, g3, g4⟩ := reads_ok ts n next base A hf.2 hw.2 h0 h1 (by omega) hA hn hAb
        generalize hA' : (readsF ts A).2.2 = A' at g2 g4 ⊢
        generalize hcnt : (readsF ts A).2.1 = cnt at g3 ⊢
        generalize hmid : (litsF ts next).2.2 = mid at hb hg hlt g2 ⊢
        generalize hlits : (litsF ts next).1 = lits at hlt hsl g4 ⊢
        have hlen := g2.len
        have hc1 := cntT_le lits A'
        rw [g4 A' List.take_length] at hc1
        have hthr := thr_is (cnt := cnt) hf.1 k2 k3 (by omega) (by omega)
        have htr : trueF (A'.length : Int) (A' ++ [isF kind v q ts.length cnt]) = isF kind v q ts.length cnt := by
          unfold trueF
          rw [if_neg (by omega), List.length_append, decide_eq_true (show ((A'.length : Nat) : Int) < ((A'.length + [isF kind v q ts.length cnt].length : Nat) : Int) by rw [List.length_singleton]; omega)]
          unfold rdOf
          rw [Int.toNat_natCast, List.getD_eq_getElem?_getD, List.getElem?_append_right (Nat.le_refl _)]
          simp
        refine ⟨hlen, ?_, by rw [htr, g3]; exact is_val hf.1 k2 k3⟩
        refine g2.trans (A1 := A') ⟨by rw [List.length_append, List.length_singleton]; omega, by rw [List.take_append_of_le_length (Nat.le_refl _), List.take_length], by simp, fun B hB hl => ?_⟩
        rw [List.length_append, List.length_singleton] at hl ⊢
        have hs := sums_holds mid (thr kind v q ts.length) lits B (by omega) (by omega) (fun y hy => by have := hlt y hy; omega)
        rw [hs, g4 B hB, ← g3, hthr]
        have hBt : B.take (A'.length + 1) = A' ++ [B[A'.length]] := by rw [List.take_succ_eq_append_getElem (by omega), hB]
        have htB : trueF mid B = B[A'.length] := by
          unfold trueF
          rw [if_neg (by omega), decide_eq_true (by omega)]
          unfold rdOf
          rw [show mid.toNat = A'.length by omega, List.getD_eq_getElem?_getD, List.getElem?_eq_getElem (by omega)]
          rfl
        rw [hBt, htB, beq_iff_eq]
        simp
theorem reads_ok : ∀ (ts : List S24) (n next : Int) (base A : List Bool), formedTs ts n = true → wideTs ts = false → 0 ≤ n → n < next → (litsF ts next).2.2 ≤ 65537 → (A.length : Int) = next → n < base.length → A.take base.length = base →
    (readsF ts A).1 = (litsF ts next).1 ∧ ReadOk (litsF ts next).2.1 (litsF ts next).2.2 A (readsF ts A).2.2 ∧ (readsF ts A).2.1 = (cntF ts base : Int) ∧ ∀ B : List Bool, B.take (readsF ts A).2.2.length = (readsF ts A).2.2 → cntT (litsF ts next).1 B = cntF ts base
  | [], n, next, base, A, hf, hw, h0, h1, hb, hA, hn, hAb => by
    refine ⟨rfl, ?_, rfl, fun B hB => rfl⟩
    show ReadOk [] next A A
    rw [← hA]
    exact ReadOk.refl A
  | t :: ts, n, next, base, A, hf, hw, h0, h1, hb, hA, hn, hAb => by
    simp only [formedTs, Bool.and_eq_true] at hf
    simp only [wideTs, Bool.or_eq_false_iff] at hw
    have hg := litF_grows t next
    have hg2 := litsF_grows ts (litF t next).2.2
    have e1 : litsF (t :: ts) next = ((litF t next).1 :: (litsF ts (litF t next).2.2).1, (litF t next).2.1 ++ (litsF ts (litF t next).2.2).2.1, (litsF ts (litF t next).2.2).2.2) := by rw [litsF]
    have e2 : readsF (t :: ts) A = ((readF t A).1 :: (readsF ts (readF t A).2).1, (if trueF (readF t A).1 (readF t A).2 = true then 1 else 0) + (readsF ts (readF t A).2).2.1, (readsF ts (readF t A).2).2.2) := by rw [readsF]
    rw [e1] at hb ⊢
    rw [e2]
    simp only at hb ⊢
    obtain ⟨g1, g2, g3⟩ := read_ok t n next base A hf.1 hw.1 h0 h1 (by omega) hA hn hAb
    have hle : base.length ≤ A.length := by
      have := congrArg List.length hAb
      rw [List.length_take] at this
      omega
    have hbase : (readF t A).2.take base.length = base := by rw [take_of_take g2.pre hle, hAb]
    obtain ⟨k1, k2, k3, k4⟩ := reads_ok ts n (litF t next).2.2 base (readF t A).2 hf.2 hw.2 h0 (by omega) hb g2.len hn hbase
    have hlit := litF_lit t n next hf.1 h0 h1
    have hcs : (cntF (t :: ts) base : Int) = (if valF t base = true then 1 else 0) + (cntF ts base : Int) := by
      simp only [cntF]
      split <;> simp
    refine ⟨by rw [g1, k1], g2.trans k2, by rw [g3, k3, hcs], fun B hB => ?_⟩
    have hB1 : B.take (readF t A).2.length = (readF t A).2 := by rw [take_of_take hB k2.le, k2.pre]
    have ht : trueF (litF t next).1 B = valF t base := by
      rw [← g1, trueF_ext hB1 (by rw [g1, g2.len]; exact hlit.2.1) (by rw [g1, g2.len]; exact hlit.2.2), g3]
    have hk := k4 B hB
    unfold cntT at hk ⊢
    rw [List.filter_cons, ht]
    simp only [cntF]
    by_cases hv : valF t base = true
    · rw [if_pos hv, if_pos hv, List.length_cons, hk]; omega
    · rw [if_neg hv, if_neg hv, hk]; omega
end
end Go.Proofs.Ytkcmkoolcakfjaa.P

/- Wide and small trees. -/
namespace Go.Proofs.Ytkcmkoolcakfjaa.P
open Go.RowKit Go.Proofs.YtkcmkoolcakfjaaW.PrintWords Go.Proofs.YtkcmkoolcakfjaaW.PrintMore
set_option linter.unusedVariables false
set_option linter.unusedSimpArgs false

mutual
theorem wide_size : ∀ t : S24, wideT t = true → 4096 ≤ sizeT t
  | ⟨_, _, _, l⟩, h => by
    simp only [wideT, Bool.or_eq_true, decide_eq_true_eq] at h
    have := length_le_sizeTs l
    simp only [sizeT]
    rcases h with h | h
    · omega
    · have := wides_size l h; omega
theorem wides_size : ∀ ts : List S24, wideTs ts = true → 4096 ≤ sizeTs ts
  | [], h => by simp [wideTs] at h
  | t :: ts, h => by
    simp only [wideTs, Bool.or_eq_true] at h
    simp only [sizeTs]
    rcases h with h | h
    · have := wide_size t h; omega
    · have := wides_size ts h; omega
end
theorem rd_T40_mem (cs : List S40) (i : Int) (h0 : 0 ≤ i) (h1 : i < cs.length) : rd_T40 cs i ∈ cs := by
  unfold rd_T40
  rw [List.getD_eq_getElem?_getD, List.getElem?_eq_getElem (show i.toNat < cs.length by omega)]
  exact List.getElem_mem _
/-- Small trees: the reference's answer. -/
theorem refF_small (T : S24) (next : Int) (h0 : 1 ≤ next) (h1 : next + sizeT T ≤ 4000) : (checkF T (next - 1) ≠ 0 ∧ refF T next = (0, [], 0, checkF T (next - 1))) ∨
    (formedT T (next - 1) = true ∧ checkF T (next - 1) = 0 ∧ wideT T = false ∧ (litF T next).2.2 = next + newsF T ∧ (litF T next).2.2 ≤ 65537 ∧ refF T next = ((litF T next).1, (litF T next).2.1, (litF T next).2.2, 0)) := by
  by_cases h3 : checkF T (next - 1) = 0
  · right
    have hf := checkF_zero h3
    have hw : wideT T = false := by
      by_cases hw : wideT T = true
      · have := wide_size T hw; omega
      · simpa using hw
    have ha := litF_after T (next - 1) next hf
    have hb := newsF_bound T
    have hn := (litF_grows T next).1
    refine ⟨hf, h3, hw, ha, by omega, ?_⟩
    unfold refF
    rw [if_neg (by omega), if_neg (by omega), if_neg (by simpa using h3), if_neg (by simp [hw]), if_neg (by omega)]
  · left
    refine ⟨h3, ?_⟩
    unfold refF
    rw [if_neg (by omega), if_neg (by omega), if_pos h3]
end Go.Proofs.Ytkcmkoolcakfjaa.P

/- What an assignment that is handed in reads as. -/
namespace Go.Proofs.Ytkcmkoolcakfjaa.P
open Go.RowKit Go.Proofs.YtkcmkoolcakfjaaW.PrintWords
set_option linter.unusedVariables false
set_option linter.unusedSimpArgs false

theorem cells4_ : Try.prog.cellsOf 4 = 1 := by kernel_rfl
section
variable {H : Type} {enc : TypeId × Value → H} {w : World} {spare : Nat → Bool} {held : Bool}
theorem one_le_bulk (d : DataW H) : 1 ≤ Rows.uptoBulk d := by
  cases d with
  | lit l => cases l <;> simp [Rows.uptoBulk]
  | _ => simp [Rows.uptoBulk]
theorem length_le_bulk : ∀ es : List (DataW H), es.length ≤ Rows.uptoBulkAll es
  | [] => by simp [Rows.uptoBulkAll]
  | d :: es => by
    have h1 := one_le_bulk d
    have h2 := length_le_bulk es
    simp only [Rows.uptoBulkAll, List.length_cons]
    omega
set_option maxRecDepth 100000 in
/-- A list of bools that lies in memory. -/
theorem trod_bools (fuel : Nat) (v : Value) (x : DataW H × List MemPlace) (h3 : DataW.trod enc Try.prog w 0 spare held fuel 43 [v] = some x) : ∃ (ts : List Bool) (A : Option Addr) (c : Nat), v = .slice A ts.length c ∧ ts.length ≤ c ∧ Kd.C Kd.bool w A ts.length ts ∧ ts.length ≤ Rows.uptoBulk x.1 := by
  rcases DataW.trod_slice Try.underlying43 h3 with ⟨e3, d3⟩ | ⟨a, len, cap, elems, rest, m, rfl, e3, d3, hb, hlc, hcm, hel, hat, _, _⟩
  · injection e3 with e3 _
    subst e3
    exact ⟨[], none, 0, rfl, Nat.le_refl _, Kd.C_nil Kd.bool w, by simp⟩
  · injection e3 with e3 _
    subst e3
    have hex : ∀ i : Nat, ∃ b : Bool, i < len → w.cells? 0 (a.add (i * 1)) 1 = some [.bool b] := by
      intro i
      by_cases hi : i < len
      · have hi' := hat i hi
        rw [cells4_, List.getElem?_eq_getElem (by omega)] at hi'
        obtain ⟨cs', h1, h2⟩ := Option.bind_eq_some_iff.1 hi'
        obtain ⟨b, rfl, _⟩ := DataW.trod_bool Try.underlying4 h2
        exact ⟨b, fun _ => h1⟩
      · exact ⟨false, fun h => absurd h hi⟩
    obtain ⟨f, hf'⟩ := Classical.axiomOfChoice hex
    refine ⟨(List.range len).map f, some a, cap, by simp, by simpa using hlc, ⟨by simp, by simp only [maxLen] at hcm; simp; omega, fun _ => ⟨a, rfl, fun j p hj => ?_⟩⟩, ?_⟩
    · rw [List.getElem?_map] at hj
      obtain ⟨j', hj', rfl⟩ := Option.map_eq_some_iff.1 hj
      have hjl : j < len := by
        have := (List.getElem?_eq_some_iff.1 hj').1
        simpa using this
      have hjj : j' = j := by
        rw [List.getElem?_range hjl] at hj'
        exact (Option.some.inj hj').symm
      subst hjj
      have h1 := hf' j' hjl
      obtain ⟨_, hl1, hcell⟩ := World.cells?_some h1
      refine ⟨[.bool (f j')], rfl, rfl, fun i u hu => ?_⟩
      have hi1 : i < 1 := by
        have := (List.getElem?_eq_some_iff.1 hu).1
        simpa using this
      have hs : Kd.bool.sz = 1 := rfl
      rw [hs, ← Addr.add_add, hcell i hi1]
      exact hu
    · have h1 := length_le_bulk (elems.map (·.1))
      rw [d3]
      simp only [List.length_map, List.length_range, Rows.uptoBulk, hel] at h1 ⊢
      omega
end
end Go.Proofs.Ytkcmkoolcakfjaa.P

/- What flat.Simple computes, in plain Lean: formed formulas of no more nodes and of the same value. -/
import Derived.Test.YtkcmkoolcakfjaaDoorHSem
namespace Go.Proofs.YtkcmkoolcakfjaaDoor.P
open Go.RowKit Go.Proofs.YtkcmkoolcakfjaaDoorW.PrintWords
set_option linter.unusedVariables false
set_option linter.unusedSimpArgs false

/-- The neutral constant. -/
def idleF (kind : Int) : Int := if kind = 4 then 1 else 0
def constT (v : Int) : S24 := ⟨1, v, 0, []⟩
def flatF (kind : Int) (l : List S24) : List S24 := (l.filter fun x => x.f0 != 1).flatMap fun x => if x.f0 = kind then x.f3 else [x]
def joinF (kind : Int) (l : List S24) : S24 :=
  if l.any (fun x => x.f0 == 1 && x.f1 != idleF kind) = true then constT (1 - idleF kind) else
  if (flatF kind l).length = 0 then constT (idleF kind) else
  if (flatF kind l).length = 1 then rd_T24 (flatF kind l) 0 else ⟨kind, 0, 0, flatF kind l⟩
def onesF (l : List S24) : Nat := (l.filter fun x => x.f0 == 1 && x.f1 == 1).length
def leastF (q : Int) (l : List S24) : S24 :=
  if q - onesF l ≤ 0 then constT 1 else
  if ((l.filter fun x => x.f0 != 1).length : Int) < q - onesF l then constT 0 else
  if q - onesF l = ((l.filter fun x => x.f0 != 1).length : Int) then joinF 4 (l.filter fun x => x.f0 != 1) else
  if q - onesF l = 1 then joinF 5 (l.filter fun x => x.f0 != 1) else ⟨6, 0, q - onesF l, l.filter fun x => x.f0 != 1⟩
def notF (l : List S24) : S24 :=
  if (rd_T24 l 0).f0 = 1 then constT (1 - (rd_T24 l 0).f1) else
  if (rd_T24 l 0).f0 = 3 then rd_T24 (rd_T24 l 0).f3 0 else ⟨3, 0, 0, l⟩
mutual
def simpF : S24 → S24
  | ⟨kind, v, q, l⟩ => if kind = 3 then notF (simpsF l) else if kind = 4 then joinF 4 (simpsF l) else if kind = 5 then joinF 5 (simpsF l) else if kind = 6 then leastF q (simpsF l) else ⟨kind, v, q, l⟩
def simpsF : List S24 → List S24
  | [] => []
  | t :: ts => simpF t :: simpsF ts
end
theorem simpsF_map (ts : List S24) : simpsF ts = ts.map simpF := by
  induction ts with
  | nil => rfl
  | cons t ts ih => simp [simpsF, ih]
theorem simpsF_length (ts : List S24) : (simpsF ts).length = ts.length := by rw [simpsF_map, List.length_map]
/-- All are true. -/
def allF (l : List S24) (a : List Bool) : Bool := l.all fun t => valF t a
theorem cnt_all (l : List S24) (a : List Bool) : ((cntF l a : Int) == (l.length : Int)) = allF l a := by
  rw [cntF_filter]
  unfold allF
  rw [Bool.eq_iff_iff, beq_iff_eq, List.all_eq_true]
  constructor
  · intro h t ht
    have h1 : (l.filter fun t => valF t a).length = l.length := by omega
    exact (List.length_filter_eq_length_iff.1 h1) t ht
  · intro h
    have := List.length_filter_eq_length_iff.2 h
    omega
theorem val4 (v q : Int) (l : List S24) (a : List Bool) : valF ⟨4, v, q, l⟩ a = allF l a := by rw [← cnt_all, valF]; rfl
theorem val5 (v q : Int) (l : List S24) (a : List Bool) : valF ⟨5, v, q, l⟩ a = anyF l a := by rw [valF]; rfl
theorem val_const (v : Int) (a : List Bool) : valF (constT v) a = (v == 1) := by unfold constT; rw [valF]; rfl
theorem size_pos (t : S24) : 1 ≤ sizeT t := by cases t; simp [sizeT]
theorem sizeTs_filter (p : S24 → Bool) (l : List S24) : sizeTs (l.filter p) ≤ sizeTs l := by
  induction l with
  | nil => simp
  | cons t l ih => rw [List.filter_cons]; split <;> simp only [sizeTs] <;> omega
theorem sizeTs_append (l m : List S24) : sizeTs (l ++ m) = sizeTs l + sizeTs m := by
  induction l with
  | nil => simp [sizeTs]
  | cons t l ih => simp only [List.cons_append, sizeTs, ih]; omega
theorem formedTs_append (l m : List S24) (n : Int) : formedTs (l ++ m) n = (formedTs l n && formedTs m n) := by
  induction l with
  | nil => simp [formedTs]
  | cons t l ih => simp only [List.cons_append, formedTs, ih, Bool.and_assoc]
theorem formedTs_filter (p : S24 → Bool) {l : List S24} {n : Int} (h : formedTs l n = true) : formedTs (l.filter p) n = true := by
  induction l with
  | nil => simpa using h
  | cons t l ih =>
    simp only [formedTs, Bool.and_eq_true] at h
    rw [List.filter_cons]
    split
    · simp only [formedTs, Bool.and_eq_true]; exact ⟨h.1, ih h.2⟩
    · exact ih h.2
theorem formed_node {t : S24} {n : Int} (h : formedT t n = true) : formedF t.f0 t.f1 t.f2 t.f3.length n = true ∧ formedTs t.f3 n = true := by
  cases t; simpa [formedT] using h
theorem size_node (t : S24) : sizeT t = 1 + sizeTs t.f3 := by cases t; rfl
theorem flat_ok (kind : Int) (l : List S24) (n : Int) (h : formedTs l n = true) : formedTs (flatF kind l) n = true ∧ sizeTs (flatF kind l) ≤ sizeTs l := by
  unfold flatF
  induction l with
  | nil => simp [formedTs]
  | cons t l ih =>
    simp only [formedTs, Bool.and_eq_true] at h
    have hi := ih h.2
    have hn := formed_node h.1
    have hs := size_node t
    rw [List.filter_cons]
    split
    · rw [List.flatMap_cons, formedTs_append, sizeTs_append]
      simp only [sizeTs]
      by_cases hk : t.f0 = kind
      · rw [if_pos hk]
        exact ⟨by rw [hn.2, hi.1]; rfl, by omega⟩
      · rw [if_neg hk]
        simp only [formedTs, h.1, hi.1, sizeTs, Bool.and_self, Bool.and_true, true_and]
        omega
    · simp only [sizeTs]
      exact ⟨hi.1, by omega⟩
theorem const_formed {v n : Int} (h : v = 0 ∨ v = 1) : formedT (constT v) n = true := by
  unfold constT
  rcases h with rfl | rfl <;> simp [formedT, formedF, formedTs]
theorem known_one {t : S24} {n : Int} (h : formedT t n = true) (h1 : t.f0 = 1) : (t.f1 = 0 ∨ t.f1 = 1) ∧ ∀ a, valF t a = (t.f1 == 1) := by
  have hn := (formed_node h).1
  rw [h1] at hn
  constructor
  · simp [formedF] at hn
    omega
  · intro a
    cases t
    simp only at h1 ⊢
    subst h1
    rw [valF]
    rfl
theorem all_flat (l : List S24) (a : List Bool) (n : Int) (h : formedTs l n = true) (hk : l.any (fun x => x.f0 == 1 && x.f1 != 1) = false) : allF (flatF 4 l) a = allF l a := by
  unfold allF flatF
  induction l with
  | nil => rfl
  | cons t l ih =>
    simp only [formedTs, Bool.and_eq_true] at h
    simp only [List.any_cons, Bool.or_eq_false_iff] at hk
    have hi := ih h.2 hk.2
    rw [List.filter_cons, List.all_cons]
    by_cases h1 : t.f0 = 1
    · have hv := known_one h.1 h1
      have h0 := hk.1
      simp [h1] at h0
      simp only [h1, bne_self_eq_false, Bool.false_eq_true, if_false]
      rw [hi, hv.2 a, h0]
      rfl
    · rw [if_pos (by simpa using h1), List.flatMap_cons, List.all_append, hi]
      congr 1
      by_cases h4 : t.f0 = 4
      · rw [if_pos h4]
        cases t
        simp only at h4 ⊢
        subst h4
        rw [val4]
        rfl
      · rw [if_neg h4]
        simp
theorem any_flat (l : List S24) (a : List Bool) (n : Int) (h : formedTs l n = true) (hk : l.any (fun x => x.f0 == 1 && x.f1 != 0) = false) : anyF (flatF 5 l) a = anyF l a := by
  rw [anyF_any, anyF_any]
  unfold flatF
  induction l with
  | nil => rfl
  | cons t l ih =>
    simp only [formedTs, Bool.and_eq_true] at h
    simp only [List.any_cons, Bool.or_eq_false_iff] at hk
    have hi := ih h.2 hk.2
    rw [List.filter_cons, List.any_cons]
    by_cases h1 : t.f0 = 1
    · have hv := known_one h.1 h1
      have h0 := hk.1
      simp [h1] at h0
      simp only [h1, bne_self_eq_false, Bool.false_eq_true, if_false]
      rw [hi, hv.2 a, h0]
      rfl
    · rw [if_pos (by simpa using h1), List.flatMap_cons, List.any_append, hi]
      congr 1
      by_cases h5 : t.f0 = 5
      · rw [if_pos h5]
        cases t
        simp only at h5 ⊢
        subst h5
        rw [val5, anyF_any]
      · rw [if_neg h5]
        simp
theorem one_list {l : List S24} (h : l.length = 1) : l = [rd_T24 l 0] := by
  obtain ⟨x, rfl⟩ := List.length_eq_one_iff.1 h
  rfl
theorem join_ok (kind : Int) (hk : kind = 4 ∨ kind = 5) (l : List S24) (n : Int) (h : formedTs l n = true) : formedT (joinF kind l) n = true ∧ sizeT (joinF kind l) ≤ 1 + sizeTs l ∧ ∀ a, valF (joinF kind l) a = valF ⟨kind, 0, 0, l⟩ a := by
  have hid : idleF kind = 0 ∨ idleF kind = 1 := by unfold idleF; split <;> simp
  have hc : ∀ v, sizeT (constT v) = 1 := fun v => rfl
  obtain ⟨hf, hs⟩ := flat_ok kind l n h
  unfold joinF
  by_cases ha : l.any (fun x => x.f0 == 1 && x.f1 != idleF kind) = true
  · rw [if_pos ha]
    refine ⟨const_formed (by omega), by rw [hc]; omega, fun a => ?_⟩
    rw [val_const]
    obtain ⟨x, hx, hx2⟩ := List.any_eq_true.1 ha
    simp only [Bool.and_eq_true, beq_iff_eq, bne_iff_ne, ne_eq] at hx2
    have hv := known_one (formedTs_mem h x hx) hx2.1
    rcases hk with rfl | rfl
    · have hi : idleF 4 = 1 := rfl
      rw [hi] at hx2 ⊢
      rw [val4]
      have : valF x a = false := by rw [hv.2 a]; simpa using hx2.2
      have : allF l a = false := by
        unfold allF
        rw [Bool.eq_false_iff]
        intro hall
        have := List.all_eq_true.1 hall x hx
        simp_all
      rw [this]
      rfl
    · have hi : idleF 5 = 0 := rfl
      rw [hi] at hx2 ⊢
      rw [val5, anyF_any]
      have h1 : x.f1 = 1 := hv.1.resolve_left hx2.2
      have : (l.any fun t => valF t a) = true := List.any_eq_true.2 ⟨x, hx, by rw [hv.2 a, h1]; rfl⟩
      rw [this]
      rfl
  · have ha' : l.any (fun x => x.f0 == 1 && x.f1 != idleF kind) = false := by simpa using ha
    rw [if_neg ha]
    have hval : ∀ a, valF ⟨kind, 0, 0, l⟩ a = valF ⟨kind, 0, 0, flatF kind l⟩ a := fun a => by
      rcases hk with rfl | rfl
      · rw [val4, val4, all_flat l a n h ha']
      · rw [val5, val5, any_flat l a n h ha']
    by_cases h0 : (flatF kind l).length = 0
    · rw [if_pos h0]
      refine ⟨const_formed hid, by rw [hc]; omega, fun a => ?_⟩
      rw [hval, val_const, List.length_eq_zero_iff.1 h0]
      rcases hk with rfl | rfl
      · rw [val4]; rfl
      · rw [val5]; rfl
    · rw [if_neg h0]
      by_cases h1 : (flatF kind l).length = 1
      · rw [if_pos h1]
        have he := one_list h1
        rw [he] at hf hs
        simp only [formedTs, Bool.and_true, sizeTs] at hf hs
        refine ⟨hf, by omega, fun a => ?_⟩
        rw [hval]
        conv => rhs; rw [he]
        rcases hk with rfl | rfl
        · rw [val4]; simp [allF]
        · rw [val5]; simp [anyF]
      · rw [if_neg h1]
        refine ⟨?_, by rw [size_node]; simp only; omega, fun a => (hval a).symm⟩
        simp only [formedT, Bool.and_eq_true]
        refine ⟨?_, hf⟩
        rcases hk with rfl | rfl <;> simp [formedF]
theorem cnt_open (l : List S24) (a : List Bool) (n : Int) (h : formedTs l n = true) : cntF l a = onesF l + cntF (l.filter fun x => x.f0 != 1) a := by
  unfold onesF
  induction l with
  | nil => rfl
  | cons t l ih =>
    simp only [formedTs, Bool.and_eq_true] at h
    have hi := ih h.2
    rw [List.filter_cons, List.filter_cons]
    simp only [cntF]
    by_cases h1 : t.f0 = 1
    · have hv := known_one h.1 h1
      rw [hv.2 a]
      rcases hv.1 with h0 | h0
      · simp [h1, h0, hi]
      · simp [h1, h0, hi]; omega
    · simp only [h1, beq_iff_eq, bne_iff_ne, ne_eq, not_false_eq_true, if_true, Bool.and_eq_true, false_and, if_false, cntF, hi]
      omega
theorem least_ok (v q : Int) (l : List S24) (n : Int) (hq : 0 ≤ q ∧ q ≤ 1099511627776) (h : formedTs l n = true) : formedT (leastF q l) n = true ∧ sizeT (leastF q l) ≤ 1 + sizeTs l ∧ ∀ a, valF (leastF q l) a = valF ⟨6, v, q, l⟩ a := by
  have hc : ∀ v, sizeT (constT v) = 1 := fun v => rfl
  have hv6 : ∀ v q l a, valF ⟨6, v, q, l⟩ a = decide (q ≤ (cntF l a : Int)) := fun v q l a => by rw [valF]; rfl
  have hr := formedTs_filter (fun x => x.f0 != 1) h
  have hrs := sizeTs_filter (fun x => x.f0 != 1) l
  have hcnt := fun a => cnt_open l a n h
  have hle : ∀ a, cntF (l.filter fun x => x.f0 != 1) a ≤ (l.filter fun x => x.f0 != 1).length := fun a => by rw [cntF_filter]; exact List.length_filter_le _ _
  unfold leastF
  generalize hrest : (l.filter fun x => x.f0 != 1) = rest at hr hrs hcnt hle ⊢
  by_cases h1 : q - onesF l ≤ 0
  · rw [if_pos h1]
    refine ⟨const_formed (.inr rfl), by rw [hc]; omega, fun a => ?_⟩
    rw [val_const, hv6, decide_eq_true (by have := hcnt a; omega)]; rfl
  · rw [if_neg h1]
    by_cases h2 : (rest.length : Int) < q - onesF l
    · rw [if_pos h2]
      refine ⟨const_formed (.inl rfl), by rw [hc]; omega, fun a => ?_⟩
      rw [val_const, hv6, decide_eq_false (by have := hcnt a; have := hle a; omega)]; rfl
    · rw [if_neg h2]
      by_cases h3 : q - onesF l = (rest.length : Int)
      · rw [if_pos h3]
        obtain ⟨j1, j2, j3⟩ := join_ok 4 (.inl rfl) rest n hr
        refine ⟨j1, by omega, fun a => ?_⟩
        rw [j3, val4, hv6, ← cnt_all, Bool.eq_iff_iff, beq_iff_eq, decide_eq_true_eq]
        have := hcnt a
        have := hle a
        omega
      · rw [if_neg h3]
        by_cases h4 : q - onesF l = 1
        · rw [if_pos h4]
          obtain ⟨j1, j2, j3⟩ := join_ok 5 (.inr rfl) rest n hr
          refine ⟨j1, by omega, fun a => ?_⟩
          have hp : anyF rest a = decide (0 < cntF rest a) := by
            rw [anyF_any, cntF_filter, Bool.eq_iff_iff, List.any_eq_true, decide_eq_true_eq, List.length_pos_iff_exists_mem]
            simp only [List.mem_filter]
          rw [j3, val5, hv6, hp, Bool.eq_iff_iff, decide_eq_true_eq, decide_eq_true_eq]
          have := hcnt a
          omega
        · rw [if_neg h4]
          refine ⟨?_, by rw [size_node]; simp only; omega, fun a => ?_⟩
          · simp only [formedT, hr, Bool.and_true]
            simp [formedF]
            omega
          · rw [hv6, hv6, Bool.eq_iff_iff, decide_eq_true_eq, decide_eq_true_eq]
            have := hcnt a
            omega
theorem not_ok (v q : Int) (l : List S24) (n : Int) (hl : l.length = 1) (h : formedTs l n = true) : formedT (notF l) n = true ∧ sizeT (notF l) ≤ 1 + sizeTs l ∧ ∀ a, valF (notF l) a = valF ⟨3, v, q, l⟩ a := by
  have hc : ∀ v, sizeT (constT v) = 1 := fun v => rfl
  have he := one_list hl
  unfold notF
  generalize hx : rd_T24 l 0 = x at he
  subst he
  simp only [formedTs, Bool.and_true] at h
  have hv3 : ∀ v q a, valF ⟨3, v, q, [x]⟩ a = !(valF x a) := fun v q a => by rw [valF]; simp [anyF]
  by_cases h1 : x.f0 = 1
  · rw [if_pos h1]
    have hv := known_one h h1
    refine ⟨const_formed (by omega), by rw [hc]; omega, fun a => ?_⟩
    rw [hv3, hv.2 a, val_const]
    rcases hv.1 with h0 | h0 <;> rw [h0] <;> rfl
  · rw [if_neg h1]
    by_cases h3 : x.f0 = 3
    · rw [if_pos h3]
      have hn := formed_node h
      have hl1 : x.f3.length = 1 := by
        have := hn.1
        rw [h3] at this
        simp [formedF] at this
        exact this.2.2
      have he := one_list hl1
      have hs := size_node x
      have hf := hn.2
      rw [he] at hf hs
      simp only [formedTs, Bool.and_true, sizeTs] at hf hs
      refine ⟨hf, by simp only [sizeTs]; omega, fun a => ?_⟩
      rw [hv3]
      have hxv : valF x a = !(valF (rd_T24 x.f3 0) a) := by
        cases x
        simp only at h3 he ⊢
        subst h3
        rw [valF]
        show (!anyF _ a) = _
        conv => lhs; rw [he]
        simp [anyF]
      rw [hxv, Bool.not_not]
    · rw [if_neg h3]
      refine ⟨by simp [formedT, formedF, formedTs, h], by rw [size_node]; exact Nat.le_refl _, fun a => by rw [hv3, hv3]⟩
mutual
theorem simp_ok : ∀ (t : S24) (n : Int), formedT t n = true → formedT (simpF t) n = true ∧ sizeT (simpF t) ≤ sizeT t ∧ ∀ a, valF (simpF t) a = valF t a
  | ⟨kind, v, q, l⟩, n, hf => by
    have hn := formed_node hf
    simp only at hn
    obtain ⟨s1, s2, s3, s4, s5⟩ := simps_ok l n hn.2
    have hs := size_node ⟨kind, v, q, l⟩
    simp only at hs
    have hlen := simpsF_length l
    rw [simpF]
    by_cases k3 : kind = 3
    · rw [if_pos k3]
      subst k3
      have hl : l.length = 1 := by
        have := hn.1
        simp [formedF] at this
        exact this.2.2
      obtain ⟨j1, j2, j3⟩ := not_ok v q (simpsF l) n (by omega) s1
      exact ⟨j1, by omega, fun a => by rw [j3, valF, valF]; show (!anyF _ a) = !anyF _ a; rw [s3]⟩
    · rw [if_neg k3]
      by_cases k4 : kind = 4
      · rw [if_pos k4]
        subst k4
        obtain ⟨j1, j2, j3⟩ := join_ok 4 (.inl rfl) (simpsF l) n s1
        refine ⟨j1, by omega, fun a => ?_⟩
        rw [j3, valF, valF]
        show ((cntF (simpsF l) a : Int) == ((simpsF l).length : Int)) = ((cntF l a : Int) == (l.length : Int))
        rw [s4, hlen]
      · rw [if_neg k4]
        by_cases k5 : kind = 5
        · rw [if_pos k5]
          subst k5
          obtain ⟨j1, j2, j3⟩ := join_ok 5 (.inr rfl) (simpsF l) n s1
          exact ⟨j1, by omega, fun a => by rw [j3, val5, val5, s3]⟩
        · rw [if_neg k5]
          by_cases k6 : kind = 6
          · rw [if_pos k6]
            subst k6
            have hq : 0 ≤ q ∧ q ≤ 1099511627776 := by
              have := hn.1
              simp [formedF] at this
              omega
            obtain ⟨j1, j2, j3⟩ := least_ok v q (simpsF l) n hq s1
            refine ⟨j1, by omega, fun a => ?_⟩
            rw [j3, valF, valF]
            show decide (q ≤ (cntF (simpsF l) a : Int)) = decide (q ≤ (cntF l a : Int))
            rw [s4]
          · rw [if_neg k6]
            exact ⟨hf, Nat.le_refl _, fun a => rfl⟩
theorem simps_ok : ∀ (ts : List S24) (n : Int), formedTs ts n = true → formedTs (simpsF ts) n = true ∧ sizeTs (simpsF ts) ≤ sizeTs ts ∧ (∀ a, anyF (simpsF ts) a = anyF ts a) ∧ (∀ a, cntF (simpsF ts) a = cntF ts a) ∧ True
  | [], n, _ => ⟨rfl, Nat.le_refl _, fun _ => rfl, fun _ => rfl, trivial⟩
  | t :: ts, n, hf => by
    simp only [formedTs, Bool.and_eq_true] at hf
    obtain ⟨g1, g2, g3⟩ := simp_ok t n hf.1
    obtain ⟨s1, s2, s3, s4, _⟩ := simps_ok ts n hf.2
    refine ⟨by simp [simpsF, formedTs, g1, s1], by simp only [simpsF, sizeTs]; omega, fun a => by simp only [simpsF, anyF, g3, s3], fun a => by simp only [simpsF, cntF, g3, s4], trivial⟩
end
end Go.Proofs.YtkcmkoolcakfjaaDoor.P

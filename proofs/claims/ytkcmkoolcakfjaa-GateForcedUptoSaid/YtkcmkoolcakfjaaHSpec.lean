/- What the gate's functions compute, in plain Lean: the literal of a tree, its constraints and the next unused variable. -/
import Derived.Test.YtkcmkoolcakfjaaPx0
namespace Go.Proofs.Ytkcmkoolcakfjaa.P
open Go.RowKit Go.Proofs.YtkcmkoolcakfjaaW.PrintWords
set_option linter.unusedVariables false
set_option linter.unusedSimpArgs false

/-- The defining constraints of x for "at least k of lits". -/
def sumsF (x k : Int) (lits : List Int) : List S40 :=
  if k ≤ 0 then [⟨[1], [x], 1⟩] else if (lits.length : Int) < k then [⟨[1], [-x], 1⟩] else
    [⟨k :: List.replicate lits.length 1, -x :: lits, k⟩, ⟨(lits.length - k + 1) :: List.replicate lits.length 1, x :: lits.map (fun y => -y), lits.length - k + 1⟩]
/-- A node's threshold. -/
def thr (kind v q : Int) (n : Nat) : Int := if kind = 1 then 1 - v else if kind = 4 then n else if kind = 5 then 1 else q

mutual
def litF : S24 → Int → Int × List S40 × Int
  | ⟨kind, v, q, l⟩, next =>
    if kind = 2 then (v, [], next) else
    if kind = 3 then (-((litsF l next).1.headD 0), (litsF l next).2.1, (litsF l next).2.2) else
    ((litsF l next).2.2, (litsF l next).2.1 ++ sumsF (litsF l next).2.2 (thr kind v q l.length) (litsF l next).1, (litsF l next).2.2 + 1)
def litsF : List S24 → Int → List Int × List S40 × Int
  | [], next => ([], [], next)
  | t :: ts, next => ((litF t next).1 :: (litsF ts (litF t next).2.2).1, (litF t next).2.1 ++ (litsF ts (litF t next).2.2).2.1, (litsF ts (litF t next).2.2).2.2)
end
/-- A node is well-formed over the variables 1 to n. -/
def formedF (kind v q : Int) (len : Nat) (n : Int) : Bool :=
  if kind ≠ 6 ∧ q ≠ 0 then false else
  if kind = 1 then (v == 0 || v == 1) && len == 0 else
  if kind = 2 then decide (1 ≤ v) && decide (v ≤ n) && len == 0 else
  if kind = 3 then v == 0 && len == 1 else
  if kind = 4 ∨ kind = 5 then v == 0 else
  if kind = 6 then v == 0 && decide (0 ≤ q) && decide (q ≤ 1099511627776) else false
mutual
/-- All nodes are well-formed. -/
def formedT : S24 → Int → Bool
  | ⟨kind, v, q, l⟩, n => formedF kind v q l.length n && formedTs l n
def formedTs : List S24 → Int → Bool
  | [], _ => true
  | t :: ts, n => formedT t n && formedTs ts n
end
mutual
/-- A node has too many operands. -/
def wideT : S24 → Bool
  | ⟨_, _, _, l⟩ => decide (4095 < l.length) || wideTs l
def wideTs : List S24 → Bool
  | [] => false
  | t :: ts => wideT t || wideTs ts
end
mutual
def sizeT : S24 → Nat
  | ⟨_, _, _, l⟩ => 1 + sizeTs l
def sizeTs : List S24 → Nat
  | [] => 0
  | t :: ts => sizeT t + sizeTs ts
end
theorem litsF_snoc (ts : List S24) (t : S24) : ∀ next, litsF (ts ++ [t]) next = ((litsF ts next).1 ++ [(litF t (litsF ts next).2.2).1], (litsF ts next).2.1 ++ (litF t (litsF ts next).2.2).2.1, (litF t (litsF ts next).2.2).2.2) := by
  induction ts with
  | nil => intro next; simp [litsF]
  | cons a ts ih => intro next; simp [litsF, ih]
theorem litsF_length (ts : List S24) : ∀ next, (litsF ts next).1.length = ts.length := by
  induction ts with
  | nil => intro next; rfl
  | cons a ts ih => intro next; simp [litsF, ih]
theorem sumsF_length (x k : Int) (lits : List Int) : 1 ≤ (sumsF x k lits).length ∧ (sumsF x k lits).length ≤ 2 := by
  unfold sumsF
  split
  · simp
  · split <;> simp
mutual
/-- The next variable grows; each new one has at most two constraints. -/
theorem litF_grows : ∀ (t : S24) (next : Int), next ≤ (litF t next).2.2 ∧ ((litF t next).2.1.length : Int) ≤ 2 * ((litF t next).2.2 - next)
  | ⟨kind, v, q, l⟩, next => by
    obtain ⟨h1, h2⟩ := litsF_grows l next
    have h3 := sumsF_length (litsF l next).2.2 (thr kind v q l.length) (litsF l next).1
    unfold litF
    split
    · simp
    · split
      · exact ⟨h1, h2⟩
      · simp only [List.length_append]
        omega
theorem litsF_grows : ∀ (ts : List S24) (next : Int), next ≤ (litsF ts next).2.2 ∧ ((litsF ts next).2.1.length : Int) ≤ 2 * ((litsF ts next).2.2 - next)
  | [], next => by simp [litsF]
  | t :: ts, next => by
    obtain ⟨h1, h2⟩ := litF_grows t next
    obtain ⟨h3, h4⟩ := litsF_grows ts (litF t next).2.2
    simp only [litsF, List.length_append]
    omega
end
theorem litsF_take_le (ts : List S24) (i : Nat) (next : Int) : (litsF (ts.take i) next).2.2 ≤ (litsF ts next).2.2 := by
  have h : ∀ (a b : List S24) next, (litsF a next).2.2 ≤ (litsF (a ++ b) next).2.2 := by
    intro a
    induction a with
    | nil => intro b next; exact (litsF_grows b next).1
    | cons x a ih => intro b next; exact ih b _
  have := h (ts.take i) (ts.drop i) next
  rwa [List.take_append_drop] at this
theorem formedTs_mem {ts : List S24} {n : Int} (h : formedTs ts n = true) : ∀ t ∈ ts, formedT t n = true := by
  induction ts with
  | nil => intro t ht; cases ht
  | cons a ts ih =>
    simp only [formedTs, Bool.and_eq_true] at h
    intro t ht
    rcases List.mem_cons.1 ht with rfl | ht
    · exact h.1
    · exact ih h.2 t ht
theorem wideTs_mem {ts : List S24} (h : wideTs ts = false) : ∀ t ∈ ts, wideT t = false := by
  induction ts with
  | nil => intro t ht; cases ht
  | cons a ts ih =>
    simp only [wideTs, Bool.or_eq_false_iff] at h
    intro t ht
    rcases List.mem_cons.1 ht with rfl | ht
    · exact h.1
    · exact ih h.2 t ht
mutual
/-- The literals are of the variables used so far. -/
theorem litF_bound : ∀ (t : S24) (n next : Int), n ≤ 65536 → 1 ≤ next → formedT t n = true → (litF t next).2.2 ≤ 65537 → -65536 ≤ (litF t next).1 ∧ (litF t next).1 ≤ 65536
  | ⟨kind, v, q, l⟩, n, next, hn, h1, hf, hb => by
    simp only [formedT, Bool.and_eq_true] at hf
    obtain ⟨hf1, hf2⟩ := hf
    have hg := litsF_grows l next
    unfold litF at hb ⊢
    split
    · rename_i hk
      rw [if_pos hk] at hb
      subst hk
      simp [formedF] at hf1
      simp only
      omega
    · rename_i hk
      rw [if_neg hk] at hb
      split
      · rename_i hk3
        rw [if_pos hk3] at hb
        have hl := litsF_bound l n next hn h1 hf2 hb
        cases hll : (litsF l next).1 with
        | nil => simp
        | cons a r =>
          have := hl a (by rw [hll]; exact List.mem_cons_self)
          simp only [List.headD_cons]
          omega
      · rename_i hk3
        rw [if_neg hk3] at hb
        simp only at hb ⊢
        omega
theorem litsF_bound : ∀ (ts : List S24) (n next : Int), n ≤ 65536 → 1 ≤ next → formedTs ts n = true → (litsF ts next).2.2 ≤ 65537 → ∀ y ∈ (litsF ts next).1, -65536 ≤ y ∧ y ≤ 65536
  | [], n, next, hn, h1, hf, hb => by intro y hy; simp [litsF] at hy
  | t :: ts, n, next, hn, h1, hf, hb => by
    simp only [formedTs, Bool.and_eq_true] at hf
    have hg := litF_grows t next
    have hg2 := litsF_grows ts (litF t next).2.2
    simp only [litsF] at hb
    intro y hy
    simp only [litsF, List.mem_cons] at hy
    rcases hy with rfl | hy
    · exact litF_bound t n next hn h1 hf.1 (by omega)
    · exact litsF_bound ts n (litF t next).2.2 hn (by omega) hf.2 hb y hy
end
end Go.Proofs.Ytkcmkoolcakfjaa.P

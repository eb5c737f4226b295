/- What lin.Norm and lin.Force compute, in plain Lean; a map with int keys; keys and sorted. -/
import Derived.Test.YtkcmkoolcakfjaaHSemS
import Derived.Test.YtkcmkoolcakfjaaHMap
import Derived.Test.YtkcmkoolcakfjaaHLay
import Derived.Test.YtkcmkoolcakfjaaHPut
/- What lin.Norm and lin.Force compute, in plain Lean; a constraint whose variables but one are assigned forces that one just where its other value breaks it. -/
namespace Go.Proofs.Ytkcmkoolcakfjaa.P
open Go.RowKit Go.Proofs.YtkcmkoolcakfjaaW.PrintWords
set_option linter.unusedVariables false
set_option linter.unusedSimpArgs false

/-- The first i terms folded, whatever is carried. -/
def foldA {α : Type} (g : α → Int → Int → α) (cs ls : List Int) (first : α) : Nat → α
  | 0 => first
  | i + 1 => g (foldA g cs ls first i) (rd cs i) (rd ls i)
theorem rd_eq {l : List Int} {i : Nat} (h : i < l.length) : rd l i = l[i] := by
  unfold rd
  rw [Int.toNat_natCast, List.getD_eq_getElem?_getD, List.getElem?_eq_getElem h]
  rfl
theorem foldA_zip {α : Type} (g : α → Int → Int → α) (cs ls : List Int) (first : α) (hl : cs.length = ls.length) : ∀ i, i ≤ ls.length → foldA g cs ls first i = ((cs.zip ls).take i).foldl (fun x p => g x p.1 p.2) first
  | 0, _ => by simp [foldA]
  | i + 1, h => by
    have hz : i < (cs.zip ls).length := by rw [List.length_zip]; omega
    rw [foldA, foldA_zip g cs ls first hl i (by omega), List.take_succ_eq_append_getElem hz, List.foldl_append, List.getElem_zip, rd_eq (by omega), rd_eq (by omega)]
    rfl
theorem foldA_all {α : Type} (g : α → Int → Int → α) (cs ls : List Int) (first : α) (hl : cs.length = ls.length) : foldA g cs ls first ls.length = (cs.zip ls).foldl (fun x p => g x p.1 p.2) first := by
  rw [foldA_zip g cs ls first hl _ (Nat.le_refl _), List.take_of_length_le (by rw [List.length_zip]; omega)]
theorem foldF_foldA (g : Int → Int → Int → Int) (cs ls : List Int) (first : Int) : ∀ i, foldF g cs ls first i = foldA g cs ls first i
  | 0 => rfl
  | i + 1 => by rw [foldF, foldA, foldF_foldA]

/-- The table of sums: for a variable the total coefficients of its two literals. -/
abbrev MZ := List (Int × Int × Int)
def getZ : MZ → Int → Int × Int
  | [], _ => (0, 0)
  | p :: m, k => if p.1 = k then p.2 else getZ m k
def setZ : MZ → Int → Int × Int → MZ
  | [], k, v => [(k, v)]
  | p :: m, k, v => if p.1 = k then (k, v) :: m else p :: setZ m k v
def putZ (x : Int × Int) (c lit : Int) : Int × Int := if 0 < lit then (x.1 + c, x.2) else (x.1, x.2 + c)
def sumStep (m : MZ) (c lit : Int) : MZ := setZ m (absF lit) (putZ (getZ m (absF lit)) c lit)
def sumsZ (cs ls : List Int) : MZ := foldA sumStep cs ls [] ls.length
def keysZ (m : MZ) : List Int := m.map (·.1)
def sortI (l : List Int) : List Int := l.mergeSort (fun x y => decide (x ≤ y))
def normStep (m : MZ) (o : S40) (v : Int) : S40 :=
  if (getZ m v).2 < (getZ m v).1 then ⟨o.f0 ++ [(getZ m v).1 - (getZ m v).2], o.f1 ++ [v], o.f2 - (getZ m v).2⟩
  else if (getZ m v).1 < (getZ m v).2 then ⟨o.f0 ++ [(getZ m v).2 - (getZ m v).1], o.f1 ++ [-v], o.f2 - (getZ m v).1⟩
  else ⟨o.f0, o.f1, o.f2 - (getZ m v).1⟩
def rawF (cs ls : List Int) (least : Int) : S40 := (sortI (keysZ (sumsZ cs ls))).foldl (normStep (sumsZ cs ls)) ⟨[], [], least⟩
def sumI : List Int → Int
  | [] => 0
  | c :: cs => c + sumI cs
def capF (o : S40) : S40 := if o.f2 ≤ 0 then ⟨[], [], 0⟩ else if sumI o.f0 < o.f2 then ⟨[], [], 1⟩ else ⟨o.f0.map (fun n => if n < o.f2 then n else o.f2), o.f1, o.f2⟩
/-- What lin.Norm makes of a constraint that lin.Check passes. -/
def normF (cs ls : List Int) (least : Int) : S40 := capF (rawF cs ls least)
/-- The literal of a variable among lits, or 0. -/
def isL : List Int → Int → Int
  | [], _ => 0
  | y :: ys, v => if absF y = v then y else isL ys v
def spareG (lits : List Int) (n c lit : Int) : Int := if isL lits (absF lit) = -lit then n else n + c
def forceG (lits : List Int) (spare : Int) (l : List Int) (c lit : Int) : List Int := if isL lits (absF lit) = 0 ∧ spare < c then l ++ [lit] else l
def spareF (x : S40) (lits : List Int) : Int := foldA (spareG lits) x.f0 x.f1 (-x.f2) x.f1.length
def forceF (cs ls : List Int) (least : Int) (lits : List Int) : List Int × Bool :=
  if spareF (normF cs ls least) lits < 0 then ([], false) else
    (foldA (forceG lits (spareF (normF cs ls least) lits)) (normF cs ls least).f0 (normF cs ls least).f1 [] (normF cs ls least).f1.length, true)

/-! The value is kept. -/
def bitT (a : List Bool) (k : Int) : Bool := decide (k < (a.length : Int)) && rdOf false a k
def sumV (ps : List (Int × Int)) (a : List Bool) : Int := match ps with
  | [] => 0
  | p :: ps => (if litT p.2 a = true then p.1 else 0) + sumV ps a
theorem sumV_append (ps qs : List (Int × Int)) (a : List Bool) : sumV (ps ++ qs) a = sumV ps a + sumV qs a := by
  induction ps with
  | nil => simp [sumV]
  | cons p ps ih => simp only [List.cons_append, sumV, ih]; omega
theorem foldl_valG (a : List Bool) (ps : List (Int × Int)) : ∀ n, ps.foldl (fun x p => valG a x p.1 p.2) n = n + sumV ps a := by
  induction ps with
  | nil => intro n; simp [sumV]
  | cons p ps ih =>
    intro n
    rw [List.foldl_cons, ih]
    simp only [sumV, valG]
    split <;> omega
theorem linVal_sum {cs ls : List Int} {least : Int} {a : List Bool} (h : linF cs ls least 65536 = 0) : linValF cs ls least a = decide (least ≤ sumV (cs.zip ls) a) := by
  have hl := (linF_zero h).2.2.1
  unfold linValF
  rw [if_pos h, foldF_foldA, foldA_all _ _ _ _ hl, foldl_valG]
  simp
def selZ (x : Int × Int) (b : Bool) : Int := if b = true then x.1 else x.2
def mapV (m : MZ) (a : List Bool) : Int := match m with
  | [] => 0
  | p :: m => selZ p.2 (bitT a p.1) + mapV m a
theorem mapV_set (a : List Bool) (v : Int × Int) : ∀ (m : MZ) (k : Int), mapV (setZ m k v) a = mapV m a + selZ v (bitT a k) - selZ (getZ m k) (bitT a k)
  | [], k => by simp [setZ, mapV, getZ, selZ]
  | p :: m, k => by
    by_cases h : p.1 = k
    · rw [setZ, getZ, if_pos h, if_pos h]; simp only [mapV, h]; omega
    · simp only [setZ, getZ, if_neg h, mapV]
      have ih := mapV_set a v m k
      omega
theorem absF_pos {x : Int} (h : x ≠ 0) : 0 < absF x := by unfold absF; split <;> omega
theorem litT_bit {lit : Int} {a : List Bool} : litT lit a = (bitT a (absF lit) == decide (0 < lit)) := rfl
theorem mapV_step (m : MZ) (c lit : Int) (a : List Bool) : mapV (sumStep m c lit) a = mapV m a + (if litT lit a = true then c else 0) := by
  rw [sumStep, mapV_set, litT_bit]
  simp only [putZ, selZ]
  by_cases h : 0 < lit
  · simp only [h, if_true, decide_true]
    cases bitT a (absF lit) <;> simp <;> omega
  · simp only [h, if_false, decide_false]
    cases bitT a (absF lit) <;> simp <;> omega
theorem sums_zip {cs ls : List Int} (hl : cs.length = ls.length) : sumsZ cs ls = (cs.zip ls).foldl (fun m p => sumStep m p.1 p.2) [] := foldA_all _ _ _ _ hl
theorem mapV_fold (a : List Bool) (ps : List (Int × Int)) : ∀ m, mapV (ps.foldl (fun m p => sumStep m p.1 p.2) m) a = mapV m a + sumV ps a := by
  induction ps with
  | nil => intro m; simp [sumV]
  | cons p ps ih =>
    intro m
    rw [List.foldl_cons, ih, mapV_step]
    simp only [sumV]
    omega
/-! Keys. -/
theorem keys_set (v : Int × Int) : ∀ (m : MZ) (k : Int), keysZ (setZ m k v) = if k ∈ keysZ m then keysZ m else keysZ m ++ [k]
  | [], k => by simp [setZ, keysZ]
  | p :: m, k => by
    have ih := keys_set v m k
    by_cases h : p.1 = k
    · simp [setZ, keysZ, if_pos h, h]
    · have h' : ¬ k = p.1 := fun e => h e.symm
      simp only [setZ, if_neg h]
      simp only [keysZ, List.map_cons, List.mem_cons, h', false_or] at ih ⊢
      rw [ih]
      split <;> simp_all
theorem keys_nodup_set {m : MZ} {k : Int} {v : Int × Int} (h : (keysZ m).Nodup) : (keysZ (setZ m k v)).Nodup := by
  rw [keys_set]
  split
  · exact h
  · rename_i hk
    rw [List.nodup_append]
    exact ⟨h, by simp, fun x hx y hy e => by simp at hy; subst hy; subst e; exact hk hx⟩
theorem keys_fold (ps : List (Int × Int)) : ∀ m : MZ, (keysZ m).Nodup → (keysZ (ps.foldl (fun m p => sumStep m p.1 p.2) m)).Nodup := by
  induction ps with
  | nil => intro m h; exact h
  | cons p ps ih => intro m h; exact ih _ (keys_nodup_set h)
theorem keys_from (ps : List (Int × Int)) : ∀ m : MZ, ∀ k ∈ keysZ (ps.foldl (fun m p => sumStep m p.1 p.2) m), k ∈ keysZ m ∨ ∃ p ∈ ps, absF p.2 = k := by
  induction ps with
  | nil => intro m k hk; exact Or.inl hk
  | cons p ps ih =>
    intro m k hk
    rcases ih _ k hk with h | ⟨q, hq, e⟩
    · change k ∈ keysZ (setZ m (absF p.2) (putZ (getZ m (absF p.2)) p.1 p.2)) at h
      rw [keys_set] at h
      split at h
      · exact Or.inl h
      · rw [List.mem_append, List.mem_singleton] at h
        rcases h with h | h
        · exact Or.inl h
        · exact Or.inr ⟨p, List.mem_cons_self, h.symm⟩
    · exact Or.inr ⟨q, List.mem_cons_of_mem _ hq, e⟩
/-- The sum over keys. -/
def keyV (m : MZ) (a : List Bool) (ks : List Int) : Int := match ks with
  | [] => 0
  | k :: ks => selZ (getZ m k) (bitT a k) + keyV m a ks
theorem keyV_perm (m : MZ) (a : List Bool) {ks ks' : List Int} (h : ks.Perm ks') : keyV m a ks = keyV m a ks' := by
  induction h with
  | nil => rfl
  | cons x _ ih => simp only [keyV, ih]
  | swap x y l => simp only [keyV]; omega
  | trans _ _ ih1 ih2 => rw [ih1, ih2]
theorem keyV_skip (p : Int × Int × Int) (m : MZ) (a : List Bool) : ∀ ks : List Int, p.1 ∉ ks → keyV (p :: m) a ks = keyV m a ks
  | [], _ => rfl
  | k :: ks, h => by
    simp only [List.mem_cons, not_or] at h
    simp only [keyV, getZ, if_neg h.1, keyV_skip p m a ks h.2]
theorem keyV_keys (a : List Bool) : ∀ m : MZ, (keysZ m).Nodup → keyV m a (keysZ m) = mapV m a
  | [], _ => rfl
  | p :: m, h => by
    simp only [keysZ, List.map_cons, List.nodup_cons] at h
    have ih := keyV_keys a m h.2
    simp only [keysZ] at ih
    simp only [keysZ, List.map_cons, keyV, getZ, if_true, mapV]
    rw [keyV_skip p m a _ h.1, ih]
/-- One key: what is left to reach. -/
theorem norm_step_val (m : MZ) (o : S40) (v : Int) (a : List Bool) (hv : 0 < v) (hl : o.f0.length = o.f1.length) :
    sumV ((normStep m o v).f0.zip (normStep m o v).f1) a - (normStep m o v).f2 = sumV (o.f0.zip o.f1) a - o.f2 + selZ (getZ m v) (bitT a v) := by
  have e1 : absF v = v := by unfold absF; rw [if_pos (by omega)]
  have e2 : absF (-v) = v := by unfold absF; rw [if_neg (by omega)]; omega
  have l1 : litT v a = bitT a v := by rw [litT_bit, e1, decide_eq_true hv]; simp
  have l2 : litT (-v) a = !bitT a v := by rw [litT_bit, e2, decide_eq_false (by omega)]; simp
  unfold normStep
  split
  · simp only
    rw [List.zip_append hl, sumV_append]
    simp only [List.zip_cons_cons, List.zip_nil_right, sumV, l1, selZ]
    cases bitT a v <;> simp <;> omega
  · split
    · simp only
      rw [List.zip_append hl, sumV_append]
      simp only [List.zip_cons_cons, List.zip_nil_right, sumV, l2, selZ]
      cases bitT a v <;> simp <;> omega
    · simp only [selZ]
      cases bitT a v <;> simp <;> omega
theorem norm_step_len (m : MZ) (o : S40) (v : Int) (hl : o.f0.length = o.f1.length) : (normStep m o v).f0.length = (normStep m o v).f1.length := by
  unfold normStep
  split
  · simp [hl]
  · split
    · simp [hl]
    · exact hl
theorem norm_fold_val (m : MZ) (a : List Bool) : ∀ (ks : List Int) (o : S40), (∀ k ∈ ks, 0 < k) → o.f0.length = o.f1.length →
    sumV ((ks.foldl (normStep m) o).f0.zip (ks.foldl (normStep m) o).f1) a - (ks.foldl (normStep m) o).f2 = sumV (o.f0.zip o.f1) a - o.f2 + keyV m a ks
  | [], o, _, _ => by simp [keyV]
  | k :: ks, o, h, hl => by
    rw [List.foldl_cons, norm_fold_val m a ks _ (fun x hx => h x (List.mem_cons_of_mem _ hx)) (norm_step_len m o k hl), norm_step_val m o k a (h k List.mem_cons_self) hl]
    simp only [keyV]
    omega
/-- The canonical form, ahead of the cap: the same value against its bound. -/
theorem keys_sums {cs ls : List Int} (hl : cs.length = ls.length) : (keysZ (sumsZ cs ls)).Nodup ∧ ∀ k ∈ keysZ (sumsZ cs ls), ∃ y ∈ ls, absF y = k := by
  rw [sums_zip hl]
  refine ⟨keys_fold _ [] (by simp [keysZ]), fun k hk => ?_⟩
  rcases keys_from _ [] k hk with h | ⟨p, hp, e⟩
  · simp [keysZ] at h
  · exact ⟨p.2, (List.of_mem_zip hp).2, e⟩
theorem sortI_perm (l : List Int) : (sortI l).Perm l := List.mergeSort_perm _ _
theorem raw_val {cs ls : List Int} {least : Int} {a : List Bool} (hl : cs.length = ls.length) (hy : ∀ y ∈ ls, y ≠ 0) :
    sumV ((rawF cs ls least).f0.zip (rawF cs ls least).f1) a - (rawF cs ls least).f2 = sumV (cs.zip ls) a - least := by
  have hk := keys_sums hl
  unfold rawF
  rw [norm_fold_val _ _ _ _ (fun k hk' => by
    obtain ⟨y, hy', e⟩ := hk.2 k ((sortI_perm _).mem_iff.1 hk')
    have := absF_pos (hy y hy')
    omega) rfl, keyV_perm _ _ (sortI_perm _), keyV_keys _ _ hk.1, sums_zip hl, mapV_fold]
  simp [sumV, mapV]
  omega
/-- Its terms: positive coefficients, one literal for a variable, variables of the original. -/
structure Good (o : S40) (vs : Int → Prop) : Prop where
  len : o.f0.length = o.f1.length
  pos : ∀ c ∈ o.f0, 0 < c
  dis : (o.f1.map absF).Nodup
  from_ : ∀ y ∈ o.f1, y ≠ 0 ∧ vs (absF y)
theorem absF_neg (x : Int) : absF (-x) = absF x := by unfold absF; split <;> split <;> omega
theorem absF_of_pos {x : Int} (h : 0 < x) : absF x = x := by unfold absF; rw [if_pos (by omega)]
theorem Good.step {m : MZ} {o : S40} {vs : Int → Prop} (h : Good o vs) (v : Int) (hv : 0 < v) (hvs : vs v) (hn : v ∉ o.f1.map absF) : Good (normStep m o v) vs ∧ ∀ x ∈ (normStep m o v).f1.map absF, x ∈ o.f1.map absF ∨ x = v := by
  unfold normStep
  split
  · rename_i hlt
    refine ⟨⟨by simp [h.len], fun c hc => ?_, ?_, fun y hy => ?_⟩, fun x hx => ?_⟩
    · simp only [List.mem_append, List.mem_singleton] at hc
      rcases hc with hc | hc
      · exact h.pos c hc
      · omega
    · simp only [List.map_append, List.map_cons, List.map_nil, absF_of_pos hv]
      rw [List.nodup_append]
      exact ⟨h.dis, by simp, fun x hx y hy e => by simp at hy; subst hy; subst e; exact hn hx⟩
    · simp only [List.mem_append, List.mem_singleton] at hy
      rcases hy with hy | rfl
      · exact h.from_ y hy
      · exact ⟨by omega, by rw [absF_of_pos hv]; exact hvs⟩
    · simp only [List.map_append, List.map_cons, List.map_nil, absF_of_pos hv, List.mem_append, List.mem_singleton] at hx
      exact hx
  · split
    · rename_i hlt
      have e : absF (-v) = v := by rw [absF_neg, absF_of_pos hv]
      refine ⟨⟨by simp [h.len], fun c hc => ?_, ?_, fun y hy => ?_⟩, fun x hx => ?_⟩
      · simp only [List.mem_append, List.mem_singleton] at hc
        rcases hc with hc | hc
        · exact h.pos c hc
        · omega
      · simp only [List.map_append, List.map_cons, List.map_nil, e]
        rw [List.nodup_append]
        exact ⟨h.dis, by simp, fun x hx y hy e' => by simp at hy; rw [e', hy] at hx; exact hn hx⟩
      · simp only [List.mem_append, List.mem_singleton] at hy
        rcases hy with hy | rfl
        · exact h.from_ y hy
        · exact ⟨by omega, by rw [e]; exact hvs⟩
      · simp only [List.map_append, List.map_cons, List.map_nil, e, List.mem_append, List.mem_singleton] at hx
        exact hx
    · exact ⟨⟨h.len, h.pos, h.dis, h.from_⟩, fun x hx => Or.inl hx⟩
theorem Good.fold {m : MZ} {vs : Int → Prop} : ∀ (ks : List Int) (o : S40), Good o vs → (∀ k ∈ ks, 0 < k ∧ vs k ∧ k ∉ o.f1.map absF) → ks.Nodup → Good (ks.foldl (normStep m) o) vs
  | [], o, h, _, _ => h
  | k :: ks, o, h, hk, hn => by
    have h1 := hk k List.mem_cons_self
    have h2 := h.step (m := m) k h1.1 h1.2.1 h1.2.2
    rw [List.nodup_cons] at hn
    rw [List.foldl_cons]
    refine Good.fold ks _ h2.1 (fun x hx => ?_) hn.2
    have h3 := hk x (List.mem_cons_of_mem _ hx)
    refine ⟨h3.1, h3.2.1, fun hm => ?_⟩
    rcases h2.2 x hm with h4 | h4
    · exact h3.2.2 h4
    · subst h4; exact hn.1 hx
theorem raw_good {cs ls : List Int} {least : Int} (hl : cs.length = ls.length) (hy : ∀ y ∈ ls, y ≠ 0) : Good (rawF cs ls least) (fun v => ∃ y ∈ ls, absF y = v) := by
  have hk := keys_sums hl
  refine Good.fold _ _ ⟨rfl, by simp, by simp, by simp⟩ (fun k hk' => ?_) ((sortI_perm _).nodup_iff.2 hk.1)
  have h1 := hk.2 k ((sortI_perm _).mem_iff.1 hk')
  obtain ⟨y, hy', e⟩ := h1
  exact ⟨by have := absF_pos (hy y hy'); omega, ⟨y, hy', e⟩, by simp⟩
theorem sumV_bounds : ∀ (cs ls : List Int) (a : List Bool), cs.length = ls.length → (∀ c ∈ cs, 0 < c) → 0 ≤ sumV (cs.zip ls) a ∧ sumV (cs.zip ls) a ≤ sumI cs
  | [], _, _, _, _ => by simp [sumV, sumI]
  | c :: cs, [], _, hl, _ => by simp at hl
  | c :: cs, y :: ls, a, hl, hp => by
    have ih := sumV_bounds cs ls a (by simpa using hl) (fun x hx => hp x (List.mem_cons_of_mem _ hx))
    have h1 := hp c List.mem_cons_self
    simp only [List.zip_cons_cons, sumV, sumI]
    split <;> omega
theorem sumV_cap (m : Int) (hm : 0 < m) : ∀ (cs ls : List Int) (a : List Bool), cs.length = ls.length → (∀ c ∈ cs, 0 < c) →
    0 ≤ sumV ((cs.map fun n => if n < m then n else m).zip ls) a ∧ (m ≤ sumV ((cs.map fun n => if n < m then n else m).zip ls) a ↔ m ≤ sumV (cs.zip ls) a) ∧ (sumV (cs.zip ls) a < m → sumV ((cs.map fun n => if n < m then n else m).zip ls) a = sumV (cs.zip ls) a)
  | [], _, _, _, _ => by simp [sumV]
  | c :: cs, [], _, hl, _ => by simp at hl
  | c :: cs, y :: ls, a, hl, hp => by
    have ih := sumV_cap m hm cs ls a (by simpa using hl) (fun x hx => hp x (List.mem_cons_of_mem _ hx))
    have hb := sumV_bounds cs ls a (by simpa using hl) (fun x hx => hp x (List.mem_cons_of_mem _ hx))
    have h1 := hp c List.mem_cons_self
    obtain ⟨i1, i2, i3⟩ := ih
    simp only [List.map_cons, List.zip_cons_cons, sumV]
    generalize sumV ((cs.map fun n => if n < m then n else m).zip ls) a = S at i1 i2 i3 ⊢
    generalize sumV (cs.zip ls) a = R at i2 i3 hb ⊢
    by_cases hs : litT y a = true
    · simp only [hs, if_true]
      by_cases hc : c < m
      · simp only [hc, if_true]
        by_cases hR : R < m
        · have := i3 hR; omega
        · have := i2.2 (by omega); omega
      · simp only [hc, if_false]; omega
    · simp only [hs]
      simp
      omega
theorem norm_good {cs ls : List Int} {least : Int} (hl : cs.length = ls.length) (hy : ∀ y ∈ ls, y ≠ 0) : Good (normF cs ls least) (fun v => ∃ y ∈ ls, absF y = v) := by
  have h := raw_good (least := least) hl hy
  unfold normF capF
  split
  · exact ⟨rfl, by simp, by simp, by simp⟩
  · split
    · exact ⟨rfl, by simp, by simp, by simp⟩
    · rename_i h1 h2
      refine ⟨by simpa using h.len, fun c hc => ?_, h.dis, h.from_⟩
      obtain ⟨d, hd, e⟩ := List.mem_map.1 hc
      have := h.pos d hd
      split at e <;> omega
theorem norm_val {cs ls : List Int} {least : Int} {a : List Bool} (hl : cs.length = ls.length) (hy : ∀ y ∈ ls, y ≠ 0) : ((normF cs ls least).f2 ≤ sumV ((normF cs ls least).f0.zip (normF cs ls least).f1) a) ↔ least ≤ sumV (cs.zip ls) a := by
  have h := raw_good (least := least) hl hy
  have hv := raw_val (least := least) (a := a) hl hy
  have hb := sumV_bounds (rawF cs ls least).f0 (rawF cs ls least).f1 a h.len h.pos
  unfold normF capF
  split
  · simp only [List.zip_nil_left, sumV]; omega
  · split
    · simp only [List.zip_nil_left, sumV]; omega
    · rename_i h1 h2
      have hc := sumV_cap (rawF cs ls least).f2 (by omega) (rawF cs ls least).f0 (rawF cs ls least).f1 a h.len h.pos
      simp only
      omega

/-! Propagation. -/
/-- The literals of an assignment, from variable i on. -/
def litsFrom : List Bool → Int → List Int
  | [], _ => []
  | b :: bs, i => (if b = true then i else -i) :: litsFrom bs (i + 1)
def litsOf (a : List Bool) : List Int := litsFrom a.tail 1
theorem litsFrom_length : ∀ (bs : List Bool) (i : Int), (litsFrom bs i).length = bs.length
  | [], _ => rfl
  | b :: bs, i => by simp only [litsFrom, List.length_cons, litsFrom_length bs]
theorem litsFrom_append : ∀ (bs cs : List Bool) (i : Int), litsFrom (bs ++ cs) i = litsFrom bs i ++ litsFrom cs (i + bs.length)
  | [], cs, i => by simp [litsFrom]
  | b :: bs, cs, i => by
    simp only [List.cons_append, litsFrom, litsFrom_append bs cs, List.length_cons]
    rw [show i + 1 + (bs.length : Int) = i + ((bs.length + 1 : Nat) : Int) by omega]
theorem isL_from : ∀ (bs : List Bool) (i v : Int), 1 ≤ i → 1 ≤ v → isL (litsFrom bs i) v = if i ≤ v ∧ v < i + bs.length then (if rdOf false bs (v - i) = true then v else -v) else 0
  | [], i, v, _, _ => by simp [litsFrom, isL]; omega
  | b :: bs, i, v, hi, hv => by
    have ih := isL_from bs (i + 1) v (by omega) hv
    have ha : absF (if b = true then i else -i) = i := by
      cases b
      · simp [absF_neg, absF_of_pos (show 0 < i by omega)]
      · simp [absF_of_pos (show 0 < i by omega)]
    by_cases h : i = v
    · subst h
      simp only [litsFrom, isL, ha, if_true]
      rw [if_pos (c := i ≤ i ∧ i < i + ((b :: bs).length : Int)) ⟨by omega, by simp; omega⟩]
      simp [rdOf]
    · simp only [litsFrom, isL, ha, if_neg h, ih]
      by_cases h2 : i + 1 ≤ v ∧ v < i + 1 + (bs.length : Int)
      · rw [if_pos h2, if_pos (c := i ≤ v ∧ v < i + ((b :: bs).length : Int)) ⟨by omega, by simp; omega⟩]
        have e : rdOf false (b :: bs) (v - i) = rdOf false bs (v - (i + 1)) := by
          unfold rdOf
          rw [show (v - i).toNat = (v - (i + 1)).toNat + 1 by omega, List.getD_cons_succ]
        rw [e]
      · rw [if_neg h2, if_neg (fun h3 => h2 ⟨by omega, by have := h3.2; simp at this; omega⟩)]
theorem isL_of {a : List Bool} (ha : 1 ≤ a.length) {v : Int} (hv : 1 ≤ v) : isL (litsOf a) v = if v < a.length then (if rdOf false a v = true then v else -v) else 0 := by
  cases a with
  | nil => simp at ha
  | cons b bs =>
    unfold litsOf
    rw [List.tail_cons, isL_from bs 1 v (by omega) hv]
    by_cases h : v < ((b :: bs).length : Int)
    · rw [if_pos h, if_pos ⟨hv, by simp at h; omega⟩]
      have e : rdOf false (b :: bs) v = rdOf false bs (v - 1) := by
        unfold rdOf
        rw [show v.toNat = (v - 1).toNat + 1 by omega, List.getD_cons_succ]
      rw [e]
    · rw [if_neg h, if_neg (fun h3 => h (by have := h3.2; simp; omega))]
theorem litsOf_snoc {a : List Bool} (ha : 1 ≤ a.length) (r : Bool) : litsOf (a ++ [r]) = litsOf a ++ [if r = true then (a.length : Int) else -(a.length : Int)] := by
  cases a with
  | nil => simp at ha
  | cons b bs =>
    unfold litsOf
    rw [List.cons_append, List.tail_cons, List.tail_cons, litsFrom_append]
    simp only [litsFrom, List.length_cons]
    rw [show (1 : Int) + (bs.length : Int) = ((bs.length + 1 : Nat) : Int) by omega]
theorem litsOf_length (a : List Bool) : (litsOf a).length = a.length - 1 := by unfold litsOf; rw [litsFrom_length, List.length_tail]
/-- A literal whose variable is assigned. -/
theorem is_at {a : List Bool} (ha : 1 ≤ a.length) {y : Int} (hy : y ≠ 0) (hv : absF y < a.length) : isL (litsOf a) (absF y) ≠ 0 ∧ (isL (litsOf a) (absF y) = -y ↔ litT y a = false) := by
  have hp := absF_pos hy
  rw [isL_of ha (by omega), if_pos hv, litT_bit]
  have e : bitT a (absF y) = rdOf false a (absF y) := by unfold bitT; rw [decide_eq_true hv, Bool.true_and]
  rw [e]
  have hc : absF y = y ∧ 0 < y ∨ absF y = -y ∧ y < 0 := by unfold absF; split <;> omega
  rcases hc with ⟨h1, h2⟩ | ⟨h1, h2⟩
  · rw [decide_eq_true h2]
    cases rdOf false a (absF y) <;> simp <;> omega
  · rw [decide_eq_false (by omega)]
    cases rdOf false a (absF y) <;> simp <;> omega
theorem is_free {a : List Bool} (ha : 1 ≤ a.length) {y : Int} (hv : absF y = a.length) : isL (litsOf a) (absF y) = 0 := by
  rw [isL_of ha (by omega), if_neg (by omega)]
theorem litT_snoc {a : List Bool} {y : Int} {r : Bool} (hy : y ≠ 0) (hv : absF y < a.length) : litT y (a ++ [r]) = litT y a := by
  have hp := absF_pos hy
  rw [litT_bit, litT_bit]
  unfold bitT
  rw [rdOf_append (by omega) hv, decide_eq_true hv, decide_eq_true (by simp; omega)]
theorem litT_last {a : List Bool} {y : Int} {r : Bool} (hv : absF y = a.length) : litT y (a ++ [r]) = (r == decide (0 < y)) := by
  rw [litT_bit]
  unfold bitT
  rw [hv, decide_eq_true (by simp; omega)]
  simp [rdOf]
/-- Terms over assigned variables. -/
theorem sumV_snoc {a : List Bool} {r : Bool} : ∀ ps : List (Int × Int), (∀ p ∈ ps, p.2 ≠ 0 ∧ absF p.2 < a.length) → sumV ps (a ++ [r]) = sumV ps a
  | [], _ => rfl
  | p :: ps, h => by
    have h1 := h p List.mem_cons_self
    simp only [sumV, litT_snoc h1.1 h1.2, sumV_snoc ps (fun q hq => h q (List.mem_cons_of_mem _ hq))]
theorem spare_known {a : List Bool} (ha : 1 ≤ a.length) : ∀ (ps : List (Int × Int)) (n : Int), (∀ p ∈ ps, p.2 ≠ 0 ∧ absF p.2 < a.length) → ps.foldl (fun x p => spareG (litsOf a) x p.1 p.2) n = n + sumV ps a
  | [], n, _ => by simp [sumV]
  | p :: ps, n, h => by
    have h1 := h p List.mem_cons_self
    have h2 := (is_at ha h1.1 h1.2).2
    rw [List.foldl_cons, spare_known ha ps _ (fun q hq => h q (List.mem_cons_of_mem _ hq))]
    simp only [sumV, spareG]
    by_cases h3 : litT p.2 a = true
    · rw [if_neg (fun e => by rw [h2.1 e] at h3; cases h3), if_pos h3]; omega
    · rw [if_pos (h2.2 (by simpa using h3)), if_neg h3]; omega
theorem force_known {a : List Bool} (ha : 1 ≤ a.length) (sp : Int) : ∀ (ps : List (Int × Int)) (l : List Int), (∀ p ∈ ps, p.2 ≠ 0 ∧ absF p.2 < a.length) → ps.foldl (fun x p => forceG (litsOf a) sp x p.1 p.2) l = l
  | [], l, _ => rfl
  | p :: ps, l, h => by
    have h1 := h p List.mem_cons_self
    have h2 := (is_at ha h1.1 h1.2).1
    rw [List.foldl_cons]
    have e : forceG (litsOf a) sp l p.1 p.2 = l := by unfold forceG; rw [if_neg (fun h => h2 h.1)]
    rw [e]
    exact force_known ha sp ps l (fun q hq => h q (List.mem_cons_of_mem _ hq))
theorem norm_from {s : S40} {n : Int} (h : okC n s) : Good (normF s.f0 s.f1 s.f2) (fun v => v ≤ n) := by
  have h0 := norm_good (least := s.f2) h.1 (fun y hy => (h.2.2.2.2 y hy).1)
  refine ⟨h0.len, h0.pos, h0.dis, fun y hy => ⟨(h0.from_ y hy).1, ?_⟩⟩
  obtain ⟨z, hz, e⟩ := (h0.from_ y hy).2
  have := h.2.2.2.2 z hz
  rw [← e]
  unfold absF
  split <;> omega
theorem zip_ok {o : S40} {n : Int} (h : Good o (fun v => v ≤ n)) : ∀ p ∈ o.f0.zip o.f1, p.2 ≠ 0 ∧ absF p.2 ≤ n ∧ 0 < p.1 := fun p hp => by
  have hm := List.of_mem_zip hp
  exact ⟨(h.from_ _ hm.2).1, (h.from_ _ hm.2).2, h.pos _ hm.1⟩
theorem linVal_norm {s : S40} {n : Int} {a : List Bool} (h : okC n s) (h0 : 0 ≤ n) (h1 : n ≤ 65536) : linValF s.f0 s.f1 s.f2 a = decide ((normF s.f0 s.f1 s.f2).f2 ≤ sumV ((normF s.f0 s.f1 s.f2).f0.zip (normF s.f0 s.f1 s.f2).f1) a) := by
  rw [linVal_sum (linF_ok (okC_mono h h1) (by omega) (by omega))]
  have hv := norm_val (least := s.f2) (a := a) h.1 (fun y hy => (h.2.2.2.2 y hy).1)
  simp only [hv]
/-- All variables are assigned: nothing is forced. -/
theorem force_all {s : S40} {a : List Bool} (h : okC (a.length - 1) s) (ha : 1 ≤ a.length) (ha2 : a.length ≤ 65537) (hv : linValF s.f0 s.f1 s.f2 a = true) : forceF s.f0 s.f1 s.f2 (litsOf a) = ([], true) := by
  have hg := norm_from h
  have hz := zip_ok hg
  rw [linVal_norm h (by omega) (by omega), decide_eq_true_eq] at hv
  unfold forceF spareF
  rw [foldA_all _ _ _ _ hg.len, foldA_all _ _ _ _ hg.len, spare_known ha _ _ (fun p hp => ⟨(hz p hp).1, by have := (hz p hp).2.1; omega⟩), force_known ha _ _ _ (fun p hp => ⟨(hz p hp).1, by have := (hz p hp).2.1; omega⟩), if_neg (by omega)]
/-- All but the next variable are assigned. -/
theorem force_one {s : S40} {a : List Bool} {r : Bool} (h : okC a.length s) (ha : 1 ≤ a.length) (ha2 : a.length ≤ 65536) (hv : linValF s.f0 s.f1 s.f2 (a ++ [r]) = true) :
    forceF s.f0 s.f1 s.f2 (litsOf a) = (if linValF s.f0 s.f1 s.f2 (a ++ [!r]) = true then [] else [if r = true then (a.length : Int) else -(a.length : Int)], true) := by
  have hg := norm_from h
  have hz := zip_ok hg
  rw [linVal_norm h (by omega) (by omega), decide_eq_true_eq] at hv
  rw [linVal_norm h (by omega) (by omega)]
  unfold forceF spareF
  rw [foldA_all _ _ _ _ hg.len, foldA_all _ _ _ _ hg.len]
  have hd : ((((normF s.f0 s.f1 s.f2).f0.zip (normF s.f0 s.f1 s.f2).f1).map fun p => absF p.2)).Nodup := by
    have e : (((normF s.f0 s.f1 s.f2).f0.zip (normF s.f0 s.f1 s.f2).f1).map fun p => absF p.2) = (normF s.f0 s.f1 s.f2).f1.map absF := by
      rw [show (fun p : Int × Int => absF p.2) = absF ∘ Prod.snd from rfl, ← List.map_map, List.map_snd_zip (by rw [hg.len]; exact Nat.le_refl _)]
    rw [e]; exact hg.dis
  generalize (normF s.f0 s.f1 s.f2).f0.zip (normF s.f0 s.f1 s.f2).f1 = ps at hz hd hv ⊢
  generalize (normF s.f0 s.f1 s.f2).f2 = m at hv ⊢
  by_cases hx : ∃ p ∈ ps, absF p.2 = a.length
  · obtain ⟨p, hp, hpa⟩ := hx
    obtain ⟨us, vs, rfl⟩ := List.append_of_mem hp
    rw [List.map_append, List.map_cons, List.nodup_append, List.nodup_cons] at hd
    have hu : ∀ q ∈ us, q.2 ≠ 0 ∧ absF q.2 < a.length := fun q hq => by
      have h1 := hz q (by simp [hq])
      have h2 := hd.2.2 (absF q.2) (List.mem_map_of_mem (f := fun p : Int × Int => absF p.2) hq) (absF p.2) (by simp)
      exact ⟨h1.1, by omega⟩
    have hw : ∀ q ∈ vs, q.2 ≠ 0 ∧ absF q.2 < a.length := fun q hq => by
      have h1 := hz q (by simp [hq])
      have h2 : absF q.2 ≠ absF p.2 := fun e => hd.2.1.1 (by rw [← e]; exact List.mem_map_of_mem (f := fun p : Int × Int => absF p.2) hq)
      exact ⟨h1.1, by omega⟩
    have hp1 := hz p (by simp)
    have e0 := is_free ha hpa
    have eS : ∀ b : Bool, sumV (us ++ p :: vs) (a ++ [b]) = sumV us a + (if (b == decide (0 < p.2)) = true then p.1 else 0) + sumV vs a := fun b => by
      rw [sumV_append, sumV, sumV_snoc us hu, sumV_snoc vs hw, litT_last hpa]
      omega
    have eN : (us ++ p :: vs).foldl (fun x p => spareG (litsOf a) x p.1 p.2) (-m) = -m + sumV us a + p.1 + sumV vs a := by
      rw [List.foldl_append, List.foldl_cons, spare_known ha _ _ hu, spare_known ha _ _ hw]
      have e1 : spareG (litsOf a) (-m + sumV us a) p.1 p.2 = -m + sumV us a + p.1 := by unfold spareG; rw [e0, if_neg (by omega)]
      rw [e1]
    have eF : ∀ sp, (us ++ p :: vs).foldl (fun x p => forceG (litsOf a) sp x p.1 p.2) [] = if sp < p.1 then [p.2] else [] := fun sp => by
      rw [List.foldl_append, List.foldl_cons, force_known ha _ _ _ hu, force_known ha _ _ _ hw]
      unfold forceG
      rw [e0]
      simp
    rw [eS] at hv
    rw [eN, eF, eS]
    have hc : absF p.2 = p.2 ∧ 0 < p.2 ∨ absF p.2 = -p.2 ∧ p.2 < 0 := by unfold absF; split <;> omega
    rcases hc with ⟨h1, h2⟩ | ⟨h1, h2⟩
    · have e3 : p.2 = (a.length : Int) := by omega
      rw [decide_eq_true h2] at hv ⊢
      cases r
      · simp at hv ⊢
        rw [if_neg (by omega), if_neg (by omega), if_pos (by omega)]
      · simp at hv ⊢
        rw [if_neg (by omega)]
        by_cases h4 : m ≤ sumV us a + sumV vs a
        · rw [if_pos h4, if_neg (by omega)]
        · rw [if_neg h4, if_pos (by omega), e3]
    · have e3 : p.2 = -(a.length : Int) := by omega
      rw [decide_eq_false (show ¬ 0 < p.2 by omega)] at hv ⊢
      cases r
      · simp at hv ⊢
        rw [if_neg (by omega)]
        by_cases h4 : m ≤ sumV us a + sumV vs a
        · rw [if_pos h4, if_neg (by omega)]
        · rw [if_neg h4, if_pos (by omega), e3]
      · simp at hv ⊢
        rw [if_neg (by omega), if_neg (by omega), if_pos (by omega)]
  · have hk : ∀ p ∈ ps, p.2 ≠ 0 ∧ absF p.2 < a.length := fun p hp => by
      have h1 := hz p hp
      exact ⟨h1.1, by have h2 : absF p.2 ≠ a.length := fun e => hx ⟨p, hp, e⟩; omega⟩
    rw [sumV_snoc ps hk] at hv ⊢
    rw [spare_known ha _ _ hk, force_known ha _ _ _ hk, if_neg (by omega), if_pos (decide_eq_true hv)]
end Go.Proofs.Ytkcmkoolcakfjaa.P

/- A map with whole numbers for keys, as the list of its entries: made, read, written. -/
namespace Go.Proofs.Ytkcmkoolcakfjaa.Aid
open Go.MapKept Go.RowKit Go.Proofs.YtkcmkoolcakfjaaW.PrintWords Go.Proofs.YtkcmkoolcakfjaaW.PrintLast Go.Proofs.YtkcmkoolcakfjaaW.PrintMore
set_option linter.unusedVariables false
set_option linter.unusedSimpArgs false

/-- The entries, in order. -/
def ents (m : List (Int × Value)) : List (Value × Value) := m.map fun p => (Value.int .i64 p.1, p.2)
structure MapAt (W : World) (b : Nat) (m : List (Int × Value)) : Prop where
  ex : ∃ es clock, W.heap[b]? = some (.map es clock) ∧ Stamped es clock ∧ es.toList.map (fun e => (e.key, e.val)) = ents m
def getV : List (Int × Value) → Int → Option Value
  | [], _ => none
  | p :: m, k => if p.1 = k then some p.2 else getV m k
def setV : List (Int × Value) → Int → Value → List (Int × Value)
  | [], k, v => [(k, v)]
  | p :: m, k, v => if p.1 = k then (k, v) :: m else p :: setV m k v
theorem MapAt.move {W W1 : World} {b : Nat} {m : List (Int × Value)} (h : MapAt W b m) (hb : W1.heap[b]? = W.heap[b]?) : MapAt W1 b m := by
  obtain ⟨es, clock, h1, h2, h3⟩ := h.ex
  exact ⟨es, clock, by rw [hb]; exact h1, h2, h3⟩
theorem MapAt.lt {W : World} {b : Nat} {m : List (Int × Value)} (h : MapAt W b m) : b < W.heap.size := by
  obtain ⟨es, clock, h1, h2, h3⟩ := h.ex
  exact (Array.getElem?_eq_some_iff.1 h1).1
theorem MapAt.below {W W1 : World} {b : Nat} {m : List (Int × Value)} (h : MapAt W b m) (hb : Below W.heap.size W W1) : MapAt W1 b m := h.move (hb.block b h.lt)
theorem MapAt.ne {W : World} {b g t : Nat} {m : List (Int × Value)} {cs : Array Value} {fr : Nat × Nat} (h : MapAt W b m) (hg : W.heap[g]? = some (.cells cs t fr)) : b ≠ g := fun e => by
  obtain ⟨es, clock, h1, h2, h3⟩ := h.ex
  rw [e, hg] at h1
  cases h1
theorem MapAt.new (W : World) : MapAt (W.alloc (.map #[] 0)) W.heap.size [] :=
  ⟨#[], 0, (heap_alloc W _).1, stamped_empty 0, rfl⟩
section
variable {P : Program} {W : World} {t kt et : TypeId} {b : Nat} {m : List (Int × Value)}
/-- Where the key is found among the entries. -/
theorem find_ents (k : Int) : ∀ (l : List MapEntry) (m : List (Int × Value)) (i : Nat), l.map (fun e => (e.key, e.val)) = ents m →
    (getV m k = none ∧ Instr.findNow (.int .i64) (.int .i64 k) l i = some none) ∨ ∃ j v, getV m k = some v ∧ Instr.findNow (.int .i64) (.int .i64 k) l i = some (some (i + j, v)) ∧ j < l.length ∧ ∀ v', (l.modify j fun e => { e with key := .int .i64 k, val := v' }).map (fun e => (e.key, e.val)) = ents (setV m k v')
  | [], [], i, _ => Or.inl ⟨rfl, rfl⟩
  | [], p :: m, i, h => by simp [ents] at h
  | e :: l, [], i, h => by simp [ents] at h
  | e :: l, p :: m, i, h => by
    simp only [ents, List.map_cons, List.cons.injEq, Prod.mk.injEq] at h
    obtain ⟨⟨h1, h2⟩, h3⟩ := h
    by_cases hk : p.1 = k
    · refine Or.inr ⟨0, p.2, by simp [getV, hk], ?_, by simp, fun v' => ?_⟩
      · simp [Instr.findNow, h1, h2, hk, Instr.sameNow]
      · simp only [List.modify_zero_cons, List.map_cons, setV, if_pos hk, ents]
        rw [h3]
    · have hne : Instr.sameNow (.int .i64) (.int .i64 k) e.key = some false := by
        rw [h1]
        simp [Instr.sameNow]
        exact fun e => hk e.symm
      rcases find_ents k l m (i + 1) h3 with ⟨g1, g2⟩ | ⟨j, v, g1, g2, g3, g4⟩
      · refine Or.inl ⟨by simp [getV, hk, g1], ?_⟩
        simp [Instr.findNow, hne, g2]
      · refine Or.inr ⟨j + 1, v, by simp [getV, hk, g1], ?_, by simp; omega, fun v' => ?_⟩
        · simp [Instr.findNow, hne, g2]
          omega
        · have h5 := g4 v'
          simp only [List.modify_succ_cons, List.map_cons, setV, if_neg hk]
          rw [h5, h1, h2]
          simp [ents]
theorem run_lookup_map (hm : P.underlying t = some (.map kt et)) (hk : P.underlying kt = some (.int .i64)) (h : MapAt W b m) (k : Int) {z : Value} (hz : (zeroValue et).run P W = .ok z W) :
    (Instr.lookup t (.map (some b)) (.int .i64 k) false).run P W = .ok ((getV m k).getD z) W := by
  obtain ⟨es, clock, hb, hs, he⟩ := h.ex
  have hg : (getObj b).run P W = .ok (.map es clock) W := Go.MapKept.run_getObj_map hb
  rcases find_ents k es.toList m 0 he with ⟨g1, g2⟩ | ⟨j, v, g1, g2, g3, g4⟩
  · simp [Instr.lookup, run_underlying hm, hg, run_checkKey_int hk, run_findKey (w := W) hk g2, g1, hz, Result.andThen]
  · simp [Instr.lookup, run_underlying hm, hg, run_checkKey_int hk, run_findKey (w := W) hk g2, g1, Result.andThen]
theorem run_lookup_ok (hm : P.underlying t = some (.map kt et)) (hk : P.underlying kt = some (.int .i64)) (h : MapAt W b m) (k : Int) {z : Value} (hz : (zeroValue et).run P W = .ok z W) (hn : getV m k = none) :
    (Instr.lookup t (.map (some b)) (.int .i64 k) true).run P W = .ok (.tuple #[z, .bool false]) W := by
  obtain ⟨es, clock, hb, hs, he⟩ := h.ex
  have hg : (getObj b).run P W = .ok (.map es clock) W := Go.MapKept.run_getObj_map hb
  rcases find_ents k es.toList m 0 he with ⟨g1, g2⟩ | ⟨j, v, g1, g2, g3, g4⟩
  · simp [Instr.lookup, run_underlying hm, hg, run_checkKey_int hk, run_findKey (w := W) hk g2, g1, hz, Result.andThen]
  · rw [hn] at g1; cases g1
theorem keys_ents {l : List MapEntry} {m : List (Int × Value)} (h : l.map (fun e => (e.key, e.val)) = ents m) : ∀ x ∈ l, ∃ p ∈ m, x.key = .int .i64 p.1 := fun x hx => by
  have h1 : (x.key, x.val) ∈ ents m := by rw [← h]; exact List.mem_map_of_mem (f := fun e : MapEntry => (e.key, e.val)) hx
  obtain ⟨p, hp, e⟩ := List.mem_map.1 h1
  simp only [Prod.mk.injEq] at e
  exact ⟨p, hp, e.1.symm⟩
theorem getV_none {m : List (Int × Value)} {k : Int} (h : getV m k = none) : ∀ p ∈ m, p.1 ≠ k := by
  induction m with
  | nil => simp
  | cons q m ih =>
    intro p hp
    by_cases hq : q.1 = k
    · simp [getV, hq] at h
    · simp only [getV, if_neg hq] at h
      rcases List.mem_cons.1 hp with rfl | hp
      · exact hq
      · exact ih h p hp
theorem setV_new {k : Int} {v : Value} : ∀ {m : List (Int × Value)}, getV m k = none → setV m k v = m ++ [(k, v)]
  | [], _ => rfl
  | p :: m, h => by
    by_cases hq : p.1 = k
    · simp [getV, hq] at h
    · simp only [getV, if_neg hq] at h
      simp only [setV, if_neg hq, List.cons_append, setV_new h]
/-- An entry is laid or turned: only the map's own block turns. -/
theorem run_mapUpdate_map (hm : P.underlying t = some (.map kt et)) (hk : P.underlying kt = some (.int .i64)) (h : MapAt W b m) (k : Int) (v : Value) :
    ∃ w1, (Instr.mapUpdate t (.map (some b)) (.int .i64 k) v).run P W = .ok () w1 ∧ MapAt w1 b (setV m k v) ∧ W.grownBy w1 (some b) := by
  obtain ⟨es, clock, hb, hs, he⟩ := h.ex
  have hg : (getObj b).run P W = .ok (.map es clock) W := Go.MapKept.run_getObj_map hb
  have hlt := h.lt
  rcases find_ents k es.toList m 0 he with ⟨g1, g2⟩ | ⟨j, v0, g1, g2, g3, g4⟩
  · refine ⟨_, run_mapUpdate_new hm hk hb k v g2, ⟨_, _, World.putObj_heap_same hlt, stamped_push hs (fun x hx e => ?_), ?_⟩, grownBy_putObj' _ _ _⟩
    · obtain ⟨p, hp, e2⟩ := keys_ents he x hx
      rw [e2] at e
      injection e with _ e
      exact getV_none g1 p hp e
    · rw [setV_new g1, Array.toList_push, List.map_append, he]
      simp [ents]
  · have hkk : IsKey (.int .i64) (.int .i64 k) := by simp [IsKey]
    have hks : ∀ x ∈ es.toList, IsKey (.int .i64) x.key := fun x hx => by
      obtain ⟨p, hp, e2⟩ := keys_ents he x hx
      rw [e2]; simp [IsKey]
    rcases findNow_spec hkk es.toList 0 hks with ⟨f1, f2⟩ | ⟨j', e, f1, f2, f3⟩
    · rw [f1] at g2; cases g2
    · rw [f1] at g2
      have ej : j' = j := by
        injection g2 with g2
        injection g2 with g2
        injection g2 with g2 _
        omega
      subst ej
      rw [Nat.zero_add] at f1
      have hj : es[j']? = some e := by simpa using f2
      have hkey : ∀ e', es[j']? = some e' → ({ e' with key := .int .i64 k, val := v } : MapEntry).key = e'.key := fun e' he' => by rw [hj] at he'; cases he'; exact f3.symm
      refine ⟨W.putObj b (.map (es.modify j' fun e => { e with key := .int .i64 k, val := v }) clock), ?_, ⟨_, _, World.putObj_heap_same hlt, stamped_modify hs _ _ (fun _ _ => rfl) (fun e' _ he' => hkey e' he'), ?_⟩, grownBy_putObj' _ _ _⟩
      · simp [Instr.mapUpdate, run_underlying hm, hg, run_checkKey_int hk, run_findKey (w := W) hk f1, hj, f3, run_keyThatStays hkk, run_setObj_map _ hb, Result.andThen, World.putObj]
      · rw [Array.toList_modify]
        exact g4 v
end
end Go.Proofs.Ytkcmkoolcakfjaa.Aid

/- slices.Sorted(maps.Keys(m)): a map's keys, ascending. -/
namespace Go.Proofs.Ytkcmkoolcakfjaa.P
open Go.RowKit Go.Maps Go.Sort Go.Shelf Go.Proofs.YtkcmkoolcakfjaaW.PrintWords Go.Proofs.Ytkcmkoolcakfjaa.Aid
set_option linter.unusedVariables false
set_option linter.unusedSimpArgs false

theorem keys.calls (mb : Option Nat) (W : World) : Calls Try.prog 64 #[.map mb] W fun e w' => e = .returned (.func (.func 77) #[] #[.pointer (some ⟨W.heap.size, 0, none⟩)]) ∧ w' = W.alloc (.cells #[.map mb] 91) :=
  (callsIn_wide (n := 5)).1 (AnyZI.keys_in Try.keysA Fence.wide 5 trivial rfl mb W)
theorem sortsA (m : Nat) : AnyZI.SortsIn Try.prog Try.sortedA_ren Fence.wide m :=
  ⟨fun blk off cap ss W hH hblk hsz => callsIn_wide.2 (AnyM.slices_Sort_int Try.sortA blk off cap ss W hH hblk hsz),
   fun p cap W => callsIn_wide.2 (AnyM.slices_Sort_int_none Try.sortA p cap W)⟩
/-- Values are not looked into. -/
def noLook (_ : Value) : Option (DataW Unit × List MemPlace) := some (.nil, [])
theorem rd_int {x : MapEntry} {k : Int} (hx : x.key = .int .i64 k) (h0 : -65536 ≤ k) (h1 : k ≤ 65536) : WideElems.rd (H := Unit) Try.prog 3 noLook x = some (.int .i64 k, .nil) := by
  unfold WideElems.rd
  rw [hx, keyOf_int Try.underlying3]
  have hw : (Lit.int .i64 k).wf = true := by
    simp [Lit.wf, IntKind.min, IntKind.max, IntKind.signed, IntKind.bits] <;> omega
  simp [mapKey, Try.underlying3, hw, noLook]
theorem keys_of_ents : ∀ (l : List MapEntry) (m : List (Int × Value)), l.map (fun e => (e.key, e.val)) = ents m → (∀ p ∈ m, -65536 ≤ p.1 ∧ p.1 ≤ 65536) → (l.map fun x => Go.intOf (WideElems.rg (H := Unit) Try.prog 3 noLook x).1) = m.map (·.1)
  | [], [], _, _ => rfl
  | [], p :: m, h, _ => by simp [ents] at h
  | e :: l, [], h, _ => by simp [ents] at h
  | e :: l, p :: m, h, hk => by
    simp only [ents, List.map_cons, List.cons.injEq, Prod.mk.injEq] at h
    obtain ⟨⟨h1, h2⟩, h3⟩ := h
    have hp := hk p List.mem_cons_self
    simp only [List.map_cons]
    rw [keys_of_ents l m h3 (fun q hq => hk q (List.mem_cons_of_mem _ hq)), WideElems.rg_of (rd_int h1 hp.1 hp.2)]
    rfl
theorem map_owns {W : World} {b : Nat} {m : List (Int × Value)} (h : MapAt W b m) (hk : ∀ p ∈ m, -65536 ≤ p.1 ∧ p.1 ≤ 65536) (hl : m.length ≤ 65536) :
    ∃ D0 : DataW Unit, W.ownsMap Try.prog 3 noLook b m.length D0 ∧ (intKeys D0).Perm (m.map (·.1)) ∧ Maps.size D0 = m.length := by
  obtain ⟨es, clock, hb, hs, he⟩ := h.ex
  have hlen : es.size = m.length := by
    have := congrArg List.length he
    simpa [ents] using this
  refine ⟨_, ⟨es, clock, hb, ⟨by rw [hlen]; exact Nat.le_trans hl (by decide), hs, fun x hx => ?_⟩, by omega, rfl⟩, ?_, ?_⟩
  · obtain ⟨p, hp, e⟩ := keys_ents he x hx
    exact ⟨_, rd_int e (hk p hp).1 (hk p hp).2⟩
  · have h1 := (Go.WideShapes.sorted_perm (es.toList.map (WideElems.rg (H := Unit) Try.prog 3 noLook))).map (fun p => Go.intOf p.1)
    rw [List.map_map] at h1
    have h2 := keys_of_ents es.toList m he hk
    generalize WideElems.rg (H := Unit) Try.prog 3 noLook = R at h1 h2 ⊢
    rw [← h2]
    simp only [intKeys]
    exact h1
  · rw [size_eq, (Go.WideShapes.sorted_perm _).length_eq, List.length_map, ← hlen]
    rfl
set_option maxHeartbeats 1000000 in
/-- The keys of the map in block b, out of the iterator over the box g that holds it. -/
theorem sorted.calls (b g : Nat) (m : List (Int × Value)) (W : World) (h : MapAt W b m) (hk : ∀ p ∈ m, -65536 ≤ p.1 ∧ p.1 ≤ 65536) (hl : m.length ≤ 65536) (hg : W.cell? ⟨g, 0, none⟩ = some (.map (some b))) (hgl : g < W.heap.size) :
    Calls Try.prog 63 #[.func (.func 77) #[] #[.pointer (some ⟨g, 0, none⟩)]] W fun e w' => ∃ v, e = .returned v ∧ IRow w' W.heap.size v (sortI (m.map (·.1))) ∧ Below W.heap.size W w' := by
  obtain ⟨D0, hown, hperm, hsz⟩ := map_owns h hk hl
  have hseq : SeqGives Fence.wide 2 Try.prog 77 #[.pointer (some ⟨g, 0, none⟩)] encZ (fun ss => ss.Perm (intKeys D0)) (Maps.size D0) W :=
    AnyZI.keys_gives (ρ := Try.keysA_ren) { Try.keysA with } Fence.wide _ trivial rfl (by omega) g b m.length D0 _ hgl hg hown
  have cS := AnyZI.sorted_in Try.sortedA Fence.wide 5 trivial trivial trivial trivial rfl (by omega) (sortsA _) (enters_of Try.func76 (by kernel_rfl) rfl) 77 #[.pointer (some ⟨g, 0, none⟩)] trivial (enters_of Try.func77 (by kernel_rfl) rfl) _ _ (by rw [hsz]; exact Nat.le_trans hl (by decide)) (by rw [hsz]; omega) _ hseq
  refine ((callsIn_wide (n := 5)).1 cS).mono ?_
  rintro e w' ⟨v, ss, rfl, hS, hrow, hnil, hb⟩
  have h1 : ss.mergeSort (fun x y => decide (x ≤ y)) = sortI (m.map (·.1)) := mergeSort_of_perm_i (hS.trans hperm)
  refine ⟨v, rfl, ?_, hb⟩
  rw [h1] at hrow
  have h2 : ss.length = (sortI (m.map (·.1))).length := by rw [← h1, List.length_mergeSort]
  rw [h2] at hrow
  exact hrow
end Go.Proofs.Ytkcmkoolcakfjaa.P

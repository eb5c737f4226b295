/- GateForced in plain Lean. -/
import Derived.Test.YtkcmkoolcakfjaaHForceW
import Derived.Test.YtkcmkoolcakfjaaPx8
namespace Go.Proofs.Ytkcmkoolcakfjaa.P
open Go.RowKit Go.Proofs.YtkcmkoolcakfjaaW.PrintWords Go.Proofs.YtkcmkoolcakfjaaW.PrintMore
set_option linter.unusedVariables false
set_option linter.unusedSimpArgs false

/-! A literal among the literals of an assignment. -/
theorem isL_mem : ∀ {ls : List Int} {y : Int}, (ls.map absF).Nodup → y ∈ ls → isL ls (absF y) = y
  | [], _, _, h => by cases h
  | z :: ls, y, hn, h => by
    rw [List.map_cons, List.nodup_cons] at hn
    rcases List.mem_cons.1 h with rfl | h
    · rw [isL, if_pos rfl]
    · rw [isL, if_neg (fun e => hn.1 (by rw [e]; exact List.mem_map_of_mem h))]
      exact isL_mem hn.2 h
theorem isL_in : ∀ {ls : List Int} {v : Int}, isL ls v ≠ 0 → isL ls v ∈ ls
  | [], _, h => absurd rfl h
  | z :: ls, v, h => by
    rw [isL] at h ⊢
    by_cases e : absF z = v
    · rw [if_pos e]; exact List.mem_cons_self
    · rw [if_neg e] at h ⊢; exact List.mem_cons_of_mem _ (isL_in h)
theorem lits_true {a : List Bool} (ha : 1 ≤ a.length) {x : Int} (hx : x ≠ 0) (hv : x < a.length ∧ -x < a.length) : decide (x ∈ litsOf a) = trueF x a := by
  have hab : absF x < a.length := by unfold absF; split <;> omega
  have h := is_at ha (y := -x) (by omega) (by rw [absF_neg]; exact hab)
  rw [absF_neg, Int.neg_neg, litT_true (by omega), trueF_neg hx] at h
  have h1 : x ∈ litsOf a ↔ isL (litsOf a) (absF x) = x := ⟨fun hm => isL_mem lits_nodup hm, fun e => by rw [← e]; exact isL_in h.1⟩
  cases ht : trueF x a
  · rw [ht] at h
    exact decide_eq_false (fun hm => by have := h.2.1 (h1.1 hm); cases this)
  · rw [ht] at h
    exact decide_eq_true (h1.2 (h.2.2 rfl))
theorem among_tells (y : Int) (l : List Int) (hl : l.length ≤ 1099511627776) : ∃ K, chalklinelaw13_among.f K l y = some (decide (y ∈ l)) := by
  have h : ∀ d i : Nat, i + d = l.length → ∃ K, chalklinelaw13_among.l0 K y l l.length i = some (decide (y ∈ l.drop i)) := by
    intro d
    induction d with
    | zero =>
      intro i hi
      refine ⟨1, ?_⟩
      rw [chalklinelaw13_among.l0, if_neg (by omega), List.drop_of_length_le (by omega)]
      simp
    | succ d ih =>
      intro i hi
      obtain ⟨K, hK⟩ := ih (i + 1) (by omega)
      refine ⟨K + 1, ?_⟩
      rw [chalklinelaw13_among.l0, if_pos (by omega), if_pos (by omega), if_pos (by omega), w64 _ (by omega), List.drop_eq_getElem_cons (show i < l.length by omega), rd_eq (by omega)]
      by_cases hy : l[i] = y
      · rw [if_pos hy, hy]; simp
      · rw [if_neg hy]
        have hy' : ¬ y = l[i] := fun e => hy e.symm
        rw [show ((i : Int) + 1) = ((i + 1 : Nat) : Int) by omega, hK]
        simp only [List.mem_cons, hy', false_or]
  obtain ⟨K, hK⟩ := h l.length 0 (by omega)
  exact ⟨K, by unfold chalklinelaw13_among.f; simpa using hK⟩
theorem addF_length (l : List Int) (y : Int) : (addF l y).length ≤ l.length + 1 := by unfold addF; split <;> simp
theorem add_length (fs : List Int) : ∀ l : List Int, (fs.foldl addF l).length ≤ l.length + fs.length := by
  induction fs with
  | nil => intro l; simp
  | cons y fs ih =>
    intro l
    have h1 := ih (addF l y)
    have h2 := addF_length l y
    simp only [List.foldl_cons, List.length_cons]
    omega
section
variable (kind v q : Int) (l : List S24) (a : List Bool) (x after : Int) (cs : List S40)
/-- What is forced is added. -/
theorem forced_l2 (i : Nat) (hi : i < cs.length) (hcs : cs.length ≤ 1099511627776) (fs : List Int) (hf : fs.length ≤ 1048576) : ∀ d j : Nat, j + d = fs.length → ∀ lits : List Int, lits.length + fs.length ≤ 4294967296 + j →
    (∃ K, chalklinelaw13_GateForced.l1 K a x after ((fs.drop j).foldl addF lits) cs cs.length ((i + 1 : Nat) : Int) kind v q l = some true) → ∃ K, chalklinelaw13_GateForced.l2 K a x after lits cs cs.length i fs fs.length j kind v q l = some true := by
  intro d
  induction d with
  | zero =>
    rintro j hj lits hl ⟨K, hK⟩
    refine ⟨K + 1, ?_⟩
    rw [chalklinelaw13_GateForced.l2, if_neg (by omega), w64 _ (by omega)]
    rw [List.drop_of_length_le (by omega)] at hK
    exact hK
  | succ d ih =>
    rintro j hj lits hl hK
    obtain ⟨K1, h1⟩ := among_tells (rd fs j) lits (by omega)
    rw [List.drop_eq_getElem_cons (show j < fs.length by omega), List.foldl_cons, ← rd_eq (by omega)] at hK
    have h4 := addF_length lits (rd fs j)
    obtain ⟨K2, h2⟩ := ih (j + 1) (by omega) (addF lits (rd fs j)) (by omega) hK
    refine ⟨K1 + K2 + 1, ?_⟩
    have h2' := up_ (fun k => (chalklinelaw13_GateForced.mono_l k).2.2.2 _ _ _ _ _ _ _ _ _ _ _ _ _ _) h2 (show K2 ≤ K1 + K2 by omega)
    rw [chalklinelaw13_GateForced.l2, if_pos (by omega), if_pos (by omega), if_pos (by omega), up_ (fun k => chalklinelaw13_among.mono _ _ k) h1 (by omega), Option.bind_some, w64 _ (by omega)]
    unfold addF at h2'
    by_cases hm : rd fs j ∈ lits
    · rw [if_pos hm] at h2'
      rw [if_pos (decide_eq_true hm)]
      simpa using h2'
    · rw [if_neg hm] at h2'
      rw [if_neg (by simpa using hm), if_pos (by omega)]
      simpa using h2'
/-- The constraints, one by one. -/
theorem forced_l1 (hcs : cs.length ≤ 1099511627776) (out : List Int) (hend : ∃ K, chalklinelaw13_GateForced.l1 K a x after out cs cs.length cs.length kind v q l = some true) :
    ∀ d i : Nat, i + d = cs.length → ∀ lits, propF (cs.drop i) lits = some out → ∃ K, chalklinelaw13_GateForced.l1 K a x after lits cs cs.length i kind v q l = some true := by
  intro d
  induction d with
  | zero =>
    intro i hi lits hp
    rw [List.drop_of_length_le (by omega), propF] at hp
    obtain rfl := Option.some.inj hp
    obtain rfl : i = cs.length := by omega
    exact hend
  | succ d ih =>
    intro i hi lits hp
    rw [List.drop_eq_getElem_cons (show i < cs.length by omega), propF] at hp
    have hs : rd_T40 cs i = cs[i] := by
      unfold rd_T40
      rw [Int.toNat_natCast, List.getD_eq_getElem?_getD, List.getElem?_eq_getElem (show i < cs.length by omega)]
      rfl
    by_cases hc : linF cs[i].f0 cs[i].f1 cs[i].f2 65536 = 0 ∧ GoodLits lits ∧ lits.length ≤ 1048576
    · rw [if_pos hc] at hp
      by_cases h2 : (forceF cs[i].f0 cs[i].f1 cs[i].f2 lits).2 = false
      · rw [if_pos h2] at hp; cases hp
      · rw [if_neg h2] at hp
        have h3 : (forceF cs[i].f0 cs[i].f1 cs[i].f2 lits).2 = true := by simpa using h2
        have hfl : (forceF cs[i].f0 cs[i].f1 cs[i].f2 lits).1.length ≤ 4096 := by
          unfold forceF
          split
          · simp
          · have h5 := force_len lits (spareF (normF cs[i].f0 cs[i].f1 cs[i].f2) lits) (normF cs[i].f0 cs[i].f1 cs[i].f2).f0 (normF cs[i].f0 cs[i].f1 cs[i].f2).f1 (normF cs[i].f0 cs[i].f1 cs[i].f2).f1.length
            have h6 := (norm_bounds hc.1).2.2.2
            simp only
            omega
        obtain ⟨K, hK⟩ := forced_l2 kind v q l a x after cs i (by omega) hcs (forceF cs[i].f0 cs[i].f1 cs[i].f2 lits).1 (by omega) (forceF cs[i].f0 cs[i].f1 cs[i].f2 lits).1.length 0 (by omega) lits (by omega) (by rw [List.drop_zero]; exact ih (i + 1) (by omega) _ hp)
        refine ⟨K + 1, ?_⟩
        rw [chalklinelaw13_GateForced.l1, if_pos (by omega), if_pos (by omega), if_pos (by omega), hs, lin_Force.tells hc.1 hc.2.1 hc.2.2, Option.bind_some, if_pos h3]
        exact hK
    · rw [if_neg hc] at hp; cases hp
/-- The literals of the assignment that is handed in. -/
theorem forced_l0 (ha : a.length ≤ 1048576) (h : ∃ K, chalklinelaw13_GateForced.l1 K a x after (litsOf (false :: a)) cs cs.length ((0 : Nat) : Int) kind v q l = some true) :
    ∀ d i : Nat, i + d = a.length → ∃ K, chalklinelaw13_GateForced.l0 K a x cs after (litsOf (false :: a.take i)) a a.length i kind v q l = some true := by
  intro d
  induction d with
  | zero =>
    intro i hi
    obtain ⟨K, hK⟩ := h
    refine ⟨K + 1, ?_⟩
    rw [chalklinelaw13_GateForced.l0, if_neg (by omega), List.take_of_length_le (by omega)]
    exact hK
  | succ d ih =>
    intro i hi
    obtain ⟨K, hK⟩ := ih (i + 1) (by omega)
    refine ⟨K + 1, ?_⟩
    have hlen : (false :: a.take i).length = i + 1 := by simp; omega
    have e : litsOf (false :: a.take (i + 1)) = litsOf (false :: a.take i) ++ [if a[i] = true then ((i + 1 : Nat) : Int) else -((i + 1 : Nat) : Int)] := by
      rw [List.take_succ_eq_append_getElem (show i < a.length by omega), ← List.cons_append, litsOf_snoc (by omega), hlen]
    have hr : rdOf false a (i : Int) = a[i] := by
      unfold rdOf
      rw [Int.toNat_natCast, List.getD_eq_getElem?_getD, List.getElem?_eq_getElem (show i < a.length by omega)]
      rfl
    have hl : (litsOf (false :: a.take i)).length < 17592186044416 := by rw [litsOf_length, hlen]; omega
    rw [chalklinelaw13_GateForced.l0, if_pos (by omega), if_pos (by omega), if_pos (by omega), hr, if_pos hl, if_pos hl, w64 _ (by omega), w64 _ (by omega)]
    rw [e] at hK
    by_cases hb : a[i] = true
    · rw [if_pos hb] at hK ⊢; exact hK
    · rw [if_neg hb] at hK ⊢; exact hK
end
/-- GateForced answers true. -/
theorem GateForced_tells (kind v q : Int) (l : List S24) (a : List Bool) (hs : sizeT ⟨kind, v, q, l⟩ ≤ 1048576) (ha : a.length ≤ 1048576) : ∃ K, chalklinelaw13_GateForced.f K kind v q l a = some true := by
  obtain ⟨K1, h1⟩ := live_tells
  obtain ⟨K2, h2⟩ := Size_tells 1048576 (Nat.le_refl _) kind v q l hs
  by_cases hsz : (100 : Int) < sizeT ⟨kind, v, q, l⟩
  · refine ⟨K1 + K2 + 1, ?_⟩
    unfold chalklinelaw13_GateForced.f
    rw [up_ (fun k => chalklinelaw13_live.mono k) h1 (by omega), Option.bind_some, if_pos rfl, up_ (fun k => chalklineref11_Size.mono _ _ _ _ k) h2 (by omega), Option.bind_some, if_pos hsz]
    rfl
  by_cases hin : (20 : Int) < a.length
  · refine ⟨K1 + K2 + 1, ?_⟩
    unfold chalklinelaw13_GateForced.f
    rw [up_ (fun k => chalklinelaw13_live.mono k) h1 (by omega), Option.bind_some, if_pos rfl, up_ (fun k => chalklineref11_Size.mono _ _ _ _ k) h2 (by omega), Option.bind_some, if_neg hsz, show decide ((a.length : Int) > 20) = true from decide_eq_true hin]
    rfl
  suffices hj : ∃ K, chalklinelaw13_GateForced.j0 K a false kind v q l = some true by
    obtain ⟨K3, h3⟩ := hj
    refine ⟨K1 + K2 + K3, ?_⟩
    unfold chalklinelaw13_GateForced.f
    rw [up_ (fun k => chalklinelaw13_live.mono k) h1 (by omega), Option.bind_some, if_pos rfl, up_ (fun k => chalklineref11_Size.mono _ _ _ _ k) h2 (by omega), Option.bind_some, if_neg hsz, show decide ((a.length : Int) > 20) = false from decide_eq_false hin]
    exact up_ (fun k => (chalklinelaw13_GateForced.mono_l k).1 _ _ _ _ _ _) h3 (by omega)
  have hnx : wrap64 ((a.length : Int) + 1) = a.length + 1 := w64 _ (by omega)
  rcases refF_small ⟨kind, v, q, l⟩ (a.length + 1) (by omega) (by omega) with ⟨g1, g2⟩ | ⟨g1, g2, g3, g4, g5, g6⟩
  · refine ⟨1, ?_⟩
    rw [chalklinelaw13_GateForced.j0]
    rw [if_neg (by simp), hnx, Gates_tells hs, Option.bind_some, g2]
    simp only [g1, if_false]
    rfl
  · rw [show (a.length : Int) + 1 - 1 = a.length by omega] at g1
    have hro := read_ok ⟨kind, v, q, l⟩ a.length (a.length + 1) (false :: a) (false :: a) g1 g3 (by omega) (by omega) g5 (by simp) (by rw [List.length_cons]; omega) List.take_length
    have hpt := prop_tree ⟨kind, v, q, l⟩ a.length (a.length + 1) (false :: a) (false :: a) g1 g3 (by omega) (by omega) g5 (by simp) (by rw [List.length_cons]; omega) List.take_length
    obtain ⟨r1, r2, r3⟩ := hro
    have hlit := litF_lit ⟨kind, v, q, l⟩ a.length (a.length + 1) g1 (by omega) (by omega)
    have hgr := litF_grows ⟨kind, v, q, l⟩ (a.length + 1)
    have hnb := newsF_bound ⟨kind, v, q, l⟩
    have hG : gate_Gates.f kind v q l (a.length + 1) = some ((litF ⟨kind, v, q, l⟩ (a.length + 1)).1, (litF ⟨kind, v, q, l⟩ (a.length + 1)).2.1, (litF ⟨kind, v, q, l⟩ (a.length + 1)).2.2, 0) := by rw [Gates_tells hs, g6]
    rw [r1] at r3
    generalize hx : (litF ⟨kind, v, q, l⟩ (a.length + 1)).1 = x at hlit hG r3
    generalize hc : (litF ⟨kind, v, q, l⟩ (a.length + 1)).2.1 = cs at hG hgr r2 hpt
    generalize haf : (litF ⟨kind, v, q, l⟩ (a.length + 1)).2.2 = after at hlit hG hgr r2 g4 g5
    generalize hA' : (readF ⟨kind, v, q, l⟩ (false :: a)).2 = A' at r2 r3 hpt
    have hlen := r2.len
    have hVal : flat_Value.f kind v q l (false :: a) = some (valF ⟨kind, v, q, l⟩ (false :: a)) := by
      unfold flat_Value.f
      rw [if_pos ⟨hs, by simp; omega⟩]
    have hll : (litsOf A').length = A'.length - 1 := litsOf_length A'
    have hend : ∃ K, chalklinelaw13_GateForced.l1 K a x after (litsOf A') cs cs.length cs.length kind v q l = some true := by
      obtain ⟨K3, h3⟩ := among_tells x (litsOf A') (by omega)
      obtain ⟨K4, h4⟩ := among_tells (-x) (litsOf A') (by omega)
      refine ⟨K3 + K4 + 1, ?_⟩
      rw [lits_true (by omega) hlit.1 (by omega)] at h3
      rw [lits_true (by omega) (by omega) (by omega), trueF_neg hlit.1] at h4
      rw [chalklinelaw13_GateForced.l1, if_neg (by omega), Option.bind_some, if_pos (by simp; omega), show [false] ++ a = false :: a from rfl, hVal, Option.bind_some, w64 _ (by omega), w64 _ (by omega), if_pos (by omega), up_ (fun k => chalklinelaw13_among.mono _ _ k) h3 (by omega), Option.bind_some, r3, if_pos (by simp), up_ (fun k => chalklinelaw13_among.mono _ _ k) h4 (by omega), Option.bind_some, r3]
      cases valF ⟨kind, v, q, l⟩ (false :: a) <;> rfl
    obtain ⟨K5, h5⟩ := forced_l0 kind v q l a x after cs ha (forced_l1 kind v q l a x after cs (by omega) (litsOf A') hend cs.length 0 (by omega) (litsOf (false :: a)) (by rw [List.drop_zero]; exact hpt)) a.length 0 (by omega)
    refine ⟨K5 + 1, ?_⟩
    rw [chalklinelaw13_GateForced.j0]
    rw [if_neg (by simp), hnx, hG, Option.bind_some]
    simp only [if_true]
    exact h5
end Go.Proofs.Ytkcmkoolcakfjaa.P

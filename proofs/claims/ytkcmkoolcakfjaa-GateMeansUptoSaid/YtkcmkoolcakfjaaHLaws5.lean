/- GateMeans in plain Lean. -/
import Derived.Test.YtkcmkoolcakfjaaHSem
import Derived.Test.YtkcmkoolcakfjaaPx7
namespace Go.Proofs.Ytkcmkoolcakfjaa.P
open Go.RowKit Go.Proofs.YtkcmkoolcakfjaaW.PrintWords Go.Proofs.YtkcmkoolcakfjaaW.PrintMore
set_option linter.unusedVariables false
set_option linter.unusedSimpArgs false

/-- Small trees: the reference's answer. -/
theorem refF_small (T : S24) (next : Int) (h0 : 1 ≤ next) (h1 : next + sizeT T ≤ 4000) : (checkF T (next - 1) ≠ 0 ∧ refF T next = (0, [], 0, checkF T (next - 1))) ∨
    (formedT T (next - 1) = true ∧ checkF T (next - 1) = 0 ∧ wideT T = false ∧ (litF T next).2.2 = next + newsF T ∧ (litF T next).2.2 ≤ 65537 ∧ refF T next = ((litF T next).1, (litF T next).2.1, (litF T next).2.2, 0)) := by
  by_cases h3 : checkF T (next - 1) = 0
  · right
    have hf := checkF_zero h3
    have hw : wideT T = false := by
      by_cases hw : wideT T = true
      · have := wide_size T hw; omega
      · simpa using hw
    have ha := litF_after T (next - 1) next hf
    have hb := newsF_bound T
    have hn := (litF_grows T next).1
    refine ⟨hf, h3, hw, ha, by omega, ?_⟩
    unfold refF
    rw [if_neg (by omega), if_neg (by omega), if_neg (by simpa using h3), if_neg (by simp [hw]), if_neg (by omega)]
  · left
    refine ⟨h3, ?_⟩
    unfold refF
    rw [if_neg (by omega), if_neg (by omega), if_pos h3]
/-- GateMeans answers true. -/
theorem GateMeans_tells (kind v q : Int) (l : List S24) (a : List Bool) (hs : sizeT ⟨kind, v, q, l⟩ ≤ 1048576) (ha : a.length ≤ 1048576) : ∃ K, chalklinelaw13_GateMeans.f K kind v q l a = some true := by
  obtain ⟨K1, h1⟩ := live_tells
  obtain ⟨K2, h2⟩ := Size_tells 1048576 (Nat.le_refl _) kind v q l hs
  by_cases hsz : (60 : Int) < sizeT ⟨kind, v, q, l⟩
  · refine ⟨K1 + K2 + 1, ?_⟩
    unfold chalklinelaw13_GateMeans.f
    rw [up_ (fun k => chalklinelaw13_live.mono k) h1 (by omega), Option.bind_some, if_pos rfl, up_ (fun k => chalklineref11_Size.mono _ _ _ _ k) h2 (by omega), Option.bind_some, if_pos hsz]
    rfl
  by_cases hin : (12 : Int) < a.length
  · refine ⟨K1 + K2 + 1, ?_⟩
    unfold chalklinelaw13_GateMeans.f
    rw [up_ (fun k => chalklinelaw13_live.mono k) h1 (by omega), Option.bind_some, if_pos rfl, up_ (fun k => chalklineref11_Size.mono _ _ _ _ k) h2 (by omega), Option.bind_some, if_neg hsz, show decide ((a.length : Int) > 12) = true from decide_eq_true hin]
    rfl
  -- what follows j0
  suffices hj : ∃ K, chalklinelaw13_GateMeans.j0 K a false kind v q l = some true by
    obtain ⟨K3, h3⟩ := hj
    refine ⟨K1 + K2 + K3, ?_⟩
    unfold chalklinelaw13_GateMeans.f
    rw [up_ (fun k => chalklinelaw13_live.mono k) h1 (by omega), Option.bind_some, if_pos rfl, up_ (fun k => chalklineref11_Size.mono _ _ _ _ k) h2 (by omega), Option.bind_some, if_neg hsz, show decide ((a.length : Int) > 12) = false from decide_eq_false hin]
    exact up_ (fun k => (chalklinelaw13_GateMeans.mono_l k).1 _ _ _ _ _ _) h3 (by omega)
  have hnx : wrap64 ((a.length : Int) + 1) = a.length + 1 := w64 _ (by omega)
  rcases refF_small ⟨kind, v, q, l⟩ (a.length + 1) (by omega) (by omega) with ⟨g1, g2⟩ | ⟨g1, g2, g3, g4, g5, g6⟩
  · refine ⟨1, ?_⟩
    rw [chalklinelaw13_GateMeans.j0]
    rw [if_neg (by simp), hnx, Gates_tells hs, Option.bind_some, g2]
    simp only [g1, if_false, if_true, List.length_nil]
    unfold flat_Check.f
    rw [if_pos hs]
    rw [show (a.length : Int) + 1 - 1 = a.length by omega] at g1
    simp [g1]
  · have hro := read_ok ⟨kind, v, q, l⟩ a.length (a.length + 1) (false :: a) (false :: a) (by rw [show (a.length : Int) + 1 - 1 = a.length by omega] at g1; exact g1) g3 (by omega) (by omega) g5 (by simp) (by rw [List.length_cons]; omega) List.take_length
    obtain ⟨r1, r2, r3⟩ := hro
    have hlit := litF_lit ⟨kind, v, q, l⟩ a.length (a.length + 1) (by rw [show (a.length : Int) + 1 - 1 = a.length by omega] at g1; exact g1) (by omega) (by omega)
    have hokc := litF_okC ⟨kind, v, q, l⟩ a.length (a.length + 1) (by rw [show (a.length : Int) + 1 - 1 = a.length by omega] at g1; exact g1) g3 (by omega) (by omega)
    have hgr := litF_grows ⟨kind, v, q, l⟩ (a.length + 1)
    have hnb := newsF_bound ⟨kind, v, q, l⟩
    have hG : gate_Gates.f kind v q l (a.length + 1) = some ((litF ⟨kind, v, q, l⟩ (a.length + 1)).1, (litF ⟨kind, v, q, l⟩ (a.length + 1)).2.1, (litF ⟨kind, v, q, l⟩ (a.length + 1)).2.2, 0) := by rw [Gates_tells hs, g6]
    rw [r1] at r3
    generalize hx : (litF ⟨kind, v, q, l⟩ (a.length + 1)).1 = x at hlit hG r3
    generalize hc : (litF ⟨kind, v, q, l⟩ (a.length + 1)).2.1 = cs at hokc hG hgr r2
    generalize haf : (litF ⟨kind, v, q, l⟩ (a.length + 1)).2.2 = after at hlit hokc hG hgr r2 g4 g5
    generalize hA' : (readF ⟨kind, v, q, l⟩ (false :: a)).2 = A' at r2 r3
    have hVal : ∀ B : List Bool, B.length ≤ 1048576 → flat_Value.f kind v q l B = some (valF ⟨kind, v, q, l⟩ B) := fun B hB => by
      unfold flat_Value.f
      rw [if_pos ⟨hs, by omega⟩]
    have hHolds : ∀ B : List Bool, B.length ≤ 1048576 → ∃ K, chalklinelaw13_holds.f K cs B = some (holdsF cs B) := fun B hB => holds_tells cs B (by omega) (by omega) (fun s hs' => by
      have := hokc s hs'
      have e1 := this.1
      have e2 := this.2.1
      omega)
    suffices hj : ∃ K, chalklinelaw13_GateMeans.j1 K a (a.length + 1) x cs after (decide (after - (a.length + 1) > 9)) kind v q l = some true by
      obtain ⟨K3, h3⟩ := hj
      refine ⟨K3 + 1, ?_⟩
      rw [chalklinelaw13_GateMeans.j0]
      rw [if_neg (by simp), hnx, hG, Option.bind_some]
      simp only [if_true]
      rw [if_neg (by omega), w64 (after - _) (by omega)]
      exact h3
    by_cases h9 : after - ((a.length : Int) + 1) > 9
    · refine ⟨1, ?_⟩
      rw [chalklinelaw13_GateMeans.j1]
      rw [decide_eq_true h9, if_pos rfl, decide_eq_true (show after ≥ (a.length : Int) + 1 by omega)]
    · obtain ⟨m, hm⟩ : ∃ m : Nat, after - ((a.length : Int) + 1) = m := ⟨(after - ((a.length : Int) + 1)).toNat, by omega⟩
      have hm9 : m ≤ 9 := by omega
      have hp : 2 ^ m ≤ 512 := Nat.pow_le_pow_right (n := 2) (by omega) hm9
      have hlenA' : A'.length = a.length + 1 + m := by have := r2.len; omega
      obtain ⟨D, hD⟩ := append_of_take r2.pre
      have hDl : D.length = m := by have := congrArg List.length hD; simp at this; omega
      obtain ⟨N, hN, hU⟩ := bitsL_one m D hDl
      have hU' : ∀ n, n < 2 ^ m → (holdsF cs (false :: a ++ bitsL n m) = true ↔ n = N) := fun n hn => by
        have hbl := bitsL_length n m
        rw [r2.only (false :: a ++ bitsL n m) (by rw [List.take_append_of_le_length (Nat.le_refl _), List.take_length]) (by rw [List.length_append, hbl, hlenA']; simp), ← hU n hn, List.take_of_length_le (by rw [List.length_append, hbl, hlenA']; simp), hD]
        exact List.append_cancel_left_eq _ _ _ |>.to_iff
      generalize hpw : 2 ^ m = P at hp hN hU hU'
      -- the outer loop
      have outer : ∀ d n : Nat, n + d = P → ∃ K, chalklinelaw13_GateMeans.l0 K a (a.length + 1) x cs after (valF ⟨kind, v, q, l⟩ (false :: a)) (if N < n then 1 else 0) P n = some true := by
        intro d
        induction d with
        | zero =>
          intro n hn
          refine ⟨1, ?_⟩
          rw [chalklinelaw13_GateMeans.l0]
          rw [if_neg (by omega), if_pos (show N < n by omega)]
          rfl
        | succ d ihd =>
          intro n hn
          obtain ⟨K3, h3⟩ := ihd (n + 1) (by omega)
          obtain ⟨K4, h4⟩ := hHolds (false :: a ++ bitsL n m) (by rw [List.length_append, bitsL_length]; simp; omega)
          have inner : ∀ e i : Nat, i + e = m → ∃ K, chalklinelaw13_GateMeans.l1 K a (a.length + 1) x cs after (valF ⟨kind, v, q, l⟩ (false :: a)) (if N < n then 1 else 0) n (false :: a ++ bitsL n i) P n m i = some true := by
            intro e
            induction e with
            | zero =>
              intro i hi
              obtain rfl : i = m := by omega
              refine ⟨K3 + K4 + 3, ?_⟩
              rw [chalklinelaw13_GateMeans.l1]
              rw [if_neg (by omega), up_ (fun k => chalklinelaw13_holds.mono _ _ k) h4 (by omega), Option.bind_some]
              by_cases hh : holdsF cs (false :: a ++ bitsL n i) = true
              · have hnN := (hU' n (by omega)).1 hh
                have hB : false :: a ++ bitsL n i = A' := by rw [hD, (hU n (by omega)).2 hnN]
                rw [if_pos hh, up_ (fun k => chalklineref13_Truth.mono _ _ k) (Truth_tells x _ (by omega) (by omega)) (by omega), Option.bind_some, hB, r3, if_neg (by simp), if_neg (by omega), w64 _ (by omega), w64 _ (by omega)]
                have h3' := up_ (fun k => (chalklinelaw13_GateMeans.mono_l k).2.2.1 _ _ _ _ _ _ _ _ _) h3 (show K3 ≤ K3 + K4 + 2 by omega)
                rw [if_pos (show N < n + 1 by omega)] at h3'
                simpa using h3'
              · have hnN : ¬ n = N := fun e => hh ((hU' n (by omega)).2 e)
                rw [if_neg hh, w64 _ (by omega)]
                have h3' := up_ (fun k => (chalklinelaw13_GateMeans.mono_l k).2.2.1 _ _ _ _ _ _ _ _ _) h3 (show K3 ≤ K3 + K4 + 2 by omega)
                by_cases hlt : N < n
                · rw [if_pos hlt]
                  rw [if_pos (show N < n + 1 by omega)] at h3'
                  simpa using h3'
                · rw [if_neg hlt]
                  rw [if_neg (show ¬ N < n + 1 by omega)] at h3'
                  simpa using h3'
            | succ e ihe =>
              intro i hi
              obtain ⟨K5, h5⟩ := ihe (i + 1) (by omega)
              refine ⟨K5 + 1, ?_⟩
              rw [chalklinelaw13_GateMeans.l1]
              rw [if_pos (by omega), if_pos (by omega), if_pos (by rw [List.length_append, bitsL_length]; simp; omega), bit_at n i (by omega), w64 _ (by omega)]
              rw [bitsL, ← List.append_assoc] at h5
              simpa using h5
          obtain ⟨K6, h6⟩ := inner m 0 (by omega)
          refine ⟨K6 + 1, ?_⟩
          rw [chalklinelaw13_GateMeans.l0]
          rw [if_pos (by omega)]
          simp only [Option.bind_some]
          rw [if_pos (by simp; omega), w64 (after - _) (by omega), hm]
          simpa [bitsL] using h6
      obtain ⟨K7, h7⟩ := outer P 0 (by omega)
      refine ⟨K7 + 1, ?_⟩
      rw [chalklinelaw13_GateMeans.j1]
      rw [decide_eq_false h9, if_neg (by simp)]
      simp only [Option.bind_some]
      rw [if_pos (by simp; omega), show [false] ++ a = false :: a from rfl, hVal _ (by simp; omega), Option.bind_some, w64 (after - _) (by omega), hm, if_pos (by omega), shl_one m hm9, hpw]
      simpa using h7
end Go.Proofs.Ytkcmkoolcakfjaa.P

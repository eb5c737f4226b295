-- Made by program (wip/jprint.py over print.py): contracts written by hand are called as they lie in the hand-written texts. Lean checks it.
import Derived.Test.YtkcmkoolcakfjaaPx0
import Derived.Test.YtkcmkoolcakfjaaPx3L
import Derived.Test.YtkcmkoolcakfjaaHForceW
import Derived.Test.YtkcmkoolcakfjaaHGates
import Derived.Test.YtkcmkoolcakfjaaHTreeVal
namespace Go.Proofs.Ytkcmkoolcakfjaa.P
open Go.RowKit Go.Proofs.YtkcmkoolcakfjaaW.PrintWords Go.Proofs.YtkcmkoolcakfjaaW.PrintLast Go.Proofs.YtkcmkoolcakfjaaW.PrintMore
attribute [local go_sem] max2_int min2_int max_two min_two max_three min_three max_four min_four   -- for this text's walks alone
set_option linter.unusedVariables false
set_option linter.unusedSimpArgs false

/-! ### chalklinelaw13_among: function 27 -/
def chalklinelaw13_among.l0 : Nat → Int → List Int → Int → Int → Option (Bool)
 | 0, _, _, _, _ => none
 | k + 1, x1, x7, x8, x9 => if x9 < x8 then (if 0 ≤ x9 then (if x9 < (x7.length : Int) then (if (rd x7 x9) = x1 then (some true) else (chalklinelaw13_among.l0 k x1 x7 x8 (wrap64 (x9 + 1)))) else (none)) else (none)) else (some false)
def chalklinelaw13_among.f (k : Nat) (l0 : List Int) (a1 : Int) : Option (Bool) := chalklinelaw13_among.l0 k a1 l0 (l0.length : Int) 0
theorem chalklinelaw13_among.mono_l : ∀ k, (∀ y0 y1 y2 y3, LeO (chalklinelaw13_among.l0 k y0 y1 y2 y3) (chalklinelaw13_among.l0 (k + 1) y0 y1 y2 y3))
 | 0 => fun _ _ _ _ r h => by simp [chalklinelaw13_among.l0] at h
 | k + 1 => by
  have ih0 := chalklinelaw13_among.mono_l k
  ·intro y0 y1 y2 y3
   unfold chalklinelaw13_among.l0
   repeat' first
   | (with_reducible exact ih0 _ _ _ _)
   | (with_reducible exact LeO.refl _)
   | (with_reducible exact LeO.none _)
   | (with_reducible refine LeO.ite ?_ ?_)
   | (with_reducible refine LeO.bind ?_ (fun _ => ?_))
   | exact ih0 _ _ _ _
   | exact LeO.none _
   | refine LeO.ite ?_ ?_
   | refine LeO.bind ?_ (fun _ => ?_)
theorem chalklinelaw13_among.mono : ∀ a0 a1 k, LeO (chalklinelaw13_among.f k a0 a1) (chalklinelaw13_among.f (k + 1) a0 a1) := by
 intro a0 a1 k
 have ih0 := chalklinelaw13_among.mono_l k
 unfold chalklinelaw13_among.f
 repeat' first
   | (with_reducible exact ih0 _ _ _ _)
   | (with_reducible exact LeO.refl _)
   | (with_reducible exact LeO.none _)
   | (with_reducible refine LeO.ite ?_ ?_)
   | (with_reducible refine LeO.bind ?_ (fun _ => ?_))
   | exact ih0 _ _ _ _
   | exact LeO.none _
   | refine LeO.ite ?_ ?_
   | refine LeO.bind ?_ (fun _ => ?_)
set_option maxHeartbeats 8000000 in
set_option maxRecDepth 100000 in
theorem chalklinelaw13_among.calls (k : Nat) (A0 : Option Addr) (c0 : Nat) (l0 : List Int) (a1 : Int) (r : Bool) (w : World) (hr0 : Kd.C (Kd.int .i64) w A0 l0.length l0) (hc0 : l0.length ≤ c0) (h : chalklinelaw13_among.f k l0 a1 = some r) :
  Calls Try.prog 27 #[.slice A0 l0.length c0, .int .i64 a1] w fun e w' => e = .returned (.bool r) ∧ Drawn0 w w' := by
 have HR0 := Aside0.mk hr0
 have HC0 := Aside0.mk hc0
 clear hr0 hc0
 have H : (chalklinelaw13_among.l0 k a1 l0 (l0.length : Int) 0) = some r := h
 clear h
 have H' := Aside0.mk H
 clear H
 go_enter Try.func27, Try.ntmps27
 go_wp2
 go_loopg [9] k (fun kq v9 w' => ∃ (x9_1 : Int), v9 = .int .i64 x9_1 ∧ Aside0 (chalklinelaw13_among.l0 kq a1 l0 (l0.length : Int) x9_1 = some r) ∧ Aside0 (kq ≤ k) ∧ Drawn0 w w')
 case atStart => exact ⟨(0), (by first | rfl | (simp; done) | (simp [*]; done)), H', ⟨Nat.le_refl _⟩, by repeat (first | exact Drawn0.refl _ | apply Drawn0.step)⟩
 case round =>
  clear H'
  try clear c2
  try clear p2
  obtain ⟨x9_1, rfl, HA, HK1, ⟨m1, rfl⟩⟩ := hrel
  cases gk with
  | zero => exact absurd HA.out (by simp [chalklinelaw13_among.l0])
  | succ k1 =>
   have H := HA.out
   clear HA
   simp only [chalklinelaw13_among.l0] at H
   by_cases c3 : x9_1 < (l0.length : Int)
   ·rw [if_pos c3] at H
    have c3b0 : decide (x9_1 < (l0.length : Int)) = true := decide_eq_true c3
    clear c3
    by_cases c4 : 0 ≤ x9_1
    ·rw [if_pos c4] at H
     have c4b0 : decide (0 ≤ x9_1) = true := decide_eq_true c4
     clear c4
     by_cases c5 : x9_1 < (l0.length : Int)
     ·rw [if_pos c5] at H
      have c5b0 : decide (x9_1 < (l0.length : Int)) = true := decide_eq_true c5
      clear c5
      by_cases c6 : (rd l0 x9_1) = a1
      ·rw [if_pos c6] at H
       have c6b0 : ((rd l0 x9_1) == a1) = true := beq_iff_eq.mpr c6
       have c6b1 : ((rd l0 x9_1) != a1) = false := bne_eq_false_iff_eq.mpr c6
       clear c6
       obtain rfl := Option.some.inj H
       have p498 : 0 ≤ (x9_1 : Int) := of_decide_eq_true (by first | (with_reducible assumption) | assumption)
       have q498 : x9_1 < (l0.length : Int) := of_decide_eq_true (by first | (with_reducible assumption) | assumption)
       obtain ⟨ad498, e498, hx498_0⟩ := Kd.at_int HR0.out x9_1 p498 q498
       cases e498
       replace p498 := eq_true p498
       replace q498 := eq_true q498
       go_wp2
       go_ret
       exact ⟨by first | rfl | (simp; done) | (simp [*]; done), by repeat (first | exact Drawn0.refl _ | apply Drawn0.step)⟩
      ·rw [if_neg c6] at H
       have c6b0 : ((rd l0 x9_1) == a1) = false := beq_eq_false_iff_ne.mpr c6
       have c6b1 : ((rd l0 x9_1) != a1) = true := bne_iff_ne.mpr c6
       have H' := Aside0.mk H
       clear H
       have p498 : 0 ≤ (x9_1 : Int) := of_decide_eq_true (by first | (with_reducible assumption) | assumption)
       have q498 : x9_1 < (l0.length : Int) := of_decide_eq_true (by first | (with_reducible assumption) | assumption)
       obtain ⟨ad498, e498, hx498_0⟩ := Kd.at_int HR0.out x9_1 p498 q498
       cases e498
       replace p498 := eq_true p498
       replace q498 := eq_true q498
       go_wp2
       go_roundg k1
       case measure => have := HK1.out; omega
       case rel => exact ⟨(wrap64 (x9_1 + 1)), (by first | rfl | (simp; done) | (simp [*]; done)), H', ⟨by have := HK1.out; omega⟩, by repeat (first | exact Drawn0.refl _ | apply Drawn0.step)⟩
     ·rw [if_neg c5] at H
      exact absurd H (by simp)
    ·rw [if_neg c4] at H
     exact absurd H (by simp)
   ·rw [if_neg c3] at H
    have c3b0 : decide (x9_1 < (l0.length : Int)) = false := decide_eq_false c3
    clear c3
    obtain rfl := Option.some.inj H
    go_wp2
    go_ret
    exact ⟨by first | rfl | (simp; done) | (simp [*]; done), by repeat (first | exact Drawn0.refl _ | apply Drawn0.step)⟩

/-! ### chalklinelaw13_GateForced: function 9 -/
mutual
def chalklinelaw13_GateForced.j0 : Nat → List Bool → Bool → Int → Int → Int → List (S24) → Option (Bool)
 | 0, _, _, _, _, _, _ => none
 | k + 1, x1, x29, x500000, x500001, x500002, x500003 => if x29 = true then (some true) else ((gate_Gates.f x500000 x500001 x500002 x500003 (wrap64 ((x1.length : Int) + 1))).bind fun bt502 => (if bt502.2.2.2 = 0 then (chalklinelaw13_GateForced.l0 k x1 bt502.1 bt502.2.1 bt502.2.2.1 ([] : List Int) x1 (x1.length : Int) 0 x500000 x500001 x500002 x500003) else (some (bt502.2.2.1 == 0))))
def chalklinelaw13_GateForced.l0 : Nat → List Bool → Int → List (S40) → Int → List Int → List Bool → Int → Int → Int → Int → Int → List (S24) → Option (Bool)
 | 0, _, _, _, _, _, _, _, _, _, _, _, _ => none
 | k + 1, x1, x5, x6, x7, x9, x44, x45, x46, x500000, x500001, x500002, x500003 => if x46 < x45 then (if 0 ≤ x46 then (if x46 < (x44.length : Int) then (if rdOf false x44 x46 = true then (if x9.length < 17592186044416 then (chalklinelaw13_GateForced.l0 k x1 x5 x6 x7 (x9 ++ [wrap64 (x46 + 1)]) x44 x45 (wrap64 (x46 + 1)) x500000 x500001 x500002 x500003) else (none)) else (if x9.length < 17592186044416 then (chalklinelaw13_GateForced.l0 k x1 x5 x6 x7 (x9 ++ [wrap64 (-(wrap64 (x46 + 1)))]) x44 x45 (wrap64 (x46 + 1)) x500000 x500001 x500002 x500003) else (none))) else (none)) else (none)) else (chalklinelaw13_GateForced.l1 k x1 x5 x7 x9 x6 (x6.length : Int) 0 x500000 x500001 x500002 x500003)
def chalklinelaw13_GateForced.l1 : Nat → List Bool → Int → Int → List Int → List (S40) → Int → Int → Int → Int → Int → List (S24) → Option (Bool)
 | 0, _, _, _, _, _, _, _, _, _, _, _ => none
 | k + 1, x1, x5, x7, x9, x62, x63, x64, x500000, x500001, x500002, x500003 => if x64 < x63 then (if 0 ≤ x64 then (if x64 < (x62.length : Int) then ((lin_Force.f ((rd_T40 x62 x64).f0) ((rd_T40 x62 x64).f1) ((rd_T40 x62 x64).f2) x9).bind fun bt526 => (if bt526.2 = true then (chalklinelaw13_GateForced.l2 k x1 x5 x7 x9 x62 x63 x64 bt526.1 (bt526.1.length : Int) 0 x500000 x500001 x500002 x500003) else (none))) else (none)) else (none)) else ((some (([false] : List Bool) : List Bool)).bind fun y515 => (if y515.length + x1.length < 140737488355328 then ((flat_Value.f x500000 x500001 x500002 x500003 (y515 ++ x1)).bind fun t521 => (if (x9.length : Int) = (wrap64 (x7 - 1)) then ((chalklinelaw13_among.f k x9 x5).bind fun t522 => (if (t522 == t521) = true then ((chalklinelaw13_among.f k x9 (wrap64 (-x5))).bind fun t523 => (some (t523 != t521))) else (none))) else (none))) else (none)))
def chalklinelaw13_GateForced.l2 : Nat → List Bool → Int → Int → List Int → List (S40) → Int → Int → List Int → Int → Int → Int → Int → Int → List (S24) → Option (Bool)
 | 0, _, _, _, _, _, _, _, _, _, _, _, _, _, _ => none
 | k + 1, x1, x5, x7, x9, x62, x63, x64, x76, x77, x78, x500000, x500001, x500002, x500003 => if x78 < x77 then (if 0 ≤ x78 then (if x78 < (x76.length : Int) then ((chalklinelaw13_among.f k x9 (rd x76 x78)).bind fun t531 => (if t531 = true then (chalklinelaw13_GateForced.l2 k x1 x5 x7 x9 x62 x63 x64 x76 x77 (wrap64 (x78 + 1)) x500000 x500001 x500002 x500003) else (if x9.length < 17592186044416 then (chalklinelaw13_GateForced.l2 k x1 x5 x7 (x9 ++ [rd x76 x78]) x62 x63 x64 x76 x77 (wrap64 (x78 + 1)) x500000 x500001 x500002 x500003) else (none)))) else (none)) else (none)) else (chalklinelaw13_GateForced.l1 k x1 x5 x7 x9 x62 x63 (wrap64 (x64 + 1)) x500000 x500001 x500002 x500003)
end
def chalklinelaw13_GateForced.f (k : Nat) (a0_0 : Int) (a0_1 : Int) (a0_2 : Int) (l0_3 : List (S24)) (l1 : List Bool) : Option (Bool) := (chalklinelaw13_live.f k).bind fun t500 => (if t500 = true then ((chalklineref11_Size.f k a0_0 a0_1 a0_2 l0_3).bind fun t501 => (if t501 > 100 then (chalklinelaw13_GateForced.j0 k l1 true a0_0 a0_1 a0_2 l0_3) else (chalklinelaw13_GateForced.j0 k l1 (decide ((l1.length : Int) > 20)) a0_0 a0_1 a0_2 l0_3))) else (none))
theorem chalklinelaw13_GateForced.mono_l : ∀ k, (∀ y0 y1 y2 y3 y4 y5, LeO (chalklinelaw13_GateForced.j0 k y0 y1 y2 y3 y4 y5) (chalklinelaw13_GateForced.j0 (k + 1) y0 y1 y2 y3 y4 y5)) ∧ (∀ y0 y1 y2 y3 y4 y5 y6 y7 y8 y9 y10 y11, LeO (chalklinelaw13_GateForced.l0 k y0 y1 y2 y3 y4 y5 y6 y7 y8 y9 y10 y11) (chalklinelaw13_GateForced.l0 (k + 1) y0 y1 y2 y3 y4 y5 y6 y7 y8 y9 y10 y11)) ∧ (∀ y0 y1 y2 y3 y4 y5 y6 y7 y8 y9 y10, LeO (chalklinelaw13_GateForced.l1 k y0 y1 y2 y3 y4 y5 y6 y7 y8 y9 y10) (chalklinelaw13_GateForced.l1 (k + 1) y0 y1 y2 y3 y4 y5 y6 y7 y8 y9 y10)) ∧ (∀ y0 y1 y2 y3 y4 y5 y6 y7 y8 y9 y10 y11 y12 y13, LeO (chalklinelaw13_GateForced.l2 k y0 y1 y2 y3 y4 y5 y6 y7 y8 y9 y10 y11 y12 y13) (chalklinelaw13_GateForced.l2 (k + 1) y0 y1 y2 y3 y4 y5 y6 y7 y8 y9 y10 y11 y12 y13))
 | 0 => ⟨fun _ _ _ _ _ _ r h => by simp [chalklinelaw13_GateForced.j0] at h, fun _ _ _ _ _ _ _ _ _ _ _ _ r h => by simp [chalklinelaw13_GateForced.l0] at h, fun _ _ _ _ _ _ _ _ _ _ _ r h => by simp [chalklinelaw13_GateForced.l1] at h, fun _ _ _ _ _ _ _ _ _ _ _ _ _ _ r h => by simp [chalklinelaw13_GateForced.l2] at h⟩
 | k + 1 => by
  obtain ⟨ih0, ih1, ih2, ih3⟩ := chalklinelaw13_GateForced.mono_l k
  refine ⟨?_, ?_, ?_, ?_⟩
  ·intro y0 y1 y2 y3 y4 y5
   unfold chalklinelaw13_GateForced.j0
   repeat' first
   | (with_reducible exact ih0 _ _ _ _ _ _)
   | (with_reducible exact ih1 _ _ _ _ _ _ _ _ _ _ _ _)
   | (with_reducible exact ih2 _ _ _ _ _ _ _ _ _ _ _)
   | (with_reducible exact ih3 _ _ _ _ _ _ _ _ _ _ _ _ _ _)
   | (with_reducible exact chalklinelaw13_among.mono _ _ _)
   | (with_reducible exact chalklinelaw13_live.mono _)
   | (with_reducible exact chalklineref11_Size.mono _ _ _ _ _)
   | (with_reducible exact LeO.refl _)
   | (with_reducible exact LeO.none _)
   | (with_reducible refine LeO.ite ?_ ?_)
   | (with_reducible refine LeO.bind ?_ (fun _ => ?_))
   | exact ih0 _ _ _ _ _ _
   | exact ih1 _ _ _ _ _ _ _ _ _ _ _ _
   | exact ih2 _ _ _ _ _ _ _ _ _ _ _
   | exact ih3 _ _ _ _ _ _ _ _ _ _ _ _ _ _
   | exact chalklinelaw13_among.mono _ _ _
   | exact chalklinelaw13_live.mono _
   | exact chalklineref11_Size.mono _ _ _ _ _
   | exact LeO.none _
   | refine LeO.ite ?_ ?_
   | refine LeO.bind ?_ (fun _ => ?_)
  ·intro y0 y1 y2 y3 y4 y5 y6 y7 y8 y9 y10 y11
   unfold chalklinelaw13_GateForced.l0
   repeat' first
   | (with_reducible exact ih0 _ _ _ _ _ _)
   | (with_reducible exact ih1 _ _ _ _ _ _ _ _ _ _ _ _)
   | (with_reducible exact ih2 _ _ _ _ _ _ _ _ _ _ _)
   | (with_reducible exact ih3 _ _ _ _ _ _ _ _ _ _ _ _ _ _)
   | (with_reducible exact chalklinelaw13_among.mono _ _ _)
   | (with_reducible exact chalklinelaw13_live.mono _)
   | (with_reducible exact chalklineref11_Size.mono _ _ _ _ _)
   | (with_reducible exact LeO.refl _)
   | (with_reducible exact LeO.none _)
   | (with_reducible refine LeO.ite ?_ ?_)
   | (with_reducible refine LeO.bind ?_ (fun _ => ?_))
   | exact ih0 _ _ _ _ _ _
   | exact ih1 _ _ _ _ _ _ _ _ _ _ _ _
   | exact ih2 _ _ _ _ _ _ _ _ _ _ _
   | exact ih3 _ _ _ _ _ _ _ _ _ _ _ _ _ _
   | exact chalklinelaw13_among.mono _ _ _
   | exact chalklinelaw13_live.mono _
   | exact chalklineref11_Size.mono _ _ _ _ _
   | exact LeO.none _
   | refine LeO.ite ?_ ?_
   | refine LeO.bind ?_ (fun _ => ?_)
  ·intro y0 y1 y2 y3 y4 y5 y6 y7 y8 y9 y10
   unfold chalklinelaw13_GateForced.l1
   repeat' first
   | (with_reducible exact ih0 _ _ _ _ _ _)
   | (with_reducible exact ih1 _ _ _ _ _ _ _ _ _ _ _ _)
   | (with_reducible exact ih2 _ _ _ _ _ _ _ _ _ _ _)
   | (with_reducible exact ih3 _ _ _ _ _ _ _ _ _ _ _ _ _ _)
   | (with_reducible exact chalklinelaw13_among.mono _ _ _)
   | (with_reducible exact chalklinelaw13_live.mono _)
   | (with_reducible exact chalklineref11_Size.mono _ _ _ _ _)
   | (with_reducible exact LeO.refl _)
   | (with_reducible exact LeO.none _)
   | (with_reducible refine LeO.ite ?_ ?_)
   | (with_reducible refine LeO.bind ?_ (fun _ => ?_))
   | exact ih0 _ _ _ _ _ _
   | exact ih1 _ _ _ _ _ _ _ _ _ _ _ _
   | exact ih2 _ _ _ _ _ _ _ _ _ _ _
   | exact ih3 _ _ _ _ _ _ _ _ _ _ _ _ _ _
   | exact chalklinelaw13_among.mono _ _ _
   | exact chalklinelaw13_live.mono _
   | exact chalklineref11_Size.mono _ _ _ _ _
   | exact LeO.none _
   | refine LeO.ite ?_ ?_
   | refine LeO.bind ?_ (fun _ => ?_)
  ·intro y0 y1 y2 y3 y4 y5 y6 y7 y8 y9 y10 y11 y12 y13
   unfold chalklinelaw13_GateForced.l2
   repeat' first
   | (with_reducible exact ih0 _ _ _ _ _ _)
   | (with_reducible exact ih1 _ _ _ _ _ _ _ _ _ _ _ _)
   | (with_reducible exact ih2 _ _ _ _ _ _ _ _ _ _ _)
   | (with_reducible exact ih3 _ _ _ _ _ _ _ _ _ _ _ _ _ _)
   | (with_reducible exact chalklinelaw13_among.mono _ _ _)
   | (with_reducible exact chalklinelaw13_live.mono _)
   | (with_reducible exact chalklineref11_Size.mono _ _ _ _ _)
   | (with_reducible exact LeO.refl _)
   | (with_reducible exact LeO.none _)
   | (with_reducible refine LeO.ite ?_ ?_)
   | (with_reducible refine LeO.bind ?_ (fun _ => ?_))
   | exact ih0 _ _ _ _ _ _
   | exact ih1 _ _ _ _ _ _ _ _ _ _ _ _
   | exact ih2 _ _ _ _ _ _ _ _ _ _ _
   | exact ih3 _ _ _ _ _ _ _ _ _ _ _ _ _ _
   | exact chalklinelaw13_among.mono _ _ _
   | exact chalklinelaw13_live.mono _
   | exact chalklineref11_Size.mono _ _ _ _ _
   | exact LeO.none _
   | refine LeO.ite ?_ ?_
   | refine LeO.bind ?_ (fun _ => ?_)
theorem chalklinelaw13_GateForced.mono : ∀ a0 a1 a2 a3 a4 k, LeO (chalklinelaw13_GateForced.f k a0 a1 a2 a3 a4) (chalklinelaw13_GateForced.f (k + 1) a0 a1 a2 a3 a4) := by
 intro a0 a1 a2 a3 a4 k
 obtain ⟨ih0, ih1, ih2, ih3⟩ := chalklinelaw13_GateForced.mono_l k
 unfold chalklinelaw13_GateForced.f
 repeat' first
   | (with_reducible exact ih0 _ _ _ _ _ _)
   | (with_reducible exact ih1 _ _ _ _ _ _ _ _ _ _ _ _)
   | (with_reducible exact ih2 _ _ _ _ _ _ _ _ _ _ _)
   | (with_reducible exact ih3 _ _ _ _ _ _ _ _ _ _ _ _ _ _)
   | (with_reducible exact chalklinelaw13_among.mono _ _ _)
   | (with_reducible exact chalklinelaw13_live.mono _)
   | (with_reducible exact chalklineref11_Size.mono _ _ _ _ _)
   | (with_reducible exact LeO.refl _)
   | (with_reducible exact LeO.none _)
   | (with_reducible refine LeO.ite ?_ ?_)
   | (with_reducible refine LeO.bind ?_ (fun _ => ?_))
   | exact ih0 _ _ _ _ _ _
   | exact ih1 _ _ _ _ _ _ _ _ _ _ _ _
   | exact ih2 _ _ _ _ _ _ _ _ _ _ _
   | exact ih3 _ _ _ _ _ _ _ _ _ _ _ _ _ _
   | exact chalklinelaw13_among.mono _ _ _
   | exact chalklinelaw13_live.mono _
   | exact chalklineref11_Size.mono _ _ _ _ _
   | exact LeO.none _
   | refine LeO.ite ?_ ?_
   | refine LeO.bind ?_ (fun _ => ?_)
set_option maxHeartbeats 8000000 in
set_option maxRecDepth 100000 in
theorem chalklinelaw13_GateForced.calls (k : Nat) (a0_0 : Int) (a0_1 : Int) (a0_2 : Int) (A0_3 : Option Addr) (c0_3 : Nat) (l0_3 : List (S24)) (A1 : Option Addr) (c1 : Nat) (l1 : List Bool) (r : Bool) (w : World) (hr0_3 : Kd.C k24 w A0_3 l0_3.length l0_3) (hc0_3 : l0_3.length ≤ c0_3) (hr1 : Kd.C Kd.bool w A1 l1.length l1) (hc1 : l1.length ≤ c1) (h : chalklinelaw13_GateForced.f k a0_0 a0_1 a0_2 l0_3 l1 = some r) :
  Calls Try.prog 9 #[.agg #[.int .i64 a0_0, .int .i64 a0_1, .int .i64 a0_2, .slice A0_3 l0_3.length c0_3], .slice A1 l1.length c1] w fun e w' => e = .returned (.bool r) ∧ Below w.heap.size w w' := by
 have hu24 := Try.underlying24
 have hu40 := Try.underlying40
 have HR0_3 := Aside0.mk hr0_3
 have HC0_3 := Aside0.mk hc0_3
 clear hr0_3 hc0_3
 have HR1 := Aside0.mk hr1
 have HC1 := Aside0.mk hc1
 clear hr1 hc1
 have HB := Aside0.mk (Below.refl w.heap.size w)
 have H : ((chalklinelaw13_live.f k).bind fun t500 => (if t500 = true then ((chalklineref11_Size.f k a0_0 a0_1 a0_2 l0_3).bind fun t501 => (if t501 > 100 then (chalklinelaw13_GateForced.j0 k l1 true a0_0 a0_1 a0_2 l0_3) else (chalklinelaw13_GateForced.j0 k l1 (decide ((l1.length : Int) > 20)) a0_0 a0_1 a0_2 l0_3))) else (none))) = some r := h
 clear h
 replace H := Option.bind_eq_some_iff.mp H
 obtain ⟨t500, A30, H⟩ := H
 replace H : (if t500 = true then ((chalklineref11_Size.f k a0_0 a0_1 a0_2 l0_3).bind fun t501 => (if t501 > 100 then (chalklinelaw13_GateForced.j0 k l1 true a0_0 a0_1 a0_2 l0_3) else (chalklinelaw13_GateForced.j0 k l1 (decide ((l1.length : Int) > 20)) a0_0 a0_1 a0_2 l0_3))) else (none)) = some r := H
 have A3 := Aside0.mk A30
 clear A30
 by_cases c4 : t500 = true
 ·subst c4
  have H1 : ((chalklineref11_Size.f k a0_0 a0_1 a0_2 l0_3).bind fun t501 => (if t501 > 100 then (chalklinelaw13_GateForced.j0 k l1 true a0_0 a0_1 a0_2 l0_3) else (chalklinelaw13_GateForced.j0 k l1 (decide ((l1.length : Int) > 20)) a0_0 a0_1 a0_2 l0_3))) = some r := by rw [if_pos rfl] at H; exact H
  clear H
  have H := H1
  clear H1
  have HC5 := Aside0.mk H
  clear H
  go_enter Try.func9, Try.ntmps9
  go_upto_region 3 with (first | ((with_reducible refine gate_dst (N := 2) rfl ?_); (try (refine gate_guard (by rfl) ?_; dsimp only)); refine box_event ?hg (N := 2) ?hd (cs := #[.int .i64 a0_0, .int .i64 a0_1, .int .i64 a0_2, .slice A0_3 l0_3.length c0_3]) (t := 24) ?hr ?_; (case hd => rfl); (case hg => rfl); (case hr => first | (go_simp; done) | (go_simp; rfl)); intro gb499 hg w6 hbox hb; have n0_ := Aside0.mk (below_step (by repeat (first | (with_reducible first | exact HB.out | apply below_alloc | apply pw_below_drewN | apply below_drew1) | exact HB.out)) hb); have n1_ := Aside0.mk (hbox); have n2_ := Aside0.mk ((by rw [hg]; exact (below_size (by repeat (first | (with_reducible first | exact HB.out | apply below_alloc | apply pw_below_drewN | apply below_drew1) | exact HB.out))) : w.heap.size ≤ gb499)); have n3_ := Aside0.mk ((by rw [hg]; exact (below_size (by repeat (first | (with_reducible first | exact HB.out | apply below_alloc | apply pw_below_drewN | apply below_drew1) | exact HB.out))) : w.heap.size ≤ gb499)); clear HB; have HB := n0_; have BK499 := n1_; have GW499 := n2_; have GE499 := n3_; clear n0_ n1_ n2_ n3_; clear hb hbox hg) | ((with_reducible refine gate_callee (f := 10) rfl ?_); refine goesL_ (some 20) rfl rfl Try.func10 (by kernel_rfl) rfl #[] rfl (by (try simp only [List.map_toArray, List.map_cons, List.map_nil]); first | done | rfl | (simp only [List.length_drop, List.length_take]; rfl)) ?_; (with_reducible refine (chalklinelaw13_live.calls k  true _ A3.out).mono ?_); rintro e w7 ⟨rfl, hb⟩; refine ⟨_, rfl, ?_⟩; have n0_ := Aside0.mk (blk_below (g := gb499) (o := .cells #[.int .i64 a0_0, .int .i64 a0_1, .int .i64 a0_2, .slice A0_3 l0_3.length c0_3] 24 (0, 0)) (by (with_reducible repeat (first | refine blk_drewN ?_ _ | refine blk_drew ?_ | refine blk_alloc ?_ _)); exact BK499.out) hb); have n1_ := Aside0.mk (below_step (by repeat (first | (with_reducible first | exact HB.out | apply below_alloc | apply pw_below_drewN | apply below_drew1 | refine below_set ?_ GE499.out) | exact HB.out)) hb); clear BK499; clear HB; have BK499 := n0_; have HB := n1_; clear n0_ n1_; (try clear hb); (try clear hb2); (try clear hk); (try clear hi)))
  (try simp only [Act.put, List.setIfInBounds_toArray, List.set_cons_zero, List.set_cons_succ])
  go_cut [29] (fun v29 wc => ∃ (kq : Nat) (x29_4 : Bool), v29 = .bool x29_4 ∧ Aside0 (chalklinelaw13_GateForced.j0 kq l1 x29_4 a0_0 a0_1 a0_2 l0_3 = some r) ∧ Aside0 (kq ≤ k) ∧ Aside0 (wc.heap[gb499]? = some (.cells #[.int .i64 a0_0, .int .i64 a0_1, .int .i64 a0_2, (.slice A0_3 l0_3.length c0_3)] 24 (0, 0))) ∧ Aside0 (Below w.heap.size w wc))
  case first =>
   have H := HC5.out
   clear HC5
   replace H := Option.bind_eq_some_iff.mp H
   obtain ⟨t501, A80, H⟩ := H
   replace H : (if t501 > 100 then (chalklinelaw13_GateForced.j0 k l1 true a0_0 a0_1 a0_2 l0_3) else (chalklinelaw13_GateForced.j0 k l1 (decide ((l1.length : Int) > 20)) a0_0 a0_1 a0_2 l0_3)) = some r := H
   have A8 := Aside0.mk A80
   clear A80
   by_cases c9 : t501 > 100
   ·rw [if_pos c9] at H
    have c9b0 : decide (100 < t501) = true := decide_eq_true c9
    clear c9
    (first | rw [c9b0] | (simp only [i64_w, i32_w]; rw [c9b0]) | skip)
    have H' := Aside0.mk H
    clear H
    have hcz10_0 : w7.cell? ⟨gb499, 0, none⟩ = some (.int .i64 a0_0) := (blk_cell BK499.out 0).trans rfl
    have hcz10_1 : w7.cell? ⟨gb499, 1, none⟩ = some (.int .i64 a0_1) := (blk_cell BK499.out 1).trans rfl
    have hcz10_2 : w7.cell? ⟨gb499, 2, none⟩ = some (.int .i64 a0_2) := (blk_cell BK499.out 2).trans rfl
    have hcz10_3 : w7.cell? ⟨gb499, 3, none⟩ = some (.slice A0_3 l0_3.length c0_3) := (blk_cell BK499.out 3).trans rfl
    have hfz10_0 := blk_frozen BK499.out 0
    have hfz10_1 := blk_frozen BK499.out 1
    have hfz10_2 := blk_frozen BK499.out 2
    have hfz10_3 := blk_frozen BK499.out 3
    go_wp2_with (first | ((with_reducible refine gate_callee (f := 11) rfl ?_); refine goesL_ (some 23) rfl rfl Try.func11 (by kernel_rfl) rfl #[.agg #[.int .i64 a0_0, .int .i64 a0_1, .int .i64 a0_2, .slice A0_3 l0_3.length c0_3]] rfl (by (try simp only [List.map_toArray, List.map_cons, List.map_nil]); first | done | rfl | (simp only [List.length_drop, List.length_take]; rfl)) ?_; (with_reducible refine (chalklineref11_Size.calls k a0_0 a0_1 a0_2 _ _ l0_3 t501 _ ?side1 ?side2 A8.out).mono ?_); (case side1 => repeat (first | exact (Kd.C_below HR0_3.out HB.out) | (with_reducible refine Kd.C_alloc ?_ _) | (with_reducible refine Kd.C_drewN ?_ _) | (with_reducible refine Kd.C_drew ?_))); (case side2 => exact HC0_3.out); rintro e w11 ⟨rfl, hb⟩; refine ⟨_, rfl, ?_⟩; have n0_ := Aside0.mk (blk_below (g := gb499) (o := .cells #[.int .i64 a0_0, .int .i64 a0_1, .int .i64 a0_2, .slice A0_3 l0_3.length c0_3] 24 (0, 0)) (by (with_reducible repeat (first | refine blk_drewN ?_ _ | refine blk_drew ?_ | refine blk_alloc ?_ _)); exact BK499.out) hb); have n1_ := Aside0.mk (below_step (by repeat (first | (with_reducible first | exact HB.out | apply below_alloc | apply pw_below_drewN | apply below_drew1 | refine below_set ?_ GE499.out) | exact HB.out)) hb); clear BK499; clear HB; have BK499 := n0_; have HB := n1_; clear n0_ n1_; (try clear hb); (try clear hb2); (try clear hk); (try clear hi)))
    go_meet
    case rel => exact ⟨_, (true), (by first | rfl | (simp; done) | (simp [*]; done)), H', ⟨by first | omega | exact Nat.le_refl _⟩, ⟨by (with_reducible repeat (first | refine blk_drewN ?_ _ | refine blk_drew ?_ | refine blk_alloc ?_ _)); exact BK499.out⟩, ⟨by repeat (first | (with_reducible first | exact HB.out | apply below_alloc | apply pw_below_drewN | apply below_drew1 | refine below_set ?_ GE499.out) | exact HB.out)⟩⟩
   ·rw [if_neg c9] at H
    have c9b0 : decide (100 < t501) = false := decide_eq_false c9
    clear c9
    (first | rw [c9b0] | (simp only [i64_w, i32_w]; rw [c9b0]) | skip)
    have H' := Aside0.mk H
    clear H
    have hcz12_0 : w7.cell? ⟨gb499, 0, none⟩ = some (.int .i64 a0_0) := (blk_cell BK499.out 0).trans rfl
    have hcz12_1 : w7.cell? ⟨gb499, 1, none⟩ = some (.int .i64 a0_1) := (blk_cell BK499.out 1).trans rfl
    have hcz12_2 : w7.cell? ⟨gb499, 2, none⟩ = some (.int .i64 a0_2) := (blk_cell BK499.out 2).trans rfl
    have hcz12_3 : w7.cell? ⟨gb499, 3, none⟩ = some (.slice A0_3 l0_3.length c0_3) := (blk_cell BK499.out 3).trans rfl
    have hfz12_0 := blk_frozen BK499.out 0
    have hfz12_1 := blk_frozen BK499.out 1
    have hfz12_2 := blk_frozen BK499.out 2
    have hfz12_3 := blk_frozen BK499.out 3
    go_wp2_with (first | ((with_reducible refine gate_callee (f := 11) rfl ?_); refine goesL_ (some 23) rfl rfl Try.func11 (by kernel_rfl) rfl #[.agg #[.int .i64 a0_0, .int .i64 a0_1, .int .i64 a0_2, .slice A0_3 l0_3.length c0_3]] rfl (by (try simp only [List.map_toArray, List.map_cons, List.map_nil]); first | done | rfl | (simp only [List.length_drop, List.length_take]; rfl)) ?_; (with_reducible refine (chalklineref11_Size.calls k a0_0 a0_1 a0_2 _ _ l0_3 t501 _ ?side1 ?side2 A8.out).mono ?_); (case side1 => repeat (first | exact (Kd.C_below HR0_3.out HB.out) | (with_reducible refine Kd.C_alloc ?_ _) | (with_reducible refine Kd.C_drewN ?_ _) | (with_reducible refine Kd.C_drew ?_))); (case side2 => exact HC0_3.out); rintro e w13 ⟨rfl, hb⟩; refine ⟨_, rfl, ?_⟩; have n0_ := Aside0.mk (blk_below (g := gb499) (o := .cells #[.int .i64 a0_0, .int .i64 a0_1, .int .i64 a0_2, .slice A0_3 l0_3.length c0_3] 24 (0, 0)) (by (with_reducible repeat (first | refine blk_drewN ?_ _ | refine blk_drew ?_ | refine blk_alloc ?_ _)); exact BK499.out) hb); have n1_ := Aside0.mk (below_step (by repeat (first | (with_reducible first | exact HB.out | apply below_alloc | apply pw_below_drewN | apply below_drew1 | refine below_set ?_ GE499.out) | exact HB.out)) hb); clear BK499; clear HB; have BK499 := n0_; have HB := n1_; clear n0_ n1_; (try clear hb); (try clear hb2); (try clear hk); (try clear hi)))
    go_meet
    case rel => exact ⟨_, (decide ((l1.length : Int) > 20)), (by first | rfl | (simp; done) | (simp [*]; done)), H', ⟨by first | omega | exact Nat.le_refl _⟩, ⟨by (with_reducible repeat (first | refine blk_drewN ?_ _ | refine blk_drew ?_ | refine blk_alloc ?_ _)); exact BK499.out⟩, ⟨by repeat (first | (with_reducible first | exact HB.out | apply below_alloc | apply pw_below_drewN | apply below_drew1 | refine below_set ?_ GE499.out) | exact HB.out)⟩⟩
  case rest =>
   clear HC5
   (try clear c1); (try clear p2); (try clear c4); (try clear c9); (try clear c9b0); (try clear c10); (try clear c11); (try clear hcz10_0); (try clear hcz10_1); (try clear hcz10_2); (try clear hcz10_3); (try clear hcz12_0); (try clear hcz12_1); (try clear hcz12_2); (try clear hcz12_3); (try clear hfz10_0); (try clear hfz10_1); (try clear hfz10_2); (try clear hfz10_3); (try clear hfz12_0); (try clear hfz12_1); (try clear hfz12_2); (try clear hfz12_3)
   obtain ⟨kq, x29_4, rfl, HA, HJ4, BK499, HB⟩ := hcut
   cases kq with
   | zero => exact absurd HA.out (by simp [chalklinelaw13_GateForced.j0])
   | succ kj4 =>
    have H := HA.out
    clear HA
    simp only [chalklinelaw13_GateForced.j0] at H
    by_cases c14 : x29_4 = true
    ·subst c14
     have H1 : (some true) = some r := by rw [if_pos rfl] at H; exact H
     clear H
     have H := H1
     clear H1
     obtain rfl := Option.some.inj H
     go_wp2
     go_ret
     exact ⟨by first | rfl | (simp [errW_none, errW_some] <;> rfl) | (simp [*, errW_none, errW_some] <;> rfl), by repeat (first | (with_reducible first | exact HB.out | apply below_alloc | apply pw_below_drewN | apply below_drew1 | refine below_set ?_ GE499.out) | exact HB.out)⟩
    ·replace c14 := Bool.eq_false_iff.mpr c14
     subst c14
     have H1 : ((gate_Gates.f a0_0 a0_1 a0_2 l0_3 (wrap64 ((l1.length : Int) + 1))).bind fun bt502 => (if bt502.2.2.2 = 0 then (chalklinelaw13_GateForced.l0 kj4 l1 bt502.1 bt502.2.1 bt502.2.2.1 ([] : List Int) l1 (l1.length : Int) 0 a0_0 a0_1 a0_2 l0_3) else (some (bt502.2.2.1 == 0)))) = some r := by rw [if_neg (show ¬ (false = true) by decide)] at H; exact H
     clear H
     have H := H1
     clear H1
     replace H := Option.bind_eq_some_iff.mp H
     obtain ⟨⟨t502, t503, t506, t507⟩, A150, H⟩ := H
     replace H : (if t507 = 0 then (chalklinelaw13_GateForced.l0 kj4 l1 t502 t503 t506 ([] : List Int) l1 (l1.length : Int) 0 a0_0 a0_1 a0_2 l0_3) else (some (t506 == 0))) = some r := H
     have A15 := Aside0.mk A150
     clear A150
     by_cases c16 : t507 = 0
     ·rw [if_pos c16] at H
      have c16b0 : (t507 == 0) = true := beq_iff_eq.mpr c16
      have c16b1 : (t507 != 0) = false := bne_eq_false_iff_eq.mpr c16
      clear c16
      have H' := Aside0.mk H
      clear H
      have hcz17_0 : wc.cell? ⟨gb499, 0, none⟩ = some (.int .i64 a0_0) := (blk_cell BK499.out 0).trans rfl
      have hcz17_1 : wc.cell? ⟨gb499, 1, none⟩ = some (.int .i64 a0_1) := (blk_cell BK499.out 1).trans rfl
      have hcz17_2 : wc.cell? ⟨gb499, 2, none⟩ = some (.int .i64 a0_2) := (blk_cell BK499.out 2).trans rfl
      have hcz17_3 : wc.cell? ⟨gb499, 3, none⟩ = some (.slice A0_3 l0_3.length c0_3) := (blk_cell BK499.out 3).trans rfl
      have hfz17_0 := blk_frozen BK499.out 0
      have hfz17_1 := blk_frozen BK499.out 1
      have hfz17_2 := blk_frozen BK499.out 2
      have hfz17_3 := blk_frozen BK499.out 3
      go_wp2_with (first | ((with_reducible refine gate_callee (f := 12) rfl ?_); refine goesL_ (some 35) rfl rfl Try.func12 (by kernel_rfl) rfl #[.agg #[.int .i64 a0_0, .int .i64 a0_1, .int .i64 a0_2, .slice A0_3 l0_3.length c0_3], .int .i64 (wrap64 ((l1.length : Int) + 1))] rfl (by (try simp only [List.map_toArray, List.map_cons, List.map_nil]); first | done | rfl | (simp only [List.length_drop, List.length_take]; rfl)) ?_; (with_reducible refine (gate_Gates.calls a0_0 a0_1 a0_2 _ _ l0_3 (wrap64 ((l1.length : Int) + 1)) t502 t503 t506 t507 _ ?side1 ?side2 A15.out).mono ?_); (case side1 => repeat (first | exact (Kd.C_below HR0_3.out HB.out) | (with_reducible refine Kd.C_alloc ?_ _) | (with_reducible refine Kd.C_drewN ?_ _) | (with_reducible refine Kd.C_drew ?_))); (case side2 => exact HC0_3.out); rintro e w18 ⟨v504, rfl, ho0, hb⟩; refine ⟨_, rfl, ?_⟩; have n0_ := Aside0.mk (Kd.N_lower (Kd.N_mono (ok' := fun k_ => k_ ≠ gb499) ho0 (fun k_ hk_ => (Kd.freshB (g := gb499) (o := .cells #[.int .i64 a0_0, .int .i64 a0_1, .int .i64 a0_2, .slice A0_3 l0_3.length c0_3] 24 (0, 0)) (by (with_reducible repeat (first | refine blk_drewN ?_ _ | refine blk_drew ?_ | refine blk_alloc ?_ _)); exact BK499.out) k_ hk_))) (below_size (by repeat (first | (with_reducible first | exact HB.out | apply below_alloc | apply pw_below_drewN | apply below_drew1 | refine below_set ?_ GE499.out) | exact HB.out)))); have n1_ := Aside0.mk (blk_below (g := gb499) (o := .cells #[.int .i64 a0_0, .int .i64 a0_1, .int .i64 a0_2, .slice A0_3 l0_3.length c0_3] 24 (0, 0)) (by (with_reducible repeat (first | refine blk_drewN ?_ _ | refine blk_drew ?_ | refine blk_alloc ?_ _)); exact BK499.out) hb); have n2_ := Aside0.mk (below_step (by repeat (first | (with_reducible first | exact HB.out | apply below_alloc | apply pw_below_drewN | apply below_drew1 | refine below_set ?_ GE499.out) | exact HB.out)) hb); clear BK499; clear HB; have HO505 := n0_; have BK499 := n1_; have HB := n2_; clear n0_ n1_ n2_; (try clear hb); (try clear hb2); (try clear hk); (try clear hi); (try clear ho0)))
      go_loopg [9, 46] kj4 (fun kq v9 v46 w' => ∃ (x9_2 : List Int) (x46_2 : Int), v46 = .int .i64 x46_2 ∧ Aside0 (chalklinelaw13_GateForced.l0 kq l1 t502 t503 t506 x9_2 l1 (l1.length : Int) x46_2 a0_0 a0_1 a0_2 l0_3 = some r) ∧ Aside0 (kq ≤ kj4) ∧ Aside0 (Kd.N k40 40 w' w.heap.size (fun k_ => some k_ ≠ (v9 : Value).ownBlock ∧ k_ ≠ gb499) v504 t503) ∧ Aside0 (Kd.R (Kd.int .i64) 3 w' w.heap.size (fun _ => True) v9 x9_2) ∧ Aside0 (w'.heap[gb499]? = some (.cells #[.int .i64 a0_0, .int .i64 a0_1, .int .i64 a0_2, (.slice A0_3 l0_3.length c0_3)] 24 (0, 0))) ∧ Aside0 (Below w.heap.size w w'))
      case atStart => exact ⟨(([] : List Int)), (0), (by first | rfl | (simp; done) | (simp [*]; done)), H', ⟨Nat.le_refl _⟩, ⟨by (with_reducible repeat (first | apply Kd.N_alloc | apply Kd.N_drewN | apply Kd.N_drew)); exact Kd.N_mono HO505.out (fun _ hk => ⟨(by simp [Value.ownBlock]), hk⟩)⟩, ⟨by first | exact Kd.R_nil _ _ _ _ _ | exact Kd.N_nil _ _ _ _ _ | exact Kd.V_nil _ _ _ _ _ | exact Kd.Q_nil _ _ _ _ _ | exact Kd.S_nil _ _ _ _ _⟩, ⟨by (with_reducible repeat (first | refine blk_drewN ?_ _ | refine blk_drew ?_ | refine blk_alloc ?_ _)); exact BK499.out⟩, ⟨by repeat (first | (with_reducible first | exact HB.out | apply below_alloc | apply pw_below_drewN | apply below_drew1 | refine below_set ?_ GE499.out) | exact HB.out)⟩⟩
      case round =>
       clear H'
       (try clear c1); (try clear p2); (try clear c4); (try clear p6); (try clear c9); (try clear c9b0); (try clear c10); (try clear c11); (try clear c12); (try clear c14); (try clear c16); (try clear c16b0); (try clear c16b1); (try clear hcz10_0); (try clear hcz10_1); (try clear hcz10_2); (try clear hcz10_3); (try clear hcz12_0); (try clear hcz12_1); (try clear hcz12_2); (try clear hcz12_3); (try clear hcz17_0); (try clear hcz17_1); (try clear hcz17_2); (try clear hcz17_3); (try clear hfz10_0); (try clear hfz10_1); (try clear hfz10_2); (try clear hfz10_3); (try clear hfz12_0); (try clear hfz12_1); (try clear hfz12_2); (try clear hfz12_3); (try clear hfz17_0); (try clear hfz17_1); (try clear hfz17_2); (try clear hfz17_3); (try clear p2)
       obtain ⟨x9_2, x46_2, rfl, HA, HK2, HO_6, HO_9, BK499, HB⟩ := hrel
       cases gk with
       | zero => exact absurd HA.out (by simp [chalklinelaw13_GateForced.l0])
       | succ k2 =>
        have H := HA.out
        clear HA
        simp only [chalklinelaw13_GateForced.l0] at H
        by_cases c19 : x46_2 < (l1.length : Int)
        ·rw [if_pos c19] at H
         have c19b0 : decide (x46_2 < (l1.length : Int)) = true := decide_eq_true c19
         clear c19
         by_cases c20 : 0 ≤ x46_2
         ·rw [if_pos c20] at H
          have c20b0 : decide (0 ≤ x46_2) = true := decide_eq_true c20
          clear c20
          by_cases c21 : x46_2 < (l1.length : Int)
          ·rw [if_pos c21] at H
           have c21b0 : decide (x46_2 < (l1.length : Int)) = true := decide_eq_true c21
           clear c21
           obtain ⟨bq22, hbq22⟩ : ∃ b_ : Bool, b_ = (rdOf false l1 x46_2) := ⟨_, rfl⟩
           replace H : (if bq22 = true then (if x9_2.length < 17592186044416 then (chalklinelaw13_GateForced.l0 k2 l1 t502 t503 t506 (x9_2 ++ [wrap64 (x46_2 + 1)]) l1 (l1.length : Int) (wrap64 (x46_2 + 1)) a0_0 a0_1 a0_2 l0_3) else (none)) else (if x9_2.length < 17592186044416 then (chalklinelaw13_GateForced.l0 k2 l1 t502 t503 t506 (x9_2 ++ [wrap64 (-(wrap64 (x46_2 + 1)))]) l1 (l1.length : Int) (wrap64 (x46_2 + 1)) a0_0 a0_1 a0_2 l0_3) else (none))) = some r := by rw [← hbq22] at H; exact H
           have Nbq22 := Aside0.mk hbq22
           clear hbq22
           by_cases c23 : bq22 = true
           ·subst c23
            have H1 : (if x9_2.length < 17592186044416 then (chalklinelaw13_GateForced.l0 k2 l1 t502 t503 t506 (x9_2 ++ [wrap64 (x46_2 + 1)]) l1 (l1.length : Int) (wrap64 (x46_2 + 1)) a0_0 a0_1 a0_2 l0_3) else (none)) = some r := by rw [if_pos rfl] at H; exact H
            clear H
            have H := H1
            clear H1
            by_cases c24 : x9_2.length < 17592186044416
            ·rw [if_pos c24] at H
             have LMc24 := Aside0.mk c24
             clear c24
             obtain ⟨y509, hy509⟩ : ∃ y_ : List Int, y_ = (x9_2 ++ [wrap64 (x46_2 + 1)]) := ⟨_, rfl⟩
             replace H : (chalklinelaw13_GateForced.l0 k2 l1 t502 t503 t506 y509 l1 (l1.length : Int) (wrap64 (x46_2 + 1)) a0_0 a0_1 a0_2 l0_3) = some r := by first | (rw [hy509]; with_reducible exact H) | (have H2_ := (Option.bind_some _ _).symm.trans H; rw [hy509]; with_reducible exact H2_) | (have H2_ := (Option.bind_some _ _).symm.trans H; with_reducible exact H2_) | with_reducible exact H | (rw [hy509]; exact H) | exact H
             have Ny509 := Aside0.mk hy509
             clear hy509
             have H' := Aside0.mk H
             clear H
             have p508 : 0 ≤ (x46_2 : Int) := of_decide_eq_true (by first | (with_reducible assumption) | assumption)
             have q508 : x46_2 < (l1.length : Int) := of_decide_eq_true (by first | (with_reducible assumption) | assumption)
             obtain ⟨ad508, e508, hx508_0⟩ := Kd.at_bool HR1.out x46_2 p508 q508
             (try rw [← Nbq22.out] at hx508_0)
             cases e508
             replace hx508_0 := (HB.out.cell (World.block_lt_of_cell? w _ hx508_0)).trans hx508_0
             replace p508 := eq_true p508
             replace q508 := eq_true q508
             go_wp2_with (first | ((with_reducible refine gate_builtin (b := .append) (xs := #[.tmp 57, .tmp 59]) rfl ?_); (try (refine gate_guard (by rfl) ?_; dsimp only)); at_builtin; refine Kd.R_append (Kd.int .i64) (w0 := w) w.heap.size rfl (.tmp 57) (.tmp 59) 34 3 (.int .i64 0) 8 rfl Try.underlying34 info3 rfl (by decide) (by omega) u9 x9_2 (wrap64 (x46_2 + 1)) [.int .i64 (wrap64 (x46_2 + 1))] (fun _ => True) (fun _ => False) rfl rfl ?aP (fun _ hk => hk.elim) ?aF ?aO ?aB ?aS ?aL ?_; (case aP => exact rfl); (case aB => exact (by repeat (first | (with_reducible first | exact HB.out | apply below_alloc | apply pw_below_drewN | apply below_drew1 | refine below_set ?_ GE499.out) | exact HB.out))); (case aF => exact (fun _ _ => trivial)); (case aO => exact (by (with_reducible repeat (first | apply Kd.R_alloc | apply Kd.R_drewN | apply Kd.R_drew)); exact HO_9.out)); (case aS => exact (below_size (by repeat (first | (with_reducible first | exact HB.out | apply below_alloc | apply pw_below_drewN | apply below_drew1 | refine below_set ?_ GE499.out) | exact HB.out)))); (case aL => have := LMc24.out; omega); intro v510 w25 ho hb hg hat; rw [← Ny509.out] at ho; have n0_ := Aside0.mk (Kd.N_afterv (ok := (fun k_ => k_ ≠ gb499)) (by (with_reducible repeat (first | apply Kd.N_alloc | apply Kd.N_drewN | apply Kd.N_drew)); exact Kd.N_mono HO_6.out (fun _ hk => ⟨hk.2, hk.1⟩)) hg hat); have n1_ := Aside0.mk (blk_grown (g := gb499) (o := .cells #[.int .i64 a0_0, .int .i64 a0_1, .int .i64 a0_2, .slice A0_3 l0_3.length c0_3] 24 (0, 0)) (by (with_reducible repeat (first | refine blk_drewN ?_ _ | refine blk_drew ?_ | refine blk_alloc ?_ _)); exact BK499.out) hg (Kd.R_ne HO_9.out BK499.out (by decide))); have n2_ := Aside0.mk (hb); have n3_ := Aside0.mk (ho); clear HO_6; clear BK499; clear HB; clear HO_9; have HO_6 := n0_; have BK499 := n1_; have HB := n2_; have HO511 := n3_; clear n0_ n1_ n2_ n3_; clear ho hb hg hat))
             go_roundg k2
             case measure => have := HJ4.out; have := HK2.out; omega
             case rel => exact ⟨(y509), (wrap64 (x46_2 + 1)), (by first | rfl | (simp; done) | (simp [*]; done)), H', ⟨by have := HJ4.out; have := HK2.out; omega⟩, ⟨by (with_reducible repeat (first | apply Kd.N_alloc | apply Kd.N_drewN | apply Kd.N_drew)); exact Kd.N_mono HO_6.out (fun _ hk => ⟨hk.2, hk.1⟩)⟩, ⟨by (with_reducible repeat (first | apply Kd.R_alloc | apply Kd.R_drewN | apply Kd.R_drew)); exact HO511.out⟩, ⟨by (with_reducible repeat (first | refine blk_drewN ?_ _ | refine blk_drew ?_ | refine blk_alloc ?_ _)); exact BK499.out⟩, ⟨by repeat (first | (with_reducible first | exact HB.out | apply below_alloc | apply pw_below_drewN | apply below_drew1 | refine below_set ?_ GE499.out) | exact HB.out)⟩⟩
            ·rw [if_neg c24] at H
             exact absurd H (by simp)
           ·replace c23 := Bool.eq_false_iff.mpr c23
            subst c23
            have H1 : (if x9_2.length < 17592186044416 then (chalklinelaw13_GateForced.l0 k2 l1 t502 t503 t506 (x9_2 ++ [wrap64 (-(wrap64 (x46_2 + 1)))]) l1 (l1.length : Int) (wrap64 (x46_2 + 1)) a0_0 a0_1 a0_2 l0_3) else (none)) = some r := by rw [if_neg (show ¬ (false = true) by decide)] at H; exact H
            clear H
            have H := H1
            clear H1
            by_cases c26 : x9_2.length < 17592186044416
            ·rw [if_pos c26] at H
             have LMc26 := Aside0.mk c26
             clear c26
             obtain ⟨y512, hy512⟩ : ∃ y_ : List Int, y_ = (x9_2 ++ [wrap64 (-(wrap64 (x46_2 + 1)))]) := ⟨_, rfl⟩
             replace H : (chalklinelaw13_GateForced.l0 k2 l1 t502 t503 t506 y512 l1 (l1.length : Int) (wrap64 (x46_2 + 1)) a0_0 a0_1 a0_2 l0_3) = some r := by first | (rw [hy512]; with_reducible exact H) | (have H2_ := (Option.bind_some _ _).symm.trans H; rw [hy512]; with_reducible exact H2_) | (have H2_ := (Option.bind_some _ _).symm.trans H; with_reducible exact H2_) | with_reducible exact H | (rw [hy512]; exact H) | exact H
             have Ny512 := Aside0.mk hy512
             clear hy512
             have H' := Aside0.mk H
             clear H
             have p508 : 0 ≤ (x46_2 : Int) := of_decide_eq_true (by first | (with_reducible assumption) | assumption)
             have q508 : x46_2 < (l1.length : Int) := of_decide_eq_true (by first | (with_reducible assumption) | assumption)
             obtain ⟨ad508, e508, hx508_0⟩ := Kd.at_bool HR1.out x46_2 p508 q508
             (try rw [← Nbq22.out] at hx508_0)
             cases e508
             replace hx508_0 := (HB.out.cell (World.block_lt_of_cell? w _ hx508_0)).trans hx508_0
             replace p508 := eq_true p508
             replace q508 := eq_true q508
             go_wp2_with (first | ((with_reducible refine gate_builtin (b := .append) (xs := #[.tmp 57, .tmp 59]) rfl ?_); (try (refine gate_guard (by rfl) ?_; dsimp only)); at_builtin; refine Kd.R_append (Kd.int .i64) (w0 := w) w.heap.size rfl (.tmp 57) (.tmp 59) 34 3 (.int .i64 0) 8 rfl Try.underlying34 info3 rfl (by decide) (by omega) u9 x9_2 (wrap64 (-(wrap64 (x46_2 + 1)))) [.int .i64 (wrap64 (-(wrap64 (x46_2 + 1))))] (fun _ => True) (fun _ => False) rfl rfl ?aP (fun _ hk => hk.elim) ?aF ?aO ?aB ?aS ?aL ?_; (case aP => exact rfl); (case aB => exact (by repeat (first | (with_reducible first | exact HB.out | apply below_alloc | apply pw_below_drewN | apply below_drew1 | refine below_set ?_ GE499.out) | exact HB.out))); (case aF => exact (fun _ _ => trivial)); (case aO => exact (by (with_reducible repeat (first | apply Kd.R_alloc | apply Kd.R_drewN | apply Kd.R_drew)); exact HO_9.out)); (case aS => exact (below_size (by repeat (first | (with_reducible first | exact HB.out | apply below_alloc | apply pw_below_drewN | apply below_drew1 | refine below_set ?_ GE499.out) | exact HB.out)))); (case aL => have := LMc26.out; omega); intro v513 w27 ho hb hg hat; rw [← Ny512.out] at ho; have n0_ := Aside0.mk (Kd.N_afterv (ok := (fun k_ => k_ ≠ gb499)) (by (with_reducible repeat (first | apply Kd.N_alloc | apply Kd.N_drewN | apply Kd.N_drew)); exact Kd.N_mono HO_6.out (fun _ hk => ⟨hk.2, hk.1⟩)) hg hat); have n1_ := Aside0.mk (blk_grown (g := gb499) (o := .cells #[.int .i64 a0_0, .int .i64 a0_1, .int .i64 a0_2, .slice A0_3 l0_3.length c0_3] 24 (0, 0)) (by (with_reducible repeat (first | refine blk_drewN ?_ _ | refine blk_drew ?_ | refine blk_alloc ?_ _)); exact BK499.out) hg (Kd.R_ne HO_9.out BK499.out (by decide))); have n2_ := Aside0.mk (hb); have n3_ := Aside0.mk (ho); clear HO_6; clear BK499; clear HB; clear HO_9; have HO_6 := n0_; have BK499 := n1_; have HB := n2_; have HO514 := n3_; clear n0_ n1_ n2_ n3_; clear ho hb hg hat))
             go_roundg k2
             case measure => have := HJ4.out; have := HK2.out; omega
             case rel => exact ⟨(y512), (wrap64 (x46_2 + 1)), (by first | rfl | (simp; done) | (simp [*]; done)), H', ⟨by have := HJ4.out; have := HK2.out; omega⟩, ⟨by (with_reducible repeat (first | apply Kd.N_alloc | apply Kd.N_drewN | apply Kd.N_drew)); exact Kd.N_mono HO_6.out (fun _ hk => ⟨hk.2, hk.1⟩)⟩, ⟨by (with_reducible repeat (first | apply Kd.R_alloc | apply Kd.R_drewN | apply Kd.R_drew)); exact HO514.out⟩, ⟨by (with_reducible repeat (first | refine blk_drewN ?_ _ | refine blk_drew ?_ | refine blk_alloc ?_ _)); exact BK499.out⟩, ⟨by repeat (first | (with_reducible first | exact HB.out | apply below_alloc | apply pw_below_drewN | apply below_drew1 | refine below_set ?_ GE499.out) | exact HB.out)⟩⟩
            ·rw [if_neg c26] at H
             exact absurd H (by simp)
          ·rw [if_neg c21] at H
           exact absurd H (by simp)
         ·rw [if_neg c20] at H
          exact absurd H (by simp)
        ·rw [if_neg c19] at H
         have c19b0 : decide (x46_2 < (l1.length : Int)) = false := decide_eq_false c19
         clear c19
         have H' := Aside0.mk H
         clear H
         obtain ⟨Ao28, co28, eo28⟩ := Kd.N_slice HO_6.out
         subst eo28
         go_wp2
         go_loopg [9, 64] k2 (fun kq v9 v64 w' => ∃ (x9_3 : List Int) (x64_3 : Int), v64 = .int .i64 x64_3 ∧ Aside0 (chalklinelaw13_GateForced.l1 kq l1 t502 t506 x9_3 t503 (t503.length : Int) x64_3 a0_0 a0_1 a0_2 l0_3 = some r) ∧ Aside0 (kq ≤ k2) ∧ Aside0 (Kd.R (Kd.int .i64) 3 w' w.heap.size (fun _ => True) v9 x9_3) ∧ Aside0 (Kd.N k40 40 w' w.heap.size (fun k_ => some k_ ≠ (v9 : Value).ownBlock ∧ k_ ≠ gb499) (.slice Ao28 t503.length co28) t503) ∧ Aside0 (w'.heap[gb499]? = some (.cells #[.int .i64 a0_0, .int .i64 a0_1, .int .i64 a0_2, (.slice A0_3 l0_3.length c0_3)] 24 (0, 0))) ∧ Aside0 (Below w.heap.size w w'))
         case atStart => exact ⟨(x9_2), (0), (by first | rfl | (simp; done) | (simp [*]; done)), H', ⟨Nat.le_refl _⟩, ⟨by (with_reducible repeat (first | apply Kd.R_alloc | apply Kd.R_drewN | apply Kd.R_drew)); exact HO_9.out⟩, ⟨by (with_reducible repeat (first | apply Kd.N_alloc | apply Kd.N_drewN | apply Kd.N_drew)); exact HO_6.out⟩, ⟨by (with_reducible repeat (first | refine blk_drewN ?_ _ | refine blk_drew ?_ | refine blk_alloc ?_ _)); exact BK499.out⟩, ⟨by repeat (first | (with_reducible first | exact HB.out | apply below_alloc | apply pw_below_drewN | apply below_drew1 | refine below_set ?_ GE499.out) | exact HB.out)⟩⟩
         case round =>
          clear H'
          (try clear c1); (try clear c2); (try clear p2); (try clear q2); (try clear c4); (try clear p5); (try clear q5); (try clear hx5); (try clear p6); (try clear c9); (try clear c9b0); (try clear c10); (try clear c11); (try clear c12); (try clear c14); (try clear c16); (try clear c16b0); (try clear c16b1); (try clear c19); (try clear c19b0); (try clear c20); (try clear c20b0); (try clear c21); (try clear c21b0); (try clear q22); (try clear c23); (try clear c24); (try clear c26); (try clear hcz10_0); (try clear hcz10_1); (try clear hcz10_2); (try clear hcz10_3); (try clear hcz12_0); (try clear hcz12_1); (try clear hcz12_2); (try clear hcz12_3); (try clear hcz17_0); (try clear hcz17_1); (try clear hcz17_2); (try clear hcz17_3); (try clear hfz10_0); (try clear hfz10_1); (try clear hfz10_2); (try clear hfz10_3); (try clear hfz12_0); (try clear hfz12_1); (try clear hfz12_2); (try clear hfz12_3); (try clear hfz17_0); (try clear hfz17_1); (try clear hfz17_2); (try clear hfz17_3); (try clear hx508_0); (try clear p2); (try clear p508); (try clear p6); (try clear q508)
          obtain ⟨x9_3, x64_3, rfl, HA, HK3, HO_9, HO_62, BK499, HB⟩ := hrel
          cases gk with
          | zero => exact absurd HA.out (by simp [chalklinelaw13_GateForced.l1])
          | succ k3 =>
           have H := HA.out
           clear HA
           simp only [chalklinelaw13_GateForced.l1] at H
           by_cases c29 : x64_3 < (t503.length : Int)
           ·rw [if_pos c29] at H
            have c29b0 : decide (x64_3 < (t503.length : Int)) = true := decide_eq_true c29
            clear c29
            by_cases c30 : 0 ≤ x64_3
            ·rw [if_pos c30] at H
             have c30b0 : decide (0 ≤ x64_3) = true := decide_eq_true c30
             clear c30
             by_cases c31 : x64_3 < (t503.length : Int)
             ·rw [if_pos c31] at H
              have c31b0 : decide (x64_3 < (t503.length : Int)) = true := decide_eq_true c31
              clear c31
              replace H := Option.bind_eq_some_iff.mp H
              obtain ⟨⟨t526, t529⟩, A320, H⟩ := H
              replace H : (if t529 = true then (chalklinelaw13_GateForced.l2 k3 l1 t502 t506 x9_3 t503 (t503.length : Int) x64_3 t526 (t526.length : Int) 0 a0_0 a0_1 a0_2 l0_3) else (none)) = some r := H
              have A32 := Aside0.mk A320
              clear A320
              by_cases c33 : t529 = true
              ·subst c33
               have H1 : (chalklinelaw13_GateForced.l2 k3 l1 t502 t506 x9_3 t503 (t503.length : Int) x64_3 t526 (t526.length : Int) 0 a0_0 a0_1 a0_2 l0_3) = some r := by rw [if_pos rfl] at H; exact H
               clear H
               have H := H1
               clear H1
               have H' := Aside0.mk H
               clear H
               have p524 : 0 ≤ (x64_3 : Int) := of_decide_eq_true (by first | (with_reducible assumption) | assumption)
               have q524 : x64_3 < (t503.length : Int) := of_decide_eq_true (by first | (with_reducible assumption) | assumption)
               obtain ⟨ad524, A524_0, c524_0, A524_1, c524_1, e524, hx524_0, hx524_1, hx524_2, hl524_0, hi524_0, hl524_1, hi524_1⟩ := at_T40 (Kd.N_reads' HO_62.out).2.2 x64_3 p524 q524
               cases e524
               obtain ⟨ce524, hce524, hMe524, hcc524⟩ := Kd.N_get HO_62.out z40 x64_3 p524 (by first | exact q524 | exact of_decide_eq_true (by first | (with_reducible assumption) | assumption) | (have e_ := (Kd.N_reads' HO_62.out).1; omega))
               obtain ⟨ua524_0, uc524_0, ua524_1, uc524_1, rfl, ul524_0, ge524_0, ul524_1, ge524_1⟩ := k40_openF hMe524
               have hv524_0 := hcc524 0 _ rfl
               rw [Nat.add_zero] at hv524_0
               replace hv524_0 := Option.some.inj (hv524_0.symm.trans hx524_0)
               injection hv524_0 with hva_ hvn_ hvc_
               rw [hva_] at ge524_0
               rw [hvc_] at ul524_0
               have HL524_0 := Aside0.mk (show Kd.V (Kd.int .i64) 3 _ w.heap.size _ _ ((rd_T40 t503 x64_3).f0) from Kd.V_mk ul524_0 ge524_0)
               clear hva_ hvn_ hvc_ ge524_0 ul524_0
               have hv524_1 := hcc524 1 _ rfl
               rw [add_field _ _ 1 (by omega)] at hv524_1
               replace hv524_1 := Option.some.inj (hv524_1.symm.trans hx524_1)
               injection hv524_1 with hva_ hvn_ hvc_
               rw [hva_] at ge524_1
               rw [hvc_] at ul524_1
               have HL524_1 := Aside0.mk (show Kd.V (Kd.int .i64) 3 _ w.heap.size _ _ ((rd_T40 t503 x64_3).f1) from Kd.V_mk ul524_1 ge524_1)
               clear hva_ hvn_ hvc_ ge524_1 ul524_1
               clear hcc524 hce524
               have HR524_0 := Aside0.mk hi524_0
               have HC524_0 := Aside0.mk hl524_0
               clear hi524_0 hl524_0
               have HR524_1 := Aside0.mk hi524_1
               have HC524_1 := Aside0.mk hl524_1
               clear hi524_1 hl524_1
               replace p524 := eq_true p524
               replace q524 := eq_true q524
               go_wp2_with (first | ((with_reducible refine gate_dst (N := 14) rfl ?_); (try (refine gate_guard (by rfl) ?_; dsimp only)); refine box_event ?hg (N := 14) ?hd (cs := #[.slice none 0 0, .slice none 0 0, .int .i64 0]) (t := 40) ?hr ?_; (case hd => rfl); (case hg => rfl); (case hr => first | (go_simp; done) | (go_simp; rfl)); intro gb525 hg w34 hbox hb; have n0_ := Aside0.mk (Kd.R_below (by (with_reducible repeat (first | apply Kd.R_alloc | apply Kd.R_drewN | apply Kd.R_drew)); exact HO_9.out) hb); have n1_ := Aside0.mk (Kd.N_below (Kd.N_elderB (by (with_reducible repeat (first | apply Kd.N_alloc | apply Kd.N_drewN | apply Kd.N_drew)); exact HO_62.out) gb525 (Nat.le_of_eq hg.symm)) hb); have n2_ := Aside0.mk (Kd.V_below (Kd.V_elderB (by (with_reducible repeat (first | apply Kd.V_alloc | apply Kd.V_drewN | apply Kd.V_drew)); exact HL524_0.out) gb525 (Nat.le_of_eq hg.symm)) hb); have n3_ := Aside0.mk (Kd.V_below (Kd.V_elderB (by (with_reducible repeat (first | apply Kd.V_alloc | apply Kd.V_drewN | apply Kd.V_drew)); exact HL524_1.out) gb525 (Nat.le_of_eq hg.symm)) hb); have n4_ := Aside0.mk (blk_below (g := gb499) (o := .cells #[.int .i64 a0_0, .int .i64 a0_1, .int .i64 a0_2, .slice A0_3 l0_3.length c0_3] 24 (0, 0)) (by (with_reducible repeat (first | refine blk_drewN ?_ _ | refine blk_drew ?_ | refine blk_alloc ?_ _)); exact BK499.out) hb); have n5_ := Aside0.mk (Kd.C_below (by repeat (first | (with_reducible exact HR524_0.out) | (with_reducible refine Kd.C_alloc ?_ _) | (with_reducible refine Kd.C_drewN ?_ _) | (with_reducible refine Kd.C_drew ?_) | exact HR524_0.out)) hb); have n6_ := Aside0.mk (Kd.C_below (by repeat (first | (with_reducible exact HR524_1.out) | (with_reducible refine Kd.C_alloc ?_ _) | (with_reducible refine Kd.C_drewN ?_ _) | (with_reducible refine Kd.C_drew ?_) | exact HR524_1.out)) hb); have n7_ := Aside0.mk (below_step (by repeat (first | (with_reducible first | exact HB.out | apply below_alloc | apply pw_below_drewN | apply below_drew1 | refine below_set ?_ GE499.out) | exact HB.out)) hb); have n8_ := Aside0.mk (hbox); have n9_ := Aside0.mk ((by rw [hg]; exact (below_size (by repeat (first | (with_reducible first | exact HB.out | apply below_alloc | apply pw_below_drewN | apply below_drew1 | refine below_set ?_ GE499.out) | exact HB.out))) : w.heap.size ≤ gb525)); have n10_ := Aside0.mk ((by rw [hg]; exact (below_size (by repeat (first | (with_reducible first | exact HB.out | apply below_alloc | apply pw_below_drewN | apply below_drew1 | refine below_set ?_ GE499.out) | exact HB.out))) : w.heap.size ≤ gb525)); have n11_ := Aside0.mk ((by rw [hg]; exact Nat.ne_of_lt (blk_lt (g := gb499) (o := .cells #[.int .i64 a0_0, .int .i64 a0_1, .int .i64 a0_2, .slice A0_3 l0_3.length c0_3] 24 (0, 0)) (by (with_reducible repeat (first | refine blk_drewN ?_ _ | refine blk_drew ?_ | refine blk_alloc ?_ _)); exact BK499.out)) : gb499 ≠ gb525)); have n12_ := Aside0.mk ((by rw [hg]; exact Nat.ne_of_gt (blk_lt (g := gb499) (o := .cells #[.int .i64 a0_0, .int .i64 a0_1, .int .i64 a0_2, .slice A0_3 l0_3.length c0_3] 24 (0, 0)) (by (with_reducible repeat (first | refine blk_drewN ?_ _ | refine blk_drew ?_ | refine blk_alloc ?_ _)); exact BK499.out)) : gb525 ≠ gb499)); clear HO_9; clear HO_62; clear HL524_0; clear HL524_1; clear BK499; clear HR524_0; clear HR524_1; clear HB; have HO_9 := n0_; have HO_62 := n1_; have HL524_0 := n2_; have HL524_1 := n3_; have BK499 := n4_; have HR524_0 := n5_; have HR524_1 := n6_; have HB := n7_; have BK525 := n8_; have GW525 := n9_; have GE525 := n10_; have NB499_525 := n11_; have NB525_499 := n12_; clear n0_ n1_ n2_ n3_ n4_ n5_ n6_ n7_ n8_ n9_ n10_ n11_ n12_; clear hb hbox hg; have hnb35 := NB525_499.out; have hnc35 := NB499_525.out; have hcz36_0 : w34.cell? ⟨gb525, 0, none⟩ = some (.slice none 0 0) := (blk_cell BK525.out 0).trans rfl; have hcz36_1 : w34.cell? ⟨gb525, 1, none⟩ = some (.slice none 0 0) := (blk_cell BK525.out 1).trans rfl; have hcz36_2 : w34.cell? ⟨gb525, 2, none⟩ = some (.int .i64 0) := (blk_cell BK525.out 2).trans rfl; have hfz36_0 := blk_frozen BK525.out 0; have hfz36_1 := blk_frozen BK525.out 1; have hfz36_2 := blk_frozen BK525.out 2; obtain ⟨Ao37, co37, eo37⟩ := Kd.R_slice HO_9.out; subst eo37) | ((with_reducible refine gate_callee (f := 26) rfl ?_); refine goesL_ (some 71) rfl rfl Try.func26 (by kernel_rfl) rfl #[.agg #[.slice A524_0 ((rd_T40 t503 x64_3).f0).length c524_0, .slice A524_1 ((rd_T40 t503 x64_3).f1).length c524_1, .int .i64 ((rd_T40 t503 x64_3).f2)], .slice Ao37 x9_3.length co37] rfl (by (try simp only [List.map_toArray, List.map_cons, List.map_nil]); first | done | rfl | (simp only [List.length_drop, List.length_take]; rfl)) ?_; (with_reducible refine (lin_Force.calls _ _ ((rd_T40 t503 x64_3).f0) _ _ ((rd_T40 t503 x64_3).f1) ((rd_T40 t503 x64_3).f2) _ _ x9_3 t526 true _ ?side1 ?side2 ?side3 ?side4 ?side5 ?side6 A32.out).mono ?_); (case side1 => repeat (first | exact ((Kd.V_reads' (by (with_reducible repeat (first | apply Kd.V_alloc | apply Kd.V_drewN | apply Kd.V_drew)); exact (Kd.V_mono (Kd.V_far (p := ⟨gb525, 2, none⟩) (Kd.V_far (p := ⟨gb525, 1, none⟩) (Kd.V_far (p := ⟨gb525, 0, none⟩) (Kd.V_mono HL524_0.out (fun k_ hk => (⟨hk, hk.2⟩ : _ ∧ k_ ≠ gb525))) (fun _ hk => hk.2) (.slice A524_0 ((rd_T40 t503 x64_3).f0).length c524_0)) (fun _ hk => hk.2) (.slice A524_1 ((rd_T40 t503 x64_3).f1).length c524_1)) (fun _ hk => hk.2) (.int .i64 ((rd_T40 t503 x64_3).f2))) (fun _ h_ => h_.1)))).2.2) | (with_reducible refine Kd.C_alloc ?_ _) | (with_reducible refine Kd.C_drewN ?_ _) | (with_reducible refine Kd.C_drew ?_))); (case side2 => exact HC524_0.out); (case side3 => repeat (first | exact ((Kd.V_reads' (by (with_reducible repeat (first | apply Kd.V_alloc | apply Kd.V_drewN | apply Kd.V_drew)); exact (Kd.V_mono (Kd.V_far (p := ⟨gb525, 2, none⟩) (Kd.V_far (p := ⟨gb525, 1, none⟩) (Kd.V_far (p := ⟨gb525, 0, none⟩) (Kd.V_mono HL524_1.out (fun k_ hk => (⟨hk, hk.2⟩ : _ ∧ k_ ≠ gb525))) (fun _ hk => hk.2) (.slice A524_0 ((rd_T40 t503 x64_3).f0).length c524_0)) (fun _ hk => hk.2) (.slice A524_1 ((rd_T40 t503 x64_3).f1).length c524_1)) (fun _ hk => hk.2) (.int .i64 ((rd_T40 t503 x64_3).f2))) (fun _ h_ => h_.1)))).2.2) | (with_reducible refine Kd.C_alloc ?_ _) | (with_reducible refine Kd.C_drewN ?_ _) | (with_reducible refine Kd.C_drew ?_))); (case side4 => exact HC524_1.out); (case side5 => refine (Kd.R_reads' (e := 3) (base := w.heap.size) (ok := fun k_ => True) (n := x9_3.length) (c := co37) ?_).2.2; exact (by (with_reducible repeat (first | apply Kd.R_alloc | apply Kd.R_drewN | apply Kd.R_drew)); exact (Kd.R_mono (Kd.R_far (p := ⟨gb525, 2, none⟩) (Kd.R_far (p := ⟨gb525, 1, none⟩) (Kd.R_far (p := ⟨gb525, 0, none⟩) (Kd.R_types HO_9.out BK525.out (by decide)) (fun _ hk => hk.2) (.slice A524_0 ((rd_T40 t503 x64_3).f0).length c524_0)) (fun _ hk => hk.2) (.slice A524_1 ((rd_T40 t503 x64_3).f1).length c524_1)) (fun _ hk => hk.2) (.int .i64 ((rd_T40 t503 x64_3).f2))) (fun _ h_ => h_.1)))); (case side6 => exact (Kd.R_reads' HO_9.out).2.1); rintro e w38 ⟨v527, rfl, ho0, hb⟩; refine ⟨_, rfl, ?_⟩; have n0_ := Aside0.mk (Kd.R_elder' (by (with_reducible repeat (first | apply Kd.R_alloc | apply Kd.R_drewN | apply Kd.R_drew)); exact (Kd.R_mono (Kd.R_far (p := ⟨gb525, 2, none⟩) (Kd.R_far (p := ⟨gb525, 1, none⟩) (Kd.R_far (p := ⟨gb525, 0, none⟩) (Kd.R_types HO_9.out BK525.out (by decide)) (fun _ hk => hk.2) (.slice A524_0 ((rd_T40 t503 x64_3).f0).length c524_0)) (fun _ hk => hk.2) (.slice A524_1 ((rd_T40 t503 x64_3).f1).length c524_1)) (fun _ hk => hk.2) (.int .i64 ((rd_T40 t503 x64_3).f2))) (fun _ h_ => h_.1))) (Kd.R_base ho0) hb); have n1_ := Aside0.mk (Kd.N_elder' (by (with_reducible repeat (first | apply Kd.N_alloc | apply Kd.N_drewN | apply Kd.N_drew)); exact (Kd.N_mono (Kd.N_far (p := ⟨gb525, 2, none⟩) (Kd.N_far (p := ⟨gb525, 1, none⟩) (Kd.N_far (p := ⟨gb525, 0, none⟩) (Kd.N_mono HO_62.out (fun k_ hk => (⟨hk, hk.2⟩ : _ ∧ k_ ≠ gb525))) (fun _ hk => hk.2) (.slice A524_0 ((rd_T40 t503 x64_3).f0).length c524_0)) (fun _ hk => hk.2) (.slice A524_1 ((rd_T40 t503 x64_3).f1).length c524_1)) (fun _ hk => hk.2) (.int .i64 ((rd_T40 t503 x64_3).f2))) (fun _ h_ => h_.1))) (Kd.R_base ho0) hb); have n2_ := Aside0.mk (Kd.V_elder' (by (with_reducible repeat (first | apply Kd.V_alloc | apply Kd.V_drewN | apply Kd.V_drew)); exact (Kd.V_mono (Kd.V_far (p := ⟨gb525, 2, none⟩) (Kd.V_far (p := ⟨gb525, 1, none⟩) (Kd.V_far (p := ⟨gb525, 0, none⟩) (Kd.V_mono HL524_0.out (fun k_ hk => (⟨hk, hk.2⟩ : _ ∧ k_ ≠ gb525))) (fun _ hk => hk.2) (.slice A524_0 ((rd_T40 t503 x64_3).f0).length c524_0)) (fun _ hk => hk.2) (.slice A524_1 ((rd_T40 t503 x64_3).f1).length c524_1)) (fun _ hk => hk.2) (.int .i64 ((rd_T40 t503 x64_3).f2))) (fun _ h_ => h_.1))) (Kd.R_base ho0) hb); have n3_ := Aside0.mk (Kd.V_elder' (by (with_reducible repeat (first | apply Kd.V_alloc | apply Kd.V_drewN | apply Kd.V_drew)); exact (Kd.V_mono (Kd.V_far (p := ⟨gb525, 2, none⟩) (Kd.V_far (p := ⟨gb525, 1, none⟩) (Kd.V_far (p := ⟨gb525, 0, none⟩) (Kd.V_mono HL524_1.out (fun k_ hk => (⟨hk, hk.2⟩ : _ ∧ k_ ≠ gb525))) (fun _ hk => hk.2) (.slice A524_0 ((rd_T40 t503 x64_3).f0).length c524_0)) (fun _ hk => hk.2) (.slice A524_1 ((rd_T40 t503 x64_3).f1).length c524_1)) (fun _ hk => hk.2) (.int .i64 ((rd_T40 t503 x64_3).f2))) (fun _ h_ => h_.1))) (Kd.R_base ho0) hb); have n4_ := Aside0.mk (Kd.R_lower (Kd.R_new' (Kd.R_mono (ok' := fun k_ => True) ho0 (fun _ hk_ => trivial)) (Kd.R_lt (by (with_reducible repeat (first | apply Kd.R_alloc | apply Kd.R_drewN | apply Kd.R_drew)); exact (Kd.R_mono (Kd.R_far (p := ⟨gb525, 2, none⟩) (Kd.R_far (p := ⟨gb525, 1, none⟩) (Kd.R_far (p := ⟨gb525, 0, none⟩) (Kd.R_types HO_9.out BK525.out (by decide)) (fun _ hk => hk.2) (.slice A524_0 ((rd_T40 t503 x64_3).f0).length c524_0)) (fun _ hk => hk.2) (.slice A524_1 ((rd_T40 t503 x64_3).f1).length c524_1)) (fun _ hk => hk.2) (.int .i64 ((rd_T40 t503 x64_3).f2))) (fun _ h_ => h_.1))))) (below_size (by repeat (first | (with_reducible first | exact HB.out | apply below_alloc | apply pw_below_drewN | apply below_drew1 | refine below_set ?_ GE499.out | refine below_set ?_ GE525.out) | exact HB.out)))); have n5_ := Aside0.mk (blk_below (g := gb499) (o := .cells #[.int .i64 a0_0, .int .i64 a0_1, .int .i64 a0_2, .slice A0_3 l0_3.length c0_3] 24 (0, 0)) (by (with_reducible repeat (first | refine blk_drewN ?_ _ | refine blk_drew ?_ | refine blk_alloc ?_ _)); refine blk_far ?_ NB499_525.out _; (with_reducible repeat (first | refine blk_drewN ?_ _ | refine blk_drew ?_ | refine blk_alloc ?_ _)); refine blk_far ?_ NB499_525.out _; (with_reducible repeat (first | refine blk_drewN ?_ _ | refine blk_drew ?_ | refine blk_alloc ?_ _)); refine blk_far ?_ NB499_525.out _; (with_reducible repeat (first | refine blk_drewN ?_ _ | refine blk_drew ?_ | refine blk_alloc ?_ _)); exact BK499.out) hb); have n6_ := Aside0.mk (Kd.C_below ((Kd.V_reads' (by (with_reducible repeat (first | apply Kd.V_alloc | apply Kd.V_drewN | apply Kd.V_drew)); exact (Kd.V_mono (Kd.V_far (p := ⟨gb525, 2, none⟩) (Kd.V_far (p := ⟨gb525, 1, none⟩) (Kd.V_far (p := ⟨gb525, 0, none⟩) (Kd.V_mono HL524_0.out (fun k_ hk => (⟨hk, hk.2⟩ : _ ∧ k_ ≠ gb525))) (fun _ hk => hk.2) (.slice A524_0 ((rd_T40 t503 x64_3).f0).length c524_0)) (fun _ hk => hk.2) (.slice A524_1 ((rd_T40 t503 x64_3).f1).length c524_1)) (fun _ hk => hk.2) (.int .i64 ((rd_T40 t503 x64_3).f2))) (fun _ h_ => h_.1)))).2.2) hb); have n7_ := Aside0.mk (Kd.C_below ((Kd.V_reads' (by (with_reducible repeat (first | apply Kd.V_alloc | apply Kd.V_drewN | apply Kd.V_drew)); exact (Kd.V_mono (Kd.V_far (p := ⟨gb525, 2, none⟩) (Kd.V_far (p := ⟨gb525, 1, none⟩) (Kd.V_far (p := ⟨gb525, 0, none⟩) (Kd.V_mono HL524_1.out (fun k_ hk => (⟨hk, hk.2⟩ : _ ∧ k_ ≠ gb525))) (fun _ hk => hk.2) (.slice A524_0 ((rd_T40 t503 x64_3).f0).length c524_0)) (fun _ hk => hk.2) (.slice A524_1 ((rd_T40 t503 x64_3).f1).length c524_1)) (fun _ hk => hk.2) (.int .i64 ((rd_T40 t503 x64_3).f2))) (fun _ h_ => h_.1)))).2.2) hb); have n8_ := Aside0.mk (blk_below (g := gb525) (o := .cells #[.slice A524_0 ((rd_T40 t503 x64_3).f0).length c524_0, .slice A524_1 ((rd_T40 t503 x64_3).f1).length c524_1, .int .i64 ((rd_T40 t503 x64_3).f2)] 40 (0, 0)) (by (with_reducible repeat (first | refine blk_drewN ?_ _ | refine blk_drew ?_ | refine blk_alloc ?_ _)); refine blk_put (cs := #[.slice A524_0 ((rd_T40 t503 x64_3).f0).length c524_0, .slice A524_1 ((rd_T40 t503 x64_3).f1).length c524_1, .int .i64 0]) ?_ 2 _ rfl; (with_reducible repeat (first | refine blk_drewN ?_ _ | refine blk_drew ?_ | refine blk_alloc ?_ _)); refine blk_put (cs := #[.slice A524_0 ((rd_T40 t503 x64_3).f0).length c524_0, .slice none 0 0, .int .i64 0]) ?_ 1 _ rfl; (with_reducible repeat (first | refine blk_drewN ?_ _ | refine blk_drew ?_ | refine blk_alloc ?_ _)); refine blk_put (cs := #[.slice none 0 0, .slice none 0 0, .int .i64 0]) ?_ 0 _ rfl; (with_reducible repeat (first | refine blk_drewN ?_ _ | refine blk_drew ?_ | refine blk_alloc ?_ _)); exact BK525.out) hb); have n9_ := Aside0.mk (below_step (by repeat (first | (with_reducible first | exact HB.out | apply below_alloc | apply pw_below_drewN | apply below_drew1 | refine below_set ?_ GE499.out | refine below_set ?_ GE525.out) | exact HB.out)) hb); clear HO_9; clear HO_62; clear HL524_0; clear HL524_1; clear BK499; clear HR524_0; clear HR524_1; clear BK525; clear HB; have HO_9 := n0_; have HO_62 := n1_; have HL524_0 := n2_; have HL524_1 := n3_; have HO528 := n4_; have BK499 := n5_; have HR524_0 := n6_; have HR524_1 := n7_; have BK525 := n8_; have HB := n9_; clear n0_ n1_ n2_ n3_ n4_ n5_ n6_ n7_ n8_ n9_; (try clear hb); (try clear hb2); (try clear hk); (try clear hi); (try clear ho0); obtain ⟨Ao39, co39, eo39⟩ := Kd.R_slice HO528.out; subst eo39))
               go_loopg [9, 78] k3 (fun kq v9 v78 w' => ∃ (x9_4 : List Int) (x78_4 : Int), v78 = .int .i64 x78_4 ∧ Aside0 (chalklinelaw13_GateForced.l2 kq l1 t502 t506 x9_4 t503 (t503.length : Int) x64_3 t526 (t526.length : Int) x78_4 a0_0 a0_1 a0_2 l0_3 = some r) ∧ Aside0 (kq ≤ k3) ∧ Aside0 (Kd.R (Kd.int .i64) 3 w' w.heap.size (fun k_ => some k_ ≠ ((.slice Ao39 t526.length co39) : Value).ownBlock) v9 x9_4) ∧ Aside0 (Kd.N k40 40 w' w.heap.size (fun k_ => some k_ ≠ (v9 : Value).ownBlock ∧ some k_ ≠ ((.slice Ao39 t526.length co39) : Value).ownBlock ∧ k_ ≠ gb499 ∧ k_ ≠ gb525) (.slice (some ad524) t503.length co28) t503) ∧ Aside0 (Kd.R (Kd.int .i64) 3 w' w.heap.size (fun k_ => some k_ ≠ (v9 : Value).ownBlock) (.slice Ao39 t526.length co39) t526) ∧ Aside0 (w'.heap[gb499]? = some (.cells #[.int .i64 a0_0, .int .i64 a0_1, .int .i64 a0_2, (.slice A0_3 l0_3.length c0_3)] 24 (0, 0))) ∧ Aside0 (w'.heap[gb525]? = some (.cells #[(.slice A524_0 ((rd_T40 t503 x64_3).f0).length c524_0), (.slice A524_1 ((rd_T40 t503 x64_3).f1).length c524_1), .int .i64 ((rd_T40 t503 x64_3).f2)] 40 (0, 0))) ∧ Aside0 (Below w.heap.size w w'))
               case atStart => exact ⟨(x9_3), (0), (by first | rfl | (simp; done) | (simp [*]; done)), H', ⟨Nat.le_refl _⟩, ⟨by (with_reducible repeat (first | apply Kd.R_alloc | apply Kd.R_drewN | apply Kd.R_drew)); exact Kd.R_mono HO_9.out (fun _ hk => hk.2)⟩, ⟨by (with_reducible repeat (first | apply Kd.N_alloc | apply Kd.N_drewN | apply Kd.N_drew)); exact Kd.N_mono HO_62.out (fun _ hk => ⟨hk.1.1.1, ⟨hk.2, ⟨hk.1.1.2, hk.1.2⟩⟩⟩)⟩, ⟨by (with_reducible repeat (first | apply Kd.R_alloc | apply Kd.R_drewN | apply Kd.R_drew)); exact Kd.R_mono HO528.out (fun _ hk => hk.2)⟩, ⟨by (with_reducible repeat (first | refine blk_drewN ?_ _ | refine blk_drew ?_ | refine blk_alloc ?_ _)); exact BK499.out⟩, ⟨by (with_reducible repeat (first | refine blk_drewN ?_ _ | refine blk_drew ?_ | refine blk_alloc ?_ _)); exact BK525.out⟩, ⟨by repeat (first | (with_reducible first | exact HB.out | apply below_alloc | apply pw_below_drewN | apply below_drew1 | refine below_set ?_ GE499.out | refine below_set ?_ GE525.out) | exact HB.out)⟩⟩
               case round =>
                clear H'
                (try clear c1); (try clear c2); (try clear p2); (try clear q2); (try clear c3); (try clear c4); (try clear c5); (try clear p5); (try clear q5); (try clear hx5); (try clear p6); (try clear c9); (try clear c9b0); (try clear c10); (try clear c11); (try clear c12); (try clear c14); (try clear c16); (try clear c16b0); (try clear c16b1); (try clear c19); (try clear c19b0); (try clear c20); (try clear c20b0); (try clear c21); (try clear c21b0); (try clear q22); (try clear c23); (try clear c24); (try clear c26); (try clear c29); (try clear c29b0); (try clear c30); (try clear c30b0); (try clear c31); (try clear c31b0); (try clear c33); (try clear c35); (try clear hcz10_0); (try clear hcz10_1); (try clear hcz10_2); (try clear hcz10_3); (try clear hcz12_0); (try clear hcz12_1); (try clear hcz12_2); (try clear hcz12_3); (try clear hcz17_0); (try clear hcz17_1); (try clear hcz17_2); (try clear hcz17_3); (try clear hcz36_0); (try clear hcz36_1); (try clear hcz36_2); (try clear hfz10_0); (try clear hfz10_1); (try clear hfz10_2); (try clear hfz10_3); (try clear hfz12_0); (try clear hfz12_1); (try clear hfz12_2); (try clear hfz12_3); (try clear hfz17_0); (try clear hfz17_1); (try clear hfz17_2); (try clear hfz17_3); (try clear hfz36_0); (try clear hfz36_1); (try clear hfz36_2); (try clear hx508_0); (try clear hx524_0); (try clear hx524_1); (try clear hx524_2); (try clear p2); (try clear p5); (try clear p508); (try clear p524); (try clear p6); (try clear q2); (try clear q22); (try clear q5); (try clear q508); (try clear q524)
                obtain ⟨x9_4, x78_4, rfl, HA, HK4, HO_9, HO_62, HO_76, BK499, BK525, HB⟩ := hrel
                cases gk with
                | zero => exact absurd HA.out (by simp [chalklinelaw13_GateForced.l2])
                | succ k4 =>
                 have H := HA.out
                 clear HA
                 simp only [chalklinelaw13_GateForced.l2] at H
                 by_cases c40 : x78_4 < (t526.length : Int)
                 ·rw [if_pos c40] at H
                  have c40b0 : decide (x78_4 < (t526.length : Int)) = true := decide_eq_true c40
                  clear c40
                  by_cases c41 : 0 ≤ x78_4
                  ·rw [if_pos c41] at H
                   have c41b0 : decide (0 ≤ x78_4) = true := decide_eq_true c41
                   clear c41
                   by_cases c42 : x78_4 < (t526.length : Int)
                   ·rw [if_pos c42] at H
                    have c42b0 : decide (x78_4 < (t526.length : Int)) = true := decide_eq_true c42
                    clear c42
                    replace H := Option.bind_eq_some_iff.mp H
                    obtain ⟨t531, A430, H⟩ := H
                    replace H : (if t531 = true then (chalklinelaw13_GateForced.l2 k4 l1 t502 t506 x9_4 t503 (t503.length : Int) x64_3 t526 (t526.length : Int) (wrap64 (x78_4 + 1)) a0_0 a0_1 a0_2 l0_3) else (if x9_4.length < 17592186044416 then (chalklinelaw13_GateForced.l2 k4 l1 t502 t506 (x9_4 ++ [rd t526 x78_4]) t503 (t503.length : Int) x64_3 t526 (t526.length : Int) (wrap64 (x78_4 + 1)) a0_0 a0_1 a0_2 l0_3) else (none))) = some r := H
                    have A43 := Aside0.mk A430
                    clear A430
                    by_cases c44 : t531 = true
                    ·subst c44
                     have H1 : (chalklinelaw13_GateForced.l2 k4 l1 t502 t506 x9_4 t503 (t503.length : Int) x64_3 t526 (t526.length : Int) (wrap64 (x78_4 + 1)) a0_0 a0_1 a0_2 l0_3) = some r := by rw [if_pos rfl] at H; exact H
                     clear H
                     have H := H1
                     clear H1
                     have H' := Aside0.mk H
                     clear H
                     have p530 : 0 ≤ (x78_4 : Int) := of_decide_eq_true (by first | (with_reducible assumption) | assumption)
                     have q530 : x78_4 < (t526.length : Int) := of_decide_eq_true (by first | (with_reducible assumption) | assumption)
                     obtain ⟨ad530, e530, hx530_0⟩ := Kd.at_int (Kd.R_reads' HO_76.out).2.2 x78_4 p530 q530
                     cases e530
                     replace p530 := eq_true p530
                     replace q530 := eq_true q530
                     obtain ⟨Ao45, co45, eo45⟩ := Kd.R_slice HO_9.out
                     subst eo45
                     go_wp2_with (first | ((with_reducible refine gate_callee (f := 27) rfl ?_); refine goesL_ (some 84) rfl rfl Try.func27 (by kernel_rfl) rfl #[.slice Ao45 x9_4.length co45, .int .i64 (rd t526 x78_4)] rfl (by (try simp only [List.map_toArray, List.map_cons, List.map_nil]); first | done | rfl | (simp only [List.length_drop, List.length_take]; rfl)) ?_; (with_reducible refine (chalklinelaw13_among.calls k4 _ _ x9_4 (rd t526 x78_4) true _ ?side1 ?side2 A43.out).mono ?_); (case side1 => repeat (first | exact (Kd.R_reads' HO_9.out).2.2 | (with_reducible refine Kd.C_alloc ?_ _) | (with_reducible refine Kd.C_drewN ?_ _) | (with_reducible refine Kd.C_drew ?_))); (case side2 => exact (Kd.R_reads' HO_9.out).2.1); rintro e w' ⟨rfl, ⟨nd, rfl⟩⟩; refine ⟨_, rfl, ?_⟩))
                     go_roundg k4
                     case measure => have := HJ4.out; have := HK2.out; have := HK3.out; have := HK4.out; omega
                     case rel => exact ⟨(x9_4), (wrap64 (x78_4 + 1)), (by first | rfl | (simp; done) | (simp [*]; done)), H', ⟨by have := HJ4.out; have := HK2.out; have := HK3.out; have := HK4.out; omega⟩, ⟨by (with_reducible repeat (first | apply Kd.R_alloc | apply Kd.R_drewN | apply Kd.R_drew)); exact HO_9.out⟩, ⟨by (with_reducible repeat (first | apply Kd.N_alloc | apply Kd.N_drewN | apply Kd.N_drew)); exact HO_62.out⟩, ⟨by (with_reducible repeat (first | apply Kd.R_alloc | apply Kd.R_drewN | apply Kd.R_drew)); exact HO_76.out⟩, ⟨by (with_reducible repeat (first | refine blk_drewN ?_ _ | refine blk_drew ?_ | refine blk_alloc ?_ _)); exact BK499.out⟩, ⟨by (with_reducible repeat (first | refine blk_drewN ?_ _ | refine blk_drew ?_ | refine blk_alloc ?_ _)); exact BK525.out⟩, ⟨by repeat (first | (with_reducible first | exact HB.out | apply below_alloc | apply pw_below_drewN | apply below_drew1 | refine below_set ?_ GE499.out | refine below_set ?_ GE525.out) | exact HB.out)⟩⟩
                    ·replace c44 := Bool.eq_false_iff.mpr c44
                     subst c44
                     have H1 : (if x9_4.length < 17592186044416 then (chalklinelaw13_GateForced.l2 k4 l1 t502 t506 (x9_4 ++ [rd t526 x78_4]) t503 (t503.length : Int) x64_3 t526 (t526.length : Int) (wrap64 (x78_4 + 1)) a0_0 a0_1 a0_2 l0_3) else (none)) = some r := by rw [if_neg (show ¬ (false = true) by decide)] at H; exact H
                     clear H
                     have H := H1
                     clear H1
                     by_cases c46 : x9_4.length < 17592186044416
                     ·rw [if_pos c46] at H
                      have LMc46 := Aside0.mk c46
                      clear c46
                      obtain ⟨y532, hy532⟩ : ∃ y_ : List Int, y_ = (x9_4 ++ [rd t526 x78_4]) := ⟨_, rfl⟩
                      replace H : (chalklinelaw13_GateForced.l2 k4 l1 t502 t506 y532 t503 (t503.length : Int) x64_3 t526 (t526.length : Int) (wrap64 (x78_4 + 1)) a0_0 a0_1 a0_2 l0_3) = some r := by first | (rw [hy532]; with_reducible exact H) | (have H2_ := (Option.bind_some _ _).symm.trans H; rw [hy532]; with_reducible exact H2_) | (have H2_ := (Option.bind_some _ _).symm.trans H; with_reducible exact H2_) | with_reducible exact H | (rw [hy532]; exact H) | exact H
                      have Ny532 := Aside0.mk hy532
                      clear hy532
                      have H' := Aside0.mk H
                      clear H
                      have p530 : 0 ≤ (x78_4 : Int) := of_decide_eq_true (by first | (with_reducible assumption) | assumption)
                      have q530 : x78_4 < (t526.length : Int) := of_decide_eq_true (by first | (with_reducible assumption) | assumption)
                      obtain ⟨ad530, e530, hx530_0⟩ := Kd.at_int (Kd.R_reads' HO_76.out).2.2 x78_4 p530 q530
                      cases e530
                      replace p530 := eq_true p530
                      replace q530 := eq_true q530
                      obtain ⟨Ao47, co47, eo47⟩ := Kd.R_slice HO_9.out
                      subst eo47
                      go_wp2_with (first | ((with_reducible refine gate_callee (f := 27) rfl ?_); refine goesL_ (some 84) rfl rfl Try.func27 (by kernel_rfl) rfl #[.slice Ao47 x9_4.length co47, .int .i64 (rd t526 x78_4)] rfl (by (try simp only [List.map_toArray, List.map_cons, List.map_nil]); first | done | rfl | (simp only [List.length_drop, List.length_take]; rfl)) ?_; (with_reducible refine (chalklinelaw13_among.calls k4 _ _ x9_4 (rd t526 x78_4) false _ ?side1 ?side2 A43.out).mono ?_); (case side1 => repeat (first | exact (Kd.R_reads' HO_9.out).2.2 | (with_reducible refine Kd.C_alloc ?_ _) | (with_reducible refine Kd.C_drewN ?_ _) | (with_reducible refine Kd.C_drew ?_))); (case side2 => exact (Kd.R_reads' HO_9.out).2.1); rintro e w' ⟨rfl, ⟨nd, rfl⟩⟩; refine ⟨_, rfl, ?_⟩) | ((with_reducible refine gate_builtin (b := .append) (xs := #[.tmp 86, .tmp 88]) rfl ?_); (try (refine gate_guard (by rfl) ?_; dsimp only)); at_builtin; refine Kd.R_append (Kd.int .i64) (w0 := w) w.heap.size rfl (.tmp 86) (.tmp 88) 34 3 (.int .i64 0) 8 rfl Try.underlying34 info3 rfl (by decide) (by omega) (.slice Ao47 x9_4.length co47) x9_4 (rd t526 x78_4) [.int .i64 (rd t526 x78_4)] (fun k_ => some k_ ≠ (.slice (some ad530) t526.length co39 : Value).ownBlock) (fun _ => False) rfl rfl ?aP (fun _ hk => hk.elim) ?aF ?aO ?aB ?aS ?aL ?_; (case aP => exact rfl); (case aB => exact (by repeat (first | (with_reducible first | exact HB.out | apply below_alloc | apply pw_below_drewN | apply below_drew1 | refine below_set ?_ GE499.out | refine below_set ?_ GE525.out) | exact HB.out))); (case aF => exact (fun k_ hk => Kd.fresh' (Kd.R_lt (by (with_reducible repeat (first | apply Kd.R_alloc | apply Kd.R_drewN | apply Kd.R_drew)); exact HO_76.out)) k_ hk)); (case aO => exact (by (with_reducible repeat (first | apply Kd.R_alloc | apply Kd.R_drewN | apply Kd.R_drew)); exact HO_9.out)); (case aS => exact (below_size (by repeat (first | (with_reducible first | exact HB.out | apply below_alloc | apply pw_below_drewN | apply below_drew1 | refine below_set ?_ GE499.out | refine below_set ?_ GE525.out) | exact HB.out)))); (case aL => have := LMc46.out; omega); intro v533 w48 ho hb hg hat; rw [← Ny532.out] at ho; have n0_ := Aside0.mk (Kd.N_afterv (ok := (fun k_ => some k_ ≠ (.slice (some ad530) t526.length co39 : Value).ownBlock ∧ k_ ≠ gb499 ∧ k_ ≠ gb525)) (by (with_reducible repeat (first | apply Kd.N_alloc | apply Kd.N_drewN | apply Kd.N_drew)); exact Kd.N_mono HO_62.out (fun _ hk => ⟨⟨hk.2.1, ⟨hk.2.2.1, hk.2.2.2⟩⟩, hk.1⟩)) hg hat); have n1_ := Aside0.mk (Kd.R_after (ok := (fun _ => True)) (by (with_reducible repeat (first | apply Kd.R_alloc | apply Kd.R_drewN | apply Kd.R_drew)); exact Kd.R_mono HO_76.out (fun _ hk => ⟨trivial, hk⟩)) hg hat); have n2_ := Aside0.mk (blk_grown (g := gb499) (o := .cells #[.int .i64 a0_0, .int .i64 a0_1, .int .i64 a0_2, .slice A0_3 l0_3.length c0_3] 24 (0, 0)) (by (with_reducible repeat (first | refine blk_drewN ?_ _ | refine blk_drew ?_ | refine blk_alloc ?_ _)); exact BK499.out) hg (Kd.R_ne HO_9.out BK499.out (by decide))); have n3_ := Aside0.mk (blk_grown (g := gb525) (o := .cells #[.slice A524_0 ((rd_T40 t503 x64_3).f0).length c524_0, .slice A524_1 ((rd_T40 t503 x64_3).f1).length c524_1, .int .i64 ((rd_T40 t503 x64_3).f2)] 40 (0, 0)) (by (with_reducible repeat (first | refine blk_drewN ?_ _ | refine blk_drew ?_ | refine blk_alloc ?_ _)); exact BK525.out) hg (Kd.R_ne HO_9.out BK525.out (by decide))); have n4_ := Aside0.mk (hb); have n5_ := Aside0.mk (ho); clear HO_62; clear HO_76; clear BK499; clear BK525; clear HB; clear HO_9; have HO_62 := n0_; have HO_76 := n1_; have BK499 := n2_; have BK525 := n3_; have HB := n4_; have HO534 := n5_; clear n0_ n1_ n2_ n3_ n4_ n5_; clear ho hb hg hat))
                      go_roundg k4
                      case measure => have := HJ4.out; have := HK2.out; have := HK3.out; have := HK4.out; omega
                      case rel => exact ⟨(y532), (wrap64 (x78_4 + 1)), (by first | rfl | (simp; done) | (simp [*]; done)), H', ⟨by have := HJ4.out; have := HK2.out; have := HK3.out; have := HK4.out; omega⟩, ⟨by (with_reducible repeat (first | apply Kd.R_alloc | apply Kd.R_drewN | apply Kd.R_drew)); exact HO534.out⟩, ⟨by (with_reducible repeat (first | apply Kd.N_alloc | apply Kd.N_drewN | apply Kd.N_drew)); exact Kd.N_mono HO_62.out (fun _ hk => ⟨hk.2, ⟨hk.1.1, ⟨hk.1.2.1, hk.1.2.2⟩⟩⟩)⟩, ⟨by (with_reducible repeat (first | apply Kd.R_alloc | apply Kd.R_drewN | apply Kd.R_drew)); exact Kd.R_mono HO_76.out (fun _ hk => hk.2)⟩, ⟨by (with_reducible repeat (first | refine blk_drewN ?_ _ | refine blk_drew ?_ | refine blk_alloc ?_ _)); exact BK499.out⟩, ⟨by (with_reducible repeat (first | refine blk_drewN ?_ _ | refine blk_drew ?_ | refine blk_alloc ?_ _)); exact BK525.out⟩, ⟨by repeat (first | (with_reducible first | exact HB.out | apply below_alloc | apply pw_below_drewN | apply below_drew1 | refine below_set ?_ GE499.out | refine below_set ?_ GE525.out) | exact HB.out)⟩⟩
                     ·rw [if_neg c46] at H
                      exact absurd H (by simp)
                   ·rw [if_neg c42] at H
                    exact absurd H (by simp)
                  ·rw [if_neg c41] at H
                   exact absurd H (by simp)
                 ·rw [if_neg c40] at H
                  have c40b0 : decide (x78_4 < (t526.length : Int)) = false := decide_eq_false c40
                  clear c40
                  have H' := Aside0.mk H
                  clear H
                  go_wp2
                  go_roundg k4
                  case measure => have := HJ4.out; have := HK2.out; have := HK3.out; have := HK4.out; omega
                  case rel => exact ⟨(x9_4), (wrap64 (x64_3 + 1)), (by first | rfl | (simp; done) | (simp [*]; done)), H', ⟨by have := HJ4.out; have := HK2.out; have := HK3.out; have := HK4.out; omega⟩, ⟨by (with_reducible repeat (first | apply Kd.R_alloc | apply Kd.R_drewN | apply Kd.R_drew)); exact Kd.R_mono HO_9.out (fun _ hk => trivial)⟩, ⟨by (with_reducible repeat (first | apply Kd.N_alloc | apply Kd.N_drewN | apply Kd.N_drew)); exact Kd.N_mono HO_62.out (fun _ hk => ⟨hk.1, hk.2.2.1⟩)⟩, ⟨by (with_reducible repeat (first | refine blk_drewN ?_ _ | refine blk_drew ?_ | refine blk_alloc ?_ _)); exact BK499.out⟩, ⟨by repeat (first | (with_reducible first | exact HB.out | apply below_alloc | apply pw_below_drewN | apply below_drew1 | refine below_set ?_ GE499.out | refine below_set ?_ GE525.out) | exact HB.out)⟩⟩
              ·replace c33 := Bool.eq_false_iff.mpr c33
               subst c33
               have H1 : (none : Option Bool) = some r := by rw [if_neg (show ¬ (false = true) by decide)] at H; exact H
               exact absurd H1 (by simp)
             ·rw [if_neg c31] at H
              exact absurd H (by simp)
            ·rw [if_neg c30] at H
             exact absurd H (by simp)
           ·rw [if_neg c29] at H
            have c29b0 : decide (x64_3 < (t503.length : Int)) = false := decide_eq_false c29
            clear c29
            obtain ⟨y515, hy515⟩ : ∃ y_ : List Bool, y_ = (([false] : List Bool)) := ⟨_, rfl⟩
            replace H : (if y515.length + l1.length < 140737488355328 then ((flat_Value.f a0_0 a0_1 a0_2 l0_3 (y515 ++ l1)).bind fun t521 => (if (x9_3.length : Int) = (wrap64 (t506 - 1)) then ((chalklinelaw13_among.f k3 x9_3 t502).bind fun t522 => (if (t522 == t521) = true then ((chalklinelaw13_among.f k3 x9_3 (wrap64 (-t502))).bind fun t523 => (some (t523 != t521))) else (none))) else (none))) else (none)) = some r := by first | (rw [hy515]; with_reducible exact H) | (have H2_ := (Option.bind_some _ _).symm.trans H; rw [hy515]; with_reducible exact H2_) | (have H2_ := (Option.bind_some _ _).symm.trans H; with_reducible exact H2_) | with_reducible exact H | (rw [hy515]; exact H) | exact H
            have Ny515 := Aside0.mk hy515
            clear hy515
            by_cases c54 : y515.length + l1.length < 140737488355328
            ·rw [if_pos c54] at H
             have LMc54 := Aside0.mk c54
             clear c54
             obtain ⟨y518, hy518⟩ : ∃ y_ : List Bool, y_ = (y515 ++ l1) := ⟨_, rfl⟩
             replace H : ((flat_Value.f a0_0 a0_1 a0_2 l0_3 y518).bind fun t521 => (if (x9_3.length : Int) = (wrap64 (t506 - 1)) then ((chalklinelaw13_among.f k3 x9_3 t502).bind fun t522 => (if (t522 == t521) = true then ((chalklinelaw13_among.f k3 x9_3 (wrap64 (-t502))).bind fun t523 => (some (t523 != t521))) else (none))) else (none))) = some r := by first | (rw [hy518]; with_reducible exact H) | (have H2_ := (Option.bind_some _ _).symm.trans H; rw [hy518]; with_reducible exact H2_) | (have H2_ := (Option.bind_some _ _).symm.trans H; with_reducible exact H2_) | with_reducible exact H | (rw [hy518]; exact H) | exact H
             have Ny518 := Aside0.mk hy518
             clear hy518
             replace H := Option.bind_eq_some_iff.mp H
             obtain ⟨t521, A550, H⟩ := H
             replace H : (if (x9_3.length : Int) = (wrap64 (t506 - 1)) then ((chalklinelaw13_among.f k3 x9_3 t502).bind fun t522 => (if (t522 == t521) = true then ((chalklinelaw13_among.f k3 x9_3 (wrap64 (-t502))).bind fun t523 => (some (t523 != t521))) else (none))) else (none)) = some r := H
             have A55 := Aside0.mk A550
             clear A550
             by_cases c56 : (x9_3.length : Int) = (wrap64 (t506 - 1))
             ·rw [if_pos c56] at H
              have c56b0 : ((x9_3.length : Int) == (wrap64 (t506 - 1))) = true := beq_iff_eq.mpr c56
              have c56b1 : ((x9_3.length : Int) != (wrap64 (t506 - 1))) = false := bne_eq_false_iff_eq.mpr c56
              clear c56
              replace H := Option.bind_eq_some_iff.mp H
              obtain ⟨t522, A570, H⟩ := H
              replace H : (if (t522 == t521) = true then ((chalklinelaw13_among.f k3 x9_3 (wrap64 (-t502))).bind fun t523 => (some (t523 != t521))) else (none)) = some r := H
              have A57 := Aside0.mk A570
              clear A570
              by_cases c58 : (t522 == t521) = true
              ·rw [if_pos c58] at H
               have c58b0 : (t522 == t521) = true := c58
               (try (have c58b1 : decide (t522 = t521) = true := by simpa using c58))
               (try (have c58b2 : (t522 == t521) = true := by simpa using c58))
               clear c58
               replace H := Option.bind_eq_some_iff.mp H
               obtain ⟨t523, A590, H⟩ := H
               replace H : (some (t523 != t521)) = some r := H
               have A59 := Aside0.mk A590
               clear A590
               obtain rfl := Option.some.inj H
               try go_wp2
               have n0_ := Aside0.mk (Kd.R_drew HO_9.out)
               have n1_ := Aside0.mk (Kd.N_drew HO_62.out)
               have n2_ := Aside0.mk (blk_drew BK499.out)
               have n3_ := Aside0.mk (below_drew1 HB.out)
               clear HO_9
               clear HO_62
               clear BK499
               clear HB
               have HO_9 := n0_
               have HO_62 := n1_
               have BK499 := n2_
               have HB := n3_
               clear n0_ n1_ n2_ n3_
               refine start_ (n := 6) (S := fun w' => w'.cell? ⟨gb499, 0, none⟩ = some (.int .i64 a0_0) ∧ w'.cell? ⟨gb499, 1, none⟩ = some (.int .i64 a0_1) ∧ w'.cell? ⟨gb499, 2, none⟩ = some (.int .i64 a0_2) ∧ w'.cell? ⟨gb499, 3, none⟩ = some (.slice A0_3 l0_3.length c0_3)) (ds := []) #[false, false, false, false, false, false] (by kernel_rfl) rfl rfl ⟨(blk_cell BK499.out 0).trans rfl, (blk_cell BK499.out 1).trans rfl, (blk_cell BK499.out 2).trans rfl, (blk_cell BK499.out 3).trans rfl⟩ (fun hHeld => ?_)
               generalize wr.drew = w60 at HO_9 HO_62 BK499 HB hHeld ⊢
               refine pure_ (i := 2) (N := some 94) (v := ?_) (a' := ?_) #[false, false, true, false, false, false] rfl rfl (by kernel_rfl) (fun _ _ _ h => h) (Or.inl ⟨by rfl, ?_⟩) ?_ ?_
               rotate_left
               ·intro w'
                go_simp
                with_reducible rfl
               rotate_left
               ·simp only [Act.put, List.setIfInBounds_toArray, List.set_cons_zero, List.set_cons_succ, i64_w, i32_w]
                rfl
               refine take_ (i := 0) (N := some 92) (v := ?_) (a' := ?_) #[true, false, true, false, false, false] rfl rfl (by kernel_rfl) (fun _ _ _ h => h) (Or.inl ⟨by rfl, ?_⟩) hHeld ?_ ?_
               rotate_left
               ·rintro w' ⟨s0, s1, s2, s3⟩
                go_simp
                with_reducible rfl
               rotate_left
               ·simp only [Act.put, List.setIfInBounds_toArray, List.set_cons_zero, List.set_cons_succ, i64_w, i32_w]
                rfl
               refine one_ (i := 1) (N := some 93) #[true, true, true, false, false, false] rfl rfl (by kernel_rfl) (by decide) (fun K hK => ?_)
               refine Kd.R_lit_step Kd.bool _ 4 ?hg (N := 93) ?hd (xs := ([false] : List Bool)) (inner := [.bool false]) (ok := fun _ => True) (okp := fun _ => True) ?hr ?hp (fun _ hk => hk) trivial (Below.refl _ _) (Nat.le_refl _) (by simp) ?_; (case hd => rfl); (case hg => rfl); (case hr => first | (go_simp; done) | (go_simp; rfl)); (case hp => exact (Reps.one (show Kd.M Kd.bool _ _ _ false [.bool false] from rfl) (Reps.none _ _)))
               intro v516 w61 ho62 hb hg_ hnew_
               clear hg_ hnew_
               (first | rw [← Ny515.out] at ho62 | (simp only [Int.reduceToNat] at ho62; rw [← Ny515.out] at ho62))
               have n0_ := Aside0.mk (Kd.R_below (by (with_reducible repeat (first | apply Kd.R_alloc | apply Kd.R_drewN | apply Kd.R_drew)); exact HO_9.out) hb)
               have n1_ := Aside0.mk (Kd.N_elder' (by (with_reducible repeat (first | apply Kd.N_alloc | apply Kd.N_drewN | apply Kd.N_drew)); exact HO_62.out) (Kd.R_base ho62) hb)
               have n2_ := Aside0.mk (Kd.R_lower ho62 (below_size (by repeat (first | (with_reducible first | exact HB.out | apply below_alloc | apply pw_below_drewN | apply below_drew1 | refine below_set ?_ GE499.out) | exact HB.out))))
               have n3_ := Aside0.mk (blk_below (g := gb499) (o := .cells #[.int .i64 a0_0, .int .i64 a0_1, .int .i64 a0_2, .slice A0_3 l0_3.length c0_3] 24 (0, 0)) (by (with_reducible repeat (first | refine blk_drewN ?_ _ | refine blk_drew ?_ | refine blk_alloc ?_ _)); exact BK499.out) hb)
               have n4_ := Aside0.mk (below_step (by repeat (first | (with_reducible first | exact HB.out | apply below_alloc | apply pw_below_drewN | apply below_drew1 | refine below_set ?_ GE499.out) | exact HB.out)) hb)
               clear HO_9
               clear HO_62
               clear BK499
               clear HB
               have HO_9 := n0_
               have HO_62 := n1_
               have HO517 := n2_
               have BK499 := n3_
               have HB := n4_
               clear n0_ n1_ n2_ n3_ n4_
               clear hb ho62
               refine hK.out _ _ ⟨(blk_cell BK499.out 0).trans rfl, (blk_cell BK499.out 1).trans rfl, (blk_cell BK499.out 2).trans rfl, (blk_cell BK499.out 3).trans rfl⟩ (fun hHeld => ?_)
               clear hK K
               refine norm_ (a' := ?_) ?_ ?_
               rotate_left
               ·show Act.put _ (some 93) _ = _
                simp only [Act.put, List.setIfInBounds_toArray, List.set_cons_zero, List.set_cons_succ, i64_w, i32_w]
                rfl
               refine one_ (i := 3) (N := some 95) #[true, true, true, true, false, false] rfl rfl (by kernel_rfl) (by decide) (fun K hK => ?_)
               refine Kd.R_append_rows_step Kd.bool (w0 := w) w.heap.size (by rfl) (.tmp 93) (.tmp 94) 43 4 (.bool false) 1 rfl Try.underlying43 info4 rfl (by decide) (by omega) v516 y515 l1 _ _ _ (fun _ => True) (fun _ => False) rfl rfl ?aO ?aR (fun _ _ h => h) (fun _ h => h.elim) ?aF ?aB ?aS ?aL ?_
               (case aR => repeat (first | exact (Kd.C_below HR1.out HB.out) | (with_reducible refine Kd.C_alloc ?_ _) | (with_reducible refine Kd.C_drewN ?_ _) | (with_reducible refine Kd.C_drew ?_)))
               (case aB => exact (by repeat (first | (with_reducible first | exact HB.out | apply below_alloc | apply pw_below_drewN | apply below_drew1 | refine below_set ?_ GE499.out) | exact HB.out)))
               (case aF => exact (fun _ _ => trivial))
               (case aO => exact (by (with_reducible repeat (first | apply Kd.R_alloc | apply Kd.R_drewN | apply Kd.R_drew)); exact HO517.out))
               (case aS => exact (below_size (by repeat (first | (with_reducible first | exact HB.out | apply below_alloc | apply pw_below_drewN | apply below_drew1 | refine below_set ?_ GE499.out) | exact HB.out))))
               (case aL => have := LMc54.out; omega)
               intro v519 w63 ho hb hg hat
               rw [← Ny518.out] at ho
               have n0_ := Aside0.mk (Kd.R_over' (by (with_reducible repeat (first | apply Kd.R_alloc | apply Kd.R_drewN | apply Kd.R_drew)); exact HO_9.out) (Kd.R_typed (by (with_reducible repeat (first | apply Kd.R_alloc | apply Kd.R_drewN | apply Kd.R_drew)); exact HO517.out)) (by decide) hg)
               have n1_ := Aside0.mk (Kd.N_afterv (ok := (fun k_ => some k_ ≠ (u9 : Value).ownBlock ∧ k_ ≠ gb499)) (by (with_reducible repeat (first | apply Kd.N_alloc | apply Kd.N_drewN | apply Kd.N_drew)); exact HO_62.out) hg hat)
               have n2_ := Aside0.mk (blk_grown (g := gb499) (o := .cells #[.int .i64 a0_0, .int .i64 a0_1, .int .i64 a0_2, .slice A0_3 l0_3.length c0_3] 24 (0, 0)) (by (with_reducible repeat (first | refine blk_drewN ?_ _ | refine blk_drew ?_ | refine blk_alloc ?_ _)); exact BK499.out) hg (Kd.R_ne HO517.out BK499.out (by decide)))
               have n3_ := Aside0.mk (hb)
               have n4_ := Aside0.mk (ho)
               clear HO_9
               clear HO_62
               clear BK499
               clear HB
               clear HO517
               have HO_9 := n0_
               have HO_62 := n1_
               have BK499 := n2_
               have HB := n3_
               have HO520 := n4_
               clear n0_ n1_ n2_ n3_ n4_
               clear ho hb hg hat
               obtain ⟨Ao64, co64, eo64⟩ := Kd.R_slice HO520.out
               (first | subst eo64 | (injection eo64 with f1_ f2_ f3_; have f4_ := f1_.symm; have f5_ := f3_.symm; clear f1_ f2_ f3_; subst f4_; subst f5_))
               refine hK.out _ _ ⟨(blk_cell BK499.out 0).trans rfl, (blk_cell BK499.out 1).trans rfl, (blk_cell BK499.out 2).trans rfl, (blk_cell BK499.out 3).trans rfl⟩ (fun hHeld => ?_)
               clear hK K
               refine norm_ (a' := ?_) ?_ ?_
               rotate_left
               ·show Act.put _ (some 95) _ = _
                simp only [Act.put, List.setIfInBounds_toArray, List.set_cons_zero, List.set_cons_succ, i64_w, i32_w]
                rfl
               refine one_ (i := 4) (N := some 96) #[true, true, true, true, true, false] rfl rfl (by kernel_rfl) (by decide) (fun K hK => ?_)
               refine goes_ Try.func22 (by kernel_rfl) rfl #[.agg #[.int .i64 a0_0, .int .i64 a0_1, .int .i64 a0_2, .slice A0_3 l0_3.length c0_3], .slice Ao64 y518.length co64] (by rfl) rfl rfl (by (try simp only [List.map_toArray, List.map_cons, List.map_nil]); first | done | rfl | (simp only [List.length_drop, List.length_take]; rfl)) ?_
               with_reducible refine (flat_Value.calls a0_0 a0_1 a0_2 _ _ l0_3 _ _ y518 t521 _ ?side1 ?side2 ?side3 ?side4 A55.out).mono ?_
               (case side1 => repeat (first | exact (Kd.C_below HR0_3.out HB.out) | (with_reducible refine Kd.C_alloc ?_ _) | (with_reducible refine Kd.C_drewN ?_ _) | (with_reducible refine Kd.C_drew ?_)))
               (case side2 => exact HC0_3.out)
               (case side3 => repeat (first | exact (Kd.R_reads' HO520.out).2.2 | (with_reducible refine Kd.C_alloc ?_ _) | (with_reducible refine Kd.C_drewN ?_ _) | (with_reducible refine Kd.C_drew ?_)))
               (case side4 => exact (Kd.R_reads' HO520.out).2.1)
               rintro e w65 ⟨rfl, hb⟩
               refine ⟨_, rfl, ?_⟩
               have n0_ := Aside0.mk (Kd.R_below (by (with_reducible repeat (first | apply Kd.R_alloc | apply Kd.R_drewN | apply Kd.R_drew)); exact HO_9.out) hb)
               have n1_ := Aside0.mk (Kd.N_below (by (with_reducible repeat (first | apply Kd.N_alloc | apply Kd.N_drewN | apply Kd.N_drew)); exact HO_62.out) hb)
               have n2_ := Aside0.mk (Kd.R_below (by (with_reducible repeat (first | apply Kd.R_alloc | apply Kd.R_drewN | apply Kd.R_drew)); exact HO520.out) hb)
               have n3_ := Aside0.mk (blk_below (g := gb499) (o := .cells #[.int .i64 a0_0, .int .i64 a0_1, .int .i64 a0_2, .slice A0_3 l0_3.length c0_3] 24 (0, 0)) (by (with_reducible repeat (first | refine blk_drewN ?_ _ | refine blk_drew ?_ | refine blk_alloc ?_ _)); exact BK499.out) hb)
               have n4_ := Aside0.mk (below_step (by repeat (first | (with_reducible first | exact HB.out | apply below_alloc | apply pw_below_drewN | apply below_drew1 | refine below_set ?_ GE499.out) | exact HB.out)) hb)
               clear HO_9
               clear HO_62
               clear HO520
               clear BK499
               clear HB
               have HO_9 := n0_
               have HO_62 := n1_
               have HO520 := n2_
               have BK499 := n3_
               have HB := n4_
               clear n0_ n1_ n2_ n3_ n4_
               (try clear hb)
               (try clear hb2)
               (try clear hk)
               (try clear hi)
               refine hK.out _ _ ⟨(blk_cell BK499.out 0).trans rfl, (blk_cell BK499.out 1).trans rfl, (blk_cell BK499.out 2).trans rfl, (blk_cell BK499.out 3).trans rfl⟩ (fun hHeld => ?_)
               clear hK K
               refine norm_ (a' := ?_) ?_ ?_
               rotate_left
               ·show Act.put _ (some 96) _ = _
                simp only [Act.put, List.setIfInBounds_toArray, List.set_cons_zero, List.set_cons_succ, i64_w, i32_w]
                rfl
               refine pure_ (i := 5) (N := some 19) (v := ?_) (a' := ?_) #[true, true, true, true, true, true] rfl rfl (by kernel_rfl) (fun _ _ _ h => h) (Or.inl ⟨by rfl, ?_⟩) ?_ ?_
               rotate_left
               ·intro w'
                go_simp
                with_reducible rfl
               rotate_left
               ·simp only [Act.put, List.setIfInBounds_toArray, List.set_cons_zero, List.set_cons_succ, i64_w, i32_w]
                rfl
               refine done_ (by kernel_rfl) ?_
               obtain ⟨Ao66, co66, eo66⟩ := Kd.R_slice HO_9.out
               subst eo66
               try go_wp2_with (first | (go_at_call 27; (with_reducible refine (chalklinelaw13_among.calls k3 _ _ x9_3 t502 t522 _ ?side1 ?side2 A57.out).mono ?_); (case side1 => repeat (first | exact (Kd.R_reads' HO_9.out).2.2 | (with_reducible refine Kd.C_alloc ?_ _) | (with_reducible refine Kd.C_drewN ?_ _) | (with_reducible refine Kd.C_drew ?_))); (case side2 => exact (Kd.R_reads' HO_9.out).2.1); rintro e w' ⟨rfl, ⟨nd, rfl⟩⟩) | (go_at_call 27; (with_reducible refine (chalklinelaw13_among.calls k3 _ _ x9_3 (wrap64 (-t502)) t523 _ ?side1 ?side2 A59.out).mono ?_); (case side1 => repeat (first | exact (Kd.R_reads' HO_9.out).2.2 | (with_reducible refine Kd.C_alloc ?_ _) | (with_reducible refine Kd.C_drewN ?_ _) | (with_reducible refine Kd.C_drew ?_))); (case side2 => exact (Kd.R_reads' HO_9.out).2.1); rintro e w' ⟨rfl, ⟨nd, rfl⟩⟩))
               go_ret
               exact ⟨by first | rfl | (simp [errW_none, errW_some] <;> rfl) | (simp [*, errW_none, errW_some] <;> rfl), by repeat (first | (with_reducible first | exact HB.out | apply below_alloc | apply pw_below_drewN | apply below_drew1 | refine below_set ?_ GE499.out) | exact HB.out)⟩
              ·rw [if_neg c58] at H
               exact absurd H (by simp)
             ·rw [if_neg c56] at H
              exact absurd H (by simp)
            ·rw [if_neg c54] at H
             exact absurd H (by simp)
     ·rw [if_neg c16] at H
      have c16b0 : (t507 == 0) = false := beq_eq_false_iff_ne.mpr c16
      have c16b1 : (t507 != 0) = true := bne_iff_ne.mpr c16
      obtain rfl := Option.some.inj H
      have hcz81_0 : wc.cell? ⟨gb499, 0, none⟩ = some (.int .i64 a0_0) := (blk_cell BK499.out 0).trans rfl
      have hcz81_1 : wc.cell? ⟨gb499, 1, none⟩ = some (.int .i64 a0_1) := (blk_cell BK499.out 1).trans rfl
      have hcz81_2 : wc.cell? ⟨gb499, 2, none⟩ = some (.int .i64 a0_2) := (blk_cell BK499.out 2).trans rfl
      have hcz81_3 : wc.cell? ⟨gb499, 3, none⟩ = some (.slice A0_3 l0_3.length c0_3) := (blk_cell BK499.out 3).trans rfl
      have hfz81_0 := blk_frozen BK499.out 0
      have hfz81_1 := blk_frozen BK499.out 1
      have hfz81_2 := blk_frozen BK499.out 2
      have hfz81_3 := blk_frozen BK499.out 3
      go_wp2_with (first | ((with_reducible refine gate_callee (f := 12) rfl ?_); refine goesL_ (some 35) rfl rfl Try.func12 (by kernel_rfl) rfl #[.agg #[.int .i64 a0_0, .int .i64 a0_1, .int .i64 a0_2, .slice A0_3 l0_3.length c0_3], .int .i64 (wrap64 ((l1.length : Int) + 1))] rfl (by (try simp only [List.map_toArray, List.map_cons, List.map_nil]); first | done | rfl | (simp only [List.length_drop, List.length_take]; rfl)) ?_; (with_reducible refine (gate_Gates.calls a0_0 a0_1 a0_2 _ _ l0_3 (wrap64 ((l1.length : Int) + 1)) t502 t503 t506 t507 _ ?side1 ?side2 A15.out).mono ?_); (case side1 => repeat (first | exact (Kd.C_below HR0_3.out HB.out) | (with_reducible refine Kd.C_alloc ?_ _) | (with_reducible refine Kd.C_drewN ?_ _) | (with_reducible refine Kd.C_drew ?_))); (case side2 => exact HC0_3.out); rintro e w82 ⟨v504, rfl, ho0, hb⟩; refine ⟨_, rfl, ?_⟩; have n0_ := Aside0.mk (Kd.N_lower (Kd.N_mono (ok' := fun k_ => k_ ≠ gb499) ho0 (fun k_ hk_ => (Kd.freshB (g := gb499) (o := .cells #[.int .i64 a0_0, .int .i64 a0_1, .int .i64 a0_2, .slice A0_3 l0_3.length c0_3] 24 (0, 0)) (by (with_reducible repeat (first | refine blk_drewN ?_ _ | refine blk_drew ?_ | refine blk_alloc ?_ _)); exact BK499.out) k_ hk_))) (below_size (by repeat (first | (with_reducible first | exact HB.out | apply below_alloc | apply pw_below_drewN | apply below_drew1 | refine below_set ?_ GE499.out) | exact HB.out)))); have n1_ := Aside0.mk (blk_below (g := gb499) (o := .cells #[.int .i64 a0_0, .int .i64 a0_1, .int .i64 a0_2, .slice A0_3 l0_3.length c0_3] 24 (0, 0)) (by (with_reducible repeat (first | refine blk_drewN ?_ _ | refine blk_drew ?_ | refine blk_alloc ?_ _)); exact BK499.out) hb); have n2_ := Aside0.mk (below_step (by repeat (first | (with_reducible first | exact HB.out | apply below_alloc | apply pw_below_drewN | apply below_drew1 | refine below_set ?_ GE499.out) | exact HB.out)) hb); clear BK499; clear HB; have HO505 := n0_; have BK499 := n1_; have HB := n2_; clear n0_ n1_ n2_; (try clear hb); (try clear hb2); (try clear hk); (try clear hi); (try clear ho0)))
      go_ret
      exact ⟨by first | rfl | (simp [errW_none, errW_some] <;> rfl) | (simp [*, errW_none, errW_some] <;> rfl), by repeat (first | (with_reducible first | exact HB.out | apply below_alloc | apply pw_below_drewN | apply below_drew1 | refine below_set ?_ GE499.out) | exact HB.out)⟩
 ·replace c4 := Bool.eq_false_iff.mpr c4
  subst c4
  have H1 : (none : Option Bool) = some r := by rw [if_neg (show ¬ (false = true) by decide)] at H; exact H
  exact absurd H1 (by simp)
end Go.Proofs.Ytkcmkoolcakfjaa.P

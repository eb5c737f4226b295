/- IndexFunc and wide. -/
import Derived.Test.YtkcmkoolcakfjaaHSpec
import Derived.Test.YtkcmkoolcakfjaaHAid
/- slices.IndexFunc and slices.ContainsFunc at []api.Tree, for whatever function value that has a contract. -/
namespace Go.Proofs.Ytkcmkoolcakfjaa.P
open Go.RowKit Go.Proofs.YtkcmkoolcakfjaaW.PrintWords Go.Proofs.YtkcmkoolcakfjaaW.PrintLast Go.Proofs.YtkcmkoolcakfjaaW.PrintMore Go.Proofs.Ytkcmkoolcakfjaa.Aid
set_option linter.unusedVariables false
set_option linter.unusedSimpArgs false

/-- The first place, or -1. -/
def idxF {α : Type} (p : α → Bool) : List α → Int → Int
  | [], _ => -1
  | x :: xs, i => if p x = true then i else idxF p xs (i + 1)
theorem idxF_any {α : Type} (p : α → Bool) (xs : List α) : ∀ i : Int, 0 ≤ i → decide (0 ≤ idxF p xs i) = xs.any p := by
  induction xs with
  | nil => intro i hi; rfl
  | cons x xs ih =>
    intro i hi
    simp only [idxF, List.any_cons]
    by_cases h : p x = true
    · simp [h, hi]
    · simp only [h, if_false, Bool.false_eq_true]
      rw [ih (i + 1) (by omega)]
      simp
theorem idxF_drop {α : Type} (p : α → Bool) (xs : List α) (z : α) (i : Int) (h0 : 0 ≤ i) (h1 : i < xs.length) : idxF p (xs.drop i.toNat) i = if p (xs.getD i.toNat z) = true then i else idxF p (xs.drop (i + 1).toNat) (i + 1) := by
  have e : (i + 1).toNat = i.toNat + 1 := by omega
  have hlt : i.toNat < xs.length := by omega
  rw [List.drop_eq_getElem_cons hlt, e]
  simp [idxF, List.getD_eq_getElem?_getD, List.getElem?_eq_getElem hlt]

set_option maxRecDepth 100000 in
set_option maxHeartbeats 1000000 in
theorem IndexFunc_tree.calls (fid : Nat) (cap : Array Value) (p : S24 → Bool) (A : Option Addr) (c : Nat) (ts : List S24) (w0 w : World) (hW : Below w0.heap.size w0 w) (hC : Kd.C k24 w0 A ts.length ts) (hc : ts.length ≤ c) (hl : ts.length ≤ 1048576)
    (hent : ∀ args w, (callFunc fid args).run Try.prog w = .ok (.enter fid args) w)
    (hp : ∀ x ∈ ts, ∀ A c W, Below w.heap.size w W → Kd.C k24 w0 A x.f3.length x.f3 → x.f3.length ≤ c → Calls Try.prog fid (#[.agg #[.int .i64 x.f0, .int .i64 x.f1, .int .i64 x.f2, .slice A x.f3.length c]] ++ cap) W fun e w' => e = .returned (.bool (p x)) ∧ Below W.heap.size W w') :
    Calls Try.prog 59 #[.slice A ts.length c, .func (.func fid) #[] cap] w fun e w' => e = .returned (.int .i64 (idxF p ts 0)) ∧ Below w.heap.size w w' := by
  have HW := Aside0.mk hW
  have HC := Aside0.mk hC
  have HENT := Aside0.mk hent
  have HP := Aside0.mk hp
  clear hW hC hent hp
  go_enter Try.func59, Try.ntmps59
  go_wp2_with fail
  go_loopw [8] (fun v8 wr => ∃ i : Int, 0 ≤ i ∧ i ≤ ts.length ∧ v8 = .int .i64 i ∧ Aside0 (idxF p ts 0 = idxF p (ts.drop i.toNat) i) ∧ Aside0 (Below w.heap.size w wr)) (fun v8 _ => (ts.length - intOf v8).toNat)
  case atStart => exact ⟨0, by omega, by omega, rfl, ⟨by simp⟩, ⟨Below.refl _ _⟩⟩
  case round =>
    obtain ⟨i, hi0, hi1, rfl, HX, HB⟩ := hrel
    by_cases hlt : i < ts.length
    · obtain ⟨ad, A3, c3, rfl, x0, x1, x2, x3, hl3, hi3⟩ := at_T24 HC.out i hi0 hlt
      have HBW0 := Aside0.mk (below_step HW.out HB.out)
      replace x0 := (HBW0.out.cell (World.block_lt_of_cell? w0 _ x0)).trans x0
      replace x1 := (HBW0.out.cell (World.block_lt_of_cell? w0 _ x1)).trans x1
      replace x2 := (HBW0.out.cell (World.block_lt_of_cell? w0 _ x2)).trans x2
      replace x3 := (HBW0.out.cell (World.block_lt_of_cell? w0 _ x3)).trans x3
      have HI3 := Aside0.mk hi3
      have hdr := idxF_drop p ts z24 i hi0 hlt
      have HDR := Aside0.mk hdr
      clear hi3 hdr
      have hmem : rd_T24 ts i ∈ ts := by
        unfold rd_T24
        rw [List.getD_eq_getElem?_getD, List.getElem?_eq_getElem (show i.toNat < ts.length by omega)]
        exact List.getElem_mem _
      have HCALL := Aside0.mk (HP.out _ hmem A3 c3 wr HB.out HI3.out hl3)
      have hent' := HENT.out
      clear hmem
      go_wp2_with fail
      clear x0 x1 x2 x3 HENT hent'
      by_cases hpx : p (rd_T24 ts i) = true
      · refine HCALL.out.mono ?_
        rintro e w2 ⟨rfl, hb⟩
        have HB2 := Aside0.mk (below_step HB.out hb)
        have HR : Aside0 (idxF p ts 0 = i) := ⟨by rw [HX.out, HDR.out]; exact if_pos hpx⟩
        clear hb HCALL HDR HX
        go_wp2_with fail
        go_ret
        exact ⟨by rw [HR.out]; rfl, HB2.out⟩
      · have hpf : p (rd_T24 ts i) = false := by simpa using hpx
        refine HCALL.out.mono ?_
        rintro e w2 ⟨rfl, hb⟩
        have HB2 := Aside0.mk (below_step HB.out hb)
        have HR : Aside0 (idxF p ts 0 = idxF p (ts.drop (i + 1).toNat) (i + 1)) := ⟨by rw [HX.out, HDR.out]; exact if_neg hpx⟩
        clear hb HCALL HDR HX
        go_wp2_with fail
        go_roundw
        case rel => exact ⟨i + 1, by omega, by omega, by go_num, HR, HB2⟩
        case measure => simp [intOf]; omega
    · have hi : i = ts.length := by omega
      subst hi
      have HR : Aside0 (idxF p ts 0 = -1) := ⟨by rw [HX.out, Int.toNat_natCast, List.drop_length]; rfl⟩
      clear hlt hi0 hi1 HX
      go_wp2_with fail
      go_ret
      exact ⟨by rw [HR.out]; rfl, HB.out⟩

set_option maxRecDepth 100000 in
set_option maxHeartbeats 1000000 in
theorem ContainsFunc_tree.calls (fid : Nat) (cap : Array Value) (p : S24 → Bool) (A : Option Addr) (c : Nat) (ts : List S24) (w0 w : World) (hW : Below w0.heap.size w0 w) (hC : Kd.C k24 w0 A ts.length ts) (hc : ts.length ≤ c) (hl : ts.length ≤ 1048576)
    (hent : ∀ args w, (callFunc fid args).run Try.prog w = .ok (.enter fid args) w)
    (hp : ∀ x ∈ ts, ∀ A c W, Below w.heap.size w W → Kd.C k24 w0 A x.f3.length x.f3 → x.f3.length ≤ c → Calls Try.prog fid (#[.agg #[.int .i64 x.f0, .int .i64 x.f1, .int .i64 x.f2, .slice A x.f3.length c]] ++ cap) W fun e w' => e = .returned (.bool (p x)) ∧ Below W.heap.size W w') :
    Calls Try.prog 41 #[.slice A ts.length c, .func (.func fid) #[] cap] w fun e w' => e = .returned (.bool (ts.any p)) ∧ Below w.heap.size w w' := by
  have HI := Aside0.mk (IndexFunc_tree.calls fid cap p A c ts w0 w hW hC hc hl hent hp)
  have HX := Aside0.mk (idxF_any p ts 0 (by omega))
  clear hW hC hent hp
  go_enter Try.func41, Try.ntmps41
  go_wp2_with (go_at_call 59; refine HI.out.mono ?_; rintro e w2 ⟨rfl, hb⟩; have HB := Aside0.mk hb; clear hb)
  go_ret
  exact ⟨by rw [← HX.out]; rfl, HB.out⟩
end Go.Proofs.Ytkcmkoolcakfjaa.P

/- gate.wide: has a node of a tree too many operands? -/
namespace Go.Proofs.Ytkcmkoolcakfjaa.P
open Go.RowKit Go.Proofs.YtkcmkoolcakfjaaW.PrintWords Go.Proofs.YtkcmkoolcakfjaaW.PrintLast Go.Proofs.YtkcmkoolcakfjaaW.PrintMore Go.Proofs.Ytkcmkoolcakfjaa.Aid
set_option linter.unusedVariables false
set_option linter.unusedSimpArgs false

theorem wideTs_any (ts : List S24) : wideTs ts = ts.any wideT := by
  induction ts with
  | nil => rfl
  | cons t ts ih => simp [wideTs, ih]
theorem sizeTs_mem {ts : List S24} : ∀ t ∈ ts, sizeT t ≤ sizeTs ts := by
  induction ts with
  | nil => intro t ht; cases ht
  | cons a ts ih =>
    intro t ht
    rcases List.mem_cons.1 ht with rfl | ht
    · simp [sizeTs]
    · have := ih t ht; simp only [sizeTs]; omega
theorem sizeTs_length (ts : List S24) : ts.length ≤ sizeTs ts := by
  induction ts with
  | nil => simp [sizeTs]
  | cons t ts ih =>
    have : 1 ≤ sizeT t := by cases t; simp [sizeT]
    simp only [sizeTs, List.length_cons]
    omega

set_option maxRecDepth 100000 in
set_option maxHeartbeats 1000000 in
theorem wide.calls (N : Nat) (hN : N ≤ 1048576) : ∀ (T : S24) (A : Option Addr) (c : Nat) (w0 w : World), sizeT T ≤ N → Below w0.heap.size w0 w → Kd.C k24 w0 A T.f3.length T.f3 → T.f3.length ≤ c →
    Calls Try.prog 53 #[.agg #[.int .i64 T.f0, .int .i64 T.f1, .int .i64 T.f2, .slice A T.f3.length c]] w fun e w' => e = .returned (.bool (wideT T)) ∧ Below w.heap.size w w' := by
  induction N with
  | zero => intro T; intros; have : 1 ≤ sizeT T := by { cases T; simp [sizeT] }; omega
  | succ N ih =>
    rintro ⟨kind, v, q, ts⟩ A c w0 w hsz hW hC hc
    simp only at hC hc ⊢
    have hlen : ts.length ≤ 1048576 := by have := sizeTs_length ts; simp only [sizeT] at hsz; omega
    by_cases h1 : 4095 < ts.length
    · have hT : wideT ⟨kind, v, q, ts⟩ = true := by simp [wideT, h1]
      have HT := Aside0.mk hT
      clear hT hC hW ih
      have h1' : (4095 : Int) < ts.length := by omega
      have h1b : decide ((4095 : Int) < ts.length) = true := decide_eq_true h1'
      go_enter Try.func53, Try.ntmps53
      go_wp2_with fail
      go_ret
      exact ⟨by rw [HT.out]; rfl, below_alloc (Below.refl _ _) _⟩
    · have hT : wideT ⟨kind, v, q, ts⟩ = ts.any wideT := by simp [wideT, h1, wideTs_any]
      have HT := Aside0.mk hT
      have h1b : decide ((4095 : Int) < ts.length) = false := decide_eq_false (by omega)
      have hb0 := below_alloc (Below.refl w.heap.size w) (.cells #[.int .i64 kind, .int .i64 v, .int .i64 q, .slice A ts.length c] 24)
      have HI := Aside0.mk (ContainsFunc_tree.calls 53 #[] wideT A c ts w0 _ (below_step hW hb0) hC hc hlen (fun args w => enters_ Try.func53 (by kernel_rfl) rfl args w) (fun x hx A' c' W hW' hC' hc' => by
        have := sizeTs_mem x hx
        simp only [sizeT] at hsz
        exact ih (by omega) x A' c' w0 W (by omega) (below_step (below_step hW hb0) hW') hC' hc'))
      have HB0 := Aside0.mk hb0
      clear hT hC hW ih hb0
      go_enter Try.func53, Try.ntmps53
      go_wp2_with (go_at_call 41; refine HI.out.mono ?_; rintro e w2 ⟨rfl, hb⟩; have HB := Aside0.mk (below_step HB0.out hb); clear hb)
      go_ret
      exact ⟨by rw [HT.out]; rfl, HB.out⟩
end Go.Proofs.Ytkcmkoolcakfjaa.P

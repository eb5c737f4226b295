/- flat.kept and flat.Value: a ground formula's value under an assignment. -/
import Derived.Test.YtkcmkoolcakfjaaDoorHWide
/- flat.kept at api.Tree, for whatever function value that has a contract. -/
namespace Go.Proofs.YtkcmkoolcakfjaaDoor.P
open Go.RowKit Go.Proofs.YtkcmkoolcakfjaaDoorW.PrintWords Go.Proofs.YtkcmkoolcakfjaaDoorW.PrintLast Go.Proofs.YtkcmkoolcakfjaaDoorW.PrintMore Go.Proofs.YtkcmkoolcakfjaaDoor.Aid
set_option linter.unusedVariables false
set_option linter.unusedSimpArgs false

theorem info24k_ : (Tryd.prog.info? 24).map (fun i => (i.zero, i.size, i.bytes)) = some (some (.agg #[.int .i64 0, .int .i64 0, .int .i64 0, .slice none 0 0]), 4, 48) := by kernel_rfl
theorem heap24k : Kd.Heap k24 := Kd.heap_fix (fun d hd => Kd.heap_iso _ (Kd.heap_pair (Kd.heap_int _) (Kd.heap_pair (Kd.heap_int _) (Kd.heap_pair (Kd.heap_int _) (Kd.heap_slice 24 hd)))))
theorem take_filter_snoc {ts : List S24} {p : S24 → Bool} {i : Nat} (h : i < ts.length) : (ts.take (i + 1)).filter p = (ts.take i).filter p ++ if p (rd_T24 ts i) = true then [rd_T24 ts i] else [] := by
  have e : rd_T24 ts i = ts[i] := by unfold rd_T24; rw [Int.toNat_natCast, List.getD_eq_getElem?_getD, List.getElem?_eq_getElem h]; rfl
  rw [List.take_succ_eq_append_getElem h, List.filter_append, e]
  congr 1
  by_cases hp : p ts[i] = true <;> simp [hp]

set_option maxRecDepth 100000 in
set_option maxHeartbeats 2000000 in
theorem kept.calls (fid : Nat) (cap : Array Value) (p : S24 → Bool) (A : Option Addr) (c : Nat) (ts : List S24) (w0 w : World) (hW : Below w0.heap.size w0 w) (hC : Kd.C k24 w0 A ts.length ts) (hl : ts.length ≤ 1048576)
    (hent : ∀ args w, (callFunc fid args).run Tryd.prog w = .ok (.enter fid args) w)
    (hp : ∀ x ∈ ts, ∀ A c W, Below w.heap.size w W → Kd.C k24 w0 A x.f3.length x.f3 → x.f3.length ≤ c → Calls Tryd.prog fid (#[.agg #[.int .i64 x.f0, .int .i64 x.f1, .int .i64 x.f2, .slice A x.f3.length c]] ++ cap) W fun e w' => e = .returned (.bool (p x)) ∧ Below W.heap.size W w') :
    Calls Tryd.prog 26 #[.slice A ts.length c, .func (.func fid) #[] cap] w fun e w' => ∃ v, e = .returned v ∧ Kd.N k24 24 w' w.heap.size (fun _ => True) v (ts.filter p) ∧ Below w.heap.size w w' := by
  have HW := Aside0.mk hW
  have HC := Aside0.mk hC
  have HENT := Aside0.mk hent
  have HP := Aside0.mk hp
  clear hW hC hent hp
  go_enter Tryd.func26, Tryd.ntmps26
  go_wp2_with fail
  go_loopw [4, 9] (fun v4 v9 wr => ∃ i : Nat, i ≤ ts.length ∧ v9 = .int .i64 i ∧ Aside0 (Kd.N k24 24 wr w.heap.size (fun _ => True) v4 ((ts.take i).filter p)) ∧ Aside0 (Below w.heap.size w wr)) (fun _ v9 _ => (ts.length - intOf v9).toNat)
  case atStart => exact ⟨0, by omega, rfl, ⟨by rw [List.take_zero]; exact Kd.N_nil _ _ _ _ _⟩, ⟨Below.refl _ _⟩⟩
  case round =>
    obtain ⟨i, hi1, rfl, HN, HB⟩ := hrel
    by_cases hlt : i < ts.length
    · obtain ⟨ad, A3, c3, rfl, x0, x1, x2, x3, hl3, hi3⟩ := at_T24 HC.out i (by omega) (by omega)
      have HBW := Aside0.mk (below_step HW.out HB.out)
      replace x0 := (HBW.out.cell (World.block_lt_of_cell? w0 _ x0)).trans x0
      replace x1 := (HBW.out.cell (World.block_lt_of_cell? w0 _ x1)).trans x1
      replace x2 := (HBW.out.cell (World.block_lt_of_cell? w0 _ x2)).trans x2
      replace x3 := (HBW.out.cell (World.block_lt_of_cell? w0 _ x3)).trans x3
      simp only [Int.toNat_natCast] at x0 x1 x2 x3
      have HI3 := Aside0.mk hi3
      have hmem : rd_T24 ts i ∈ ts := by
        unfold rd_T24
        rw [List.getD_eq_getElem?_getD, List.getElem?_eq_getElem (show (i : Int).toNat < ts.length by omega)]
        exact List.getElem_mem _
      have HBX := Aside0.mk (blk_new wr (.cells #[.int .i64 (rd_T24 ts i).f0, .int .i64 (rd_T24 ts i).f1, .int .i64 (rd_T24 ts i).f2, .slice A3 (rd_T24 ts i).f3.length c3] 24))
      have HB1 := Aside0.mk (below_alloc HB.out (.cells #[.int .i64 (rd_T24 ts i).f0, .int .i64 (rd_T24 ts i).f1, .int .i64 (rd_T24 ts i).f2, .slice A3 (rd_T24 ts i).f3.length c3] 24))
      have HCALL := Aside0.mk (HP.out _ hmem A3 c3 _ HB1.out HI3.out hl3)
      have HS := Aside0.mk (take_filter_snoc (p := p) hlt)
      have hent' := HENT.out
      clear hi3 hmem
      go_wp2_with fail
      clear x0 x1 x2 x3 HENT hent'
      obtain ⟨q, hq⟩ : ∃ q, p (rd_T24 ts i) = q := ⟨_, rfl⟩
      rw [hq] at HCALL HS
      refine HCALL.out.mono ?_
      rintro e w2 ⟨rfl, hb⟩
      have HB2 := Aside0.mk (below_step HB1.out hb)
      have HBX2 := Aside0.mk (blk_below HBX.out hb)
      have HN2 := Aside0.mk (Kd.N_below HN.out (below_step (below_alloc (Below.refl wr.heap.size wr) _) hb))
      clear hb HCALL HBX HN HB1 hq
      cases q
      · go_wp2_with fail
        go_roundw
        case rel => exact ⟨i + 1, by omega, by go_num, ⟨by rw [HS.out]; simpa using HN2.out⟩, HB2⟩
        case measure => simp [intOf]; omega
      · have y0 : w2.cell? ⟨wr.heap.size, 0, none⟩ = some (.int .i64 (rd_T24 ts i).f0) := (blk_cell HBX2.out 0).trans rfl
        have y1 : w2.cell? ⟨wr.heap.size, 1, none⟩ = some (.int .i64 (rd_T24 ts i).f1) := (blk_cell HBX2.out 1).trans rfl
        have y2 : w2.cell? ⟨wr.heap.size, 2, none⟩ = some (.int .i64 (rd_T24 ts i).f2) := (blk_cell HBX2.out 2).trans rfl
        have y3 : w2.cell? ⟨wr.heap.size, 3, none⟩ = some (.slice A3 (rd_T24 ts i).f3.length c3) := (blk_cell HBX2.out 3).trans rfl
        have HFK := Aside0.mk (Kd.FK_below (k24_mkF w0 (fun k => k < w0.heap.size) (rd_T24 ts i) hl3 (Kd.C_F heap24k HI3.out)) (below_step HW.out HB2.out))
        have hlen : ((ts.take i).filter p).length ≤ 1048576 := by
          have h1 := List.length_filter_le p (ts.take i)
          have h2 := List.length_take_le i ts
          omega
        have HLEN := Aside0.mk hlen
        clear hlen
        go_wp2_with (at_builtin; refine Kd.N_append k24 (w0 := w) w.heap.size rfl (.tmp 16) (.tmp 18) 22 24 (.agg #[.int .i64 0, .int .i64 0, .int .i64 0, .slice none 0 0]) 48 rfl Tryd.underlying22 info24k_ rfl (by decide) (by omega) _ ((ts.take i).filter p) (rd_T24 ts i) [.int .i64 (rd_T24 ts i).f0, .int .i64 (rd_T24 ts i).f1, .int .i64 (rd_T24 ts i).f2, .slice A3 (rd_T24 ts i).f3.length c3] (fun _ => True) (fun k => k < w0.heap.size) rfl rfl HFK.out (fun k hk => ⟨trivial, fun e => by have h1 := Kd.N_base HN2.out k e.symm; have h2 := HW.out.size; omega⟩) (fun _ _ => trivial) HN2.out HB2.out HB2.out.size (by have := HLEN.out; omega) ?_; intro v9 w9 hN9 hb9 _ _; have HN9 := Aside0.mk hN9; have HB9 := Aside0.mk hb9; clear hN9 hb9 y0 y1 y2 y3)
        go_roundw
        case rel => exact ⟨i + 1, by omega, by go_num, ⟨by rw [HS.out]; exact HN9.out⟩, HB9⟩
        case measure => simp [intOf]; omega
    · have hi : i = ts.length := by omega
      subst hi
      rw [List.take_length] at HN
      go_wp2_with fail
      go_ret
      exact ⟨_, rfl, HN.out, HB.out⟩
end Go.Proofs.YtkcmkoolcakfjaaDoor.P

/- flat.Value: a ground formula's value under an assignment. -/
namespace Go.Proofs.YtkcmkoolcakfjaaDoor.P
open Go.RowKit Go.Proofs.YtkcmkoolcakfjaaDoorW.PrintWords Go.Proofs.YtkcmkoolcakfjaaDoorW.PrintLast Go.Proofs.YtkcmkoolcakfjaaDoorW.PrintMore Go.Proofs.YtkcmkoolcakfjaaDoor.Aid
set_option linter.unusedVariables false
set_option linter.unusedSimpArgs false

mutual
/-- A ground formula's value. -/
def valF : S24 → List Bool → Bool
  | ⟨kind, v, q, l⟩, a =>
    if kind = 1 then v == 1 else
    if kind = 2 then decide (0 < v) && (decide (v < (a.length : Int)) && rdOf false a v) else
    if kind = 3 then !(anyF l a) else
    if kind = 4 then (cntF l a : Int) == (l.length : Int) else
    if kind = 5 then anyF l a else
    if kind = 6 then decide (q ≤ (cntF l a : Int)) else false
def anyF : List S24 → List Bool → Bool
  | [], _ => false
  | t :: ts, a => valF t a || anyF ts a
/-- How many are true. -/
def cntF : List S24 → List Bool → Nat
  | [], _ => 0
  | t :: ts, a => (if valF t a = true then 1 else 0) + cntF ts a
end
theorem anyF_any (ts : List S24) (a : List Bool) : anyF ts a = ts.any fun t => valF t a := by
  induction ts with
  | nil => rfl
  | cons t ts ih => simp [anyF, ih]
theorem cntF_filter (ts : List S24) (a : List Bool) : cntF ts a = (ts.filter fun t => valF t a).length := by
  induction ts with
  | nil => rfl
  | cons t ts ih =>
    by_cases h : valF t a = true
    · simp [cntF, ih, h]; omega
    · simp [cntF, ih, h]
end Go.Proofs.YtkcmkoolcakfjaaDoor.P

/- flat.kept and flat.Value: a ground formula's value under an assignment. -/
import Derived.Test.YtkcmkoolcakfjaaHWide
/- flat.kept at api.Tree, for whatever function value that has a contract. -/
namespace Go.Proofs.Ytkcmkoolcakfjaa.P
open Go.RowKit Go.Proofs.YtkcmkoolcakfjaaW.PrintWords Go.Proofs.YtkcmkoolcakfjaaW.PrintLast Go.Proofs.YtkcmkoolcakfjaaW.PrintMore Go.Proofs.Ytkcmkoolcakfjaa.Aid
set_option linter.unusedVariables false
set_option linter.unusedSimpArgs false

theorem info24k_ : (Try.prog.info? 24).map (fun i => (i.zero, i.size, i.bytes)) = some (some (.agg #[.int .i64 0, .int .i64 0, .int .i64 0, .slice none 0 0]), 4, 48) := by kernel_rfl
theorem heap24k : Kd.Heap k24 := Kd.heap_fix (fun d hd => Kd.heap_iso _ (Kd.heap_pair (Kd.heap_int _) (Kd.heap_pair (Kd.heap_int _) (Kd.heap_pair (Kd.heap_int _) (Kd.heap_slice 24 hd)))))
theorem take_filter_snoc {ts : List S24} {p : S24 → Bool} {i : Nat} (h : i < ts.length) : (ts.take (i + 1)).filter p = (ts.take i).filter p ++ if p (rd_T24 ts i) = true then [rd_T24 ts i] else [] := by
  have e : rd_T24 ts i = ts[i] := by unfold rd_T24; rw [Int.toNat_natCast, List.getD_eq_getElem?_getD, List.getElem?_eq_getElem h]; rfl
  rw [List.take_succ_eq_append_getElem h, List.filter_append, e]
  congr 1
  by_cases hp : p ts[i] = true <;> simp [hp]

set_option maxRecDepth 100000 in
set_option maxHeartbeats 2000000 in
theorem kept.calls (fid : Nat) (cap : Array Value) (p : S24 → Bool) (A : Option Addr) (c : Nat) (ts : List S24) (w0 w : World) (hW : Below w0.heap.size w0 w) (hC : Kd.C k24 w0 A ts.length ts) (hl : ts.length ≤ 1048576)
    (hent : ∀ args w, (callFunc fid args).run Try.prog w = .ok (.enter fid args) w)
    (hp : ∀ x ∈ ts, ∀ A c W, Below w.heap.size w W → Kd.C k24 w0 A x.f3.length x.f3 → x.f3.length ≤ c → Calls Try.prog fid (#[.agg #[.int .i64 x.f0, .int .i64 x.f1, .int .i64 x.f2, .slice A x.f3.length c]] ++ cap) W fun e w' => e = .returned (.bool (p x)) ∧ Below W.heap.size W w') :
    Calls Try.prog 42 #[.slice A ts.length c, .func (.func fid) #[] cap] w fun e w' => ∃ v, e = .returned v ∧ Kd.N k24 24 w' w.heap.size (fun _ => True) v (ts.filter p) ∧ Below w.heap.size w w' := by
  have HW := Aside0.mk hW
  have HC := Aside0.mk hC
  have HENT := Aside0.mk hent
  have HP := Aside0.mk hp
  clear hW hC hent hp
  go_enter Try.func42, Try.ntmps42
  go_wp2_with fail
  go_loopw [4, 9] (fun v4 v9 wr => ∃ i : Nat, i ≤ ts.length ∧ v9 = .int .i64 i ∧ Aside0 (Kd.N k24 24 wr w.heap.size (fun _ => True) v4 ((ts.take i).filter p)) ∧ Aside0 (Below w.heap.size w wr)) (fun _ v9 _ => (ts.length - intOf v9).toNat)
  case atStart => exact ⟨0, by omega, rfl, ⟨by rw [List.take_zero]; exact Kd.N_nil _ _ _ _ _⟩, ⟨Below.refl _ _⟩⟩
  case round =>
    obtain ⟨i, hi1, rfl, HN, HB⟩ := hrel
    by_cases hlt : i < ts.length
    · obtain ⟨ad, A3, c3, rfl, x0, x1, x2, x3, hl3, hi3⟩ := at_T24 HC.out i (by omega) (by omega)
      have HBW := Aside0.mk (below_step HW.out HB.out)
      replace x0 := (HBW.out.cell (World.block_lt_of_cell? w0 _ x0)).trans x0
      replace x1 := (HBW.out.cell (World.block_lt_of_cell? w0 _ x1)).trans x1
      replace x2 := (HBW.out.cell (World.block_lt_of_cell? w0 _ x2)).trans x2
      replace x3 := (HBW.out.cell (World.block_lt_of_cell? w0 _ x3)).trans x3
      simp only [Int.toNat_natCast] at x0 x1 x2 x3
      have HI3 := Aside0.mk hi3
      have hmem : rd_T24 ts i ∈ ts := by
        unfold rd_T24
        rw [List.getD_eq_getElem?_getD, List.getElem?_eq_getElem (show (i : Int).toNat < ts.length by omega)]
        exact List.getElem_mem _
      have HBX := Aside0.mk (blk_new wr (.cells #[.int .i64 (rd_T24 ts i).f0, .int .i64 (rd_T24 ts i).f1, .int .i64 (rd_T24 ts i).f2, .slice A3 (rd_T24 ts i).f3.length c3] 24))
      have HB1 := Aside0.mk (below_alloc HB.out (.cells #[.int .i64 (rd_T24 ts i).f0, .int .i64 (rd_T24 ts i).f1, .int .i64 (rd_T24 ts i).f2, .slice A3 (rd_T24 ts i).f3.length c3] 24))
      have HCALL := Aside0.mk (HP.out _ hmem A3 c3 _ HB1.out HI3.out hl3)
      have HS := Aside0.mk (take_filter_snoc (p := p) hlt)
      have hent' := HENT.out
      clear hi3 hmem
      go_wp2_with fail
      clear x0 x1 x2 x3 HENT hent'
      obtain ⟨q, hq⟩ : ∃ q, p (rd_T24 ts i) = q := ⟨_, rfl⟩
      rw [hq] at HCALL HS
      refine HCALL.out.mono ?_
      rintro e w2 ⟨rfl, hb⟩
      have HB2 := Aside0.mk (below_step HB1.out hb)
      have HBX2 := Aside0.mk (blk_below HBX.out hb)
      have HN2 := Aside0.mk (Kd.N_below HN.out (below_step (below_alloc (Below.refl wr.heap.size wr) _) hb))
      clear hb HCALL HBX HN HB1 hq
      cases q
      · go_wp2_with fail
        go_roundw
        case rel => exact ⟨i + 1, by omega, by go_num, ⟨by rw [HS.out]; simpa using HN2.out⟩, HB2⟩
        case measure => simp [intOf]; omega
      · have y0 : w2.cell? ⟨wr.heap.size, 0, none⟩ = some (.int .i64 (rd_T24 ts i).f0) := (blk_cell HBX2.out 0).trans rfl
        have y1 : w2.cell? ⟨wr.heap.size, 1, none⟩ = some (.int .i64 (rd_T24 ts i).f1) := (blk_cell HBX2.out 1).trans rfl
        have y2 : w2.cell? ⟨wr.heap.size, 2, none⟩ = some (.int .i64 (rd_T24 ts i).f2) := (blk_cell HBX2.out 2).trans rfl
        have y3 : w2.cell? ⟨wr.heap.size, 3, none⟩ = some (.slice A3 (rd_T24 ts i).f3.length c3) := (blk_cell HBX2.out 3).trans rfl
        have HFK := Aside0.mk (Kd.FK_below (k24_mkF w0 (fun k => k < w0.heap.size) (rd_T24 ts i) hl3 (Kd.C_F heap24k HI3.out)) (below_step HW.out HB2.out))
        have hlen : ((ts.take i).filter p).length ≤ 1048576 := by
          have h1 := List.length_filter_le p (ts.take i)
          have h2 := List.length_take_le i ts
          omega
        have HLEN := Aside0.mk hlen
        clear hlen
        go_wp2_with (at_builtin; refine Kd.N_append k24 (w0 := w) w.heap.size rfl (.tmp 16) (.tmp 18) 22 24 (.agg #[.int .i64 0, .int .i64 0, .int .i64 0, .slice none 0 0]) 48 rfl Try.underlying22 info24k_ rfl (by decide) (by omega) _ ((ts.take i).filter p) (rd_T24 ts i) [.int .i64 (rd_T24 ts i).f0, .int .i64 (rd_T24 ts i).f1, .int .i64 (rd_T24 ts i).f2, .slice A3 (rd_T24 ts i).f3.length c3] (fun _ => True) (fun k => k < w0.heap.size) rfl rfl HFK.out (fun k hk => ⟨trivial, fun e => by have h1 := Kd.N_base HN2.out k e.symm; have h2 := HW.out.size; omega⟩) (fun _ _ => trivial) HN2.out HB2.out HB2.out.size (by have := HLEN.out; omega) ?_; intro v9 w9 hN9 hb9 _ _; have HN9 := Aside0.mk hN9; have HB9 := Aside0.mk hb9; clear hN9 hb9 y0 y1 y2 y3)
        go_roundw
        case rel => exact ⟨i + 1, by omega, by go_num, ⟨by rw [HS.out]; exact HN9.out⟩, HB9⟩
        case measure => simp [intOf]; omega
    · have hi : i = ts.length := by omega
      subst hi
      rw [List.take_length] at HN
      go_wp2_with fail
      go_ret
      exact ⟨_, rfl, HN.out, HB.out⟩
end Go.Proofs.Ytkcmkoolcakfjaa.P

/- flat.Value: a ground formula's value under an assignment. -/
namespace Go.Proofs.Ytkcmkoolcakfjaa.P
open Go.RowKit Go.Proofs.YtkcmkoolcakfjaaW.PrintWords Go.Proofs.YtkcmkoolcakfjaaW.PrintLast Go.Proofs.YtkcmkoolcakfjaaW.PrintMore Go.Proofs.Ytkcmkoolcakfjaa.Aid
set_option linter.unusedVariables false
set_option linter.unusedSimpArgs false

mutual
/-- A ground formula's value. -/
def valF : S24 → List Bool → Bool
  | ⟨kind, v, q, l⟩, a =>
    if kind = 1 then v == 1 else
    if kind = 2 then decide (0 < v) && (decide (v < (a.length : Int)) && rdOf false a v) else
    if kind = 3 then !(anyF l a) else
    if kind = 4 then (cntF l a : Int) == (l.length : Int) else
    if kind = 5 then anyF l a else
    if kind = 6 then decide (q ≤ (cntF l a : Int)) else false
def anyF : List S24 → List Bool → Bool
  | [], _ => false
  | t :: ts, a => valF t a || anyF ts a
/-- How many are true. -/
def cntF : List S24 → List Bool → Nat
  | [], _ => 0
  | t :: ts, a => (if valF t a = true then 1 else 0) + cntF ts a
end
theorem anyF_any (ts : List S24) (a : List Bool) : anyF ts a = ts.any fun t => valF t a := by
  induction ts with
  | nil => rfl
  | cons t ts ih => simp [anyF, ih]
theorem cntF_filter (ts : List S24) (a : List Bool) : cntF ts a = (ts.filter fun t => valF t a).length := by
  induction ts with
  | nil => rfl
  | cons t ts ih =>
    by_cases h : valF t a = true
    · simp [cntF, ih, h]; omega
    · simp [cntF, ih, h]
set_option maxRecDepth 100000 in
set_option maxHeartbeats 4000000 in
theorem value.calls (N : Nat) (hN : N ≤ 1048576) (a : List Bool) (hla : a.length ≤ 1099511627776) : ∀ (T : S24) (A : Option Addr) (c : Nat) (A2 : Option Addr) (c2 : Nat) (w0 w : World), sizeT T ≤ N → Below w0.heap.size w0 w → Kd.C k24 w0 A T.f3.length T.f3 → T.f3.length ≤ c → Kd.C Kd.bool w0 A2 a.length a → a.length ≤ c2 →
    Calls Try.prog 22 #[.agg #[.int .i64 T.f0, .int .i64 T.f1, .int .i64 T.f2, .slice A T.f3.length c], .slice A2 a.length c2] w fun e w' => e = .returned (.bool (valF T a)) ∧ Below w.heap.size w w' := by
  have hmf : ∀ (fn : Fn) (first cap : Array Value) (w : World), (Instr.makeFunc fn first cap).run Try.prog w = .ok (.func fn first cap) w := fun _ _ _ _ => rfl
  induction N with
  | zero => intro T; intros; have : 1 ≤ sizeT T := by { cases T; simp [sizeT] }; omega
  | succ N ih =>
    rintro ⟨kind, v, q, ts⟩ A c A2 c2 w0 w hsz hW hC hc hC2 hc2
    simp only at hC hc ⊢
    have hlen : ts.length ≤ 1048576 := by have := sizeTs_length ts; simp only [sizeT] at hsz; omega
    have hb0 := below_alloc (below_alloc (Below.refl w.heap.size w) (.cells #[.int .i64 kind, .int .i64 v, .int .i64 q, .slice A ts.length c] 24)) (.cells #[.slice A2 a.length c2] 43)
    have hx0 := blk_alloc (blk_new w (.cells #[.int .i64 kind, .int .i64 v, .int .i64 q, .slice A ts.length c] 24)) (.cells #[.slice A2 a.length c2] 43)
    have ha0 : ((w.alloc (.cells #[.int .i64 kind, .int .i64 v, .int .i64 q, .slice A ts.length c] 24)).alloc (.cells #[.slice A2 a.length c2] 43)).heap[w.heap.size + 1]? = some (.cells #[.slice A2 a.length c2] 43 (0, 0)) := by
      have h := blk_new (w.alloc (.cells #[.int .i64 kind, .int .i64 v, .int .i64 q, .slice A ts.length c] 24)) (.cells #[.slice A2 a.length c2] 43)
      rwa [World.size_alloc] at h
    have HB0 := Aside0.mk hb0
    have HX0 := Aside0.mk hx0
    have HA0 := Aside0.mk ha0
    have HC2 := Aside0.mk hC2
    have HW := Aside0.mk hW
    have HIS : Aside0 (∀ x ∈ ts, ∀ A' c' W, Below w.heap.size w W → W.heap[w.heap.size + 1]? = some (.cells #[.slice A2 a.length c2] 43 (0, 0)) → Kd.C k24 w0 A' x.f3.length x.f3 → x.f3.length ≤ c' → Calls Try.prog 40 (#[.agg #[.int .i64 x.f0, .int .i64 x.f1, .int .i64 x.f2, .slice A' x.f3.length c']] ++ #[.pointer (some ⟨w.heap.size + 1, 0, none⟩)]) W fun e w' => e = .returned (.bool (valF x a)) ∧ Below W.heap.size W w') := ⟨fun x hx A' c' W hW' hbx hC' hc' => by
      have hm := sizeTs_mem x hx
      have hs : sizeT x ≤ N := by simp only [sizeT] at hsz; omega
      have hb1 := below_alloc (Below.refl W.heap.size W) (.cells #[.int .i64 x.f0, .int .i64 x.f1, .int .i64 x.f2, .slice A' x.f3.length c'] 24)
      have HCALL := Aside0.mk (ih (by omega) x A' c' A2 c2 w0 _ hs (below_step (below_step hW hW') hb1) hC' hc' hC2 hc2)
      have z0 : W.cell? ⟨w.heap.size + 1, 0, none⟩ = some (.slice A2 a.length c2) := (blk_cell hbx 0).trans rfl
      have HB1 := Aside0.mk hb1
      have hlt : w.heap.size + 1 < W.heap.size := blk_lt hbx
      clear ih hbx hC' hW' hx hm HB0 HX0 HA0 HC2 HW hC hC2 hW hb0 hx0 ha0 hb1 hsz hmf
      show Calls Try.prog 40 #[.agg #[.int .i64 x.f0, .int .i64 x.f1, .int .i64 x.f2, .slice A' x.f3.length c'], .pointer (some ⟨w.heap.size + 1, 0, none⟩)] W _
      go_enter Try.func40, Try.ntmps40
      go_wp2_with (go_at_call 22; refine HCALL.out.mono ?_; rintro e w2 ⟨rfl, hb⟩; have HB := Aside0.mk (below_step HB1.out hb); clear hb)
      go_ret
      exact ⟨rfl, HB.out⟩⟩
    have HANY : Aside0 (∀ W, Below w.heap.size w W → W.heap[w.heap.size + 1]? = some (.cells #[.slice A2 a.length c2] 43 (0, 0)) → Calls Try.prog 41 #[.slice A ts.length c, (.func (.func 40) #[] #[.pointer (some ⟨w.heap.size + 1, 0, none⟩)])] W fun e w' => e = .returned (.bool (anyF ts a)) ∧ Below W.heap.size W w') := ⟨fun W hW1 hbx => by
      rw [anyF_any]
      exact ContainsFunc_tree.calls 40 _ (fun t => valF t a) A c ts w0 W (below_step HW.out hW1) hC hc hlen (fun args w => enters_ Try.func40 (by kernel_rfl) rfl args w) (fun x hx A' c' W' hW' hC' hc' => HIS.out x hx A' c' W' (below_step hW1 hW') (blk_below hbx hW') hC' hc')⟩
    have HKEPT : Aside0 (∀ W, Below w.heap.size w W → W.heap[w.heap.size + 1]? = some (.cells #[.slice A2 a.length c2] 43 (0, 0)) → Calls Try.prog 42 #[.slice A ts.length c, (.func (.func 40) #[] #[.pointer (some ⟨w.heap.size + 1, 0, none⟩)])] W fun e w' => ∃ v, e = .returned v ∧ Kd.N k24 24 w' W.heap.size (fun _ => True) v (ts.filter fun t => valF t a) ∧ Below W.heap.size W w') := ⟨fun W hW1 hbx =>
      kept.calls 40 _ (fun t => valF t a) A c ts w0 W (below_step HW.out hW1) hC hlen (fun args w => enters_ Try.func40 (by kernel_rfl) rfl args w) (fun x hx A' c' W' hW' hC' hc' => HIS.out x hx A' c' W' (below_step hW1 hW') (blk_below hbx hW') hC' hc')⟩
    have HCNT := Aside0.mk (cntF_filter ts a)
    have hfl : (ts.filter fun t => valF t a).length ≤ 1048576 := Nat.le_trans (List.length_filter_le _ _) hlen
    have HW0_ := Aside0.mk hW
    clear hC hW hb0 hx0 ha0 hC2 ih HIS HW
    by_cases k1 : kind = 1
    · subst k1
      have HV : Aside0 (valF ⟨1, v, q, ts⟩ a = (v == 1)) := ⟨by rw [valF]; rfl⟩
      clear HKEPT HANY HCNT
      go_enter Try.func22, Try.ntmps22
      go_wp2_with fail
      go_ret
      exact ⟨by rw [HV.out]; rfl, HB0.out⟩
    · have k1b : (kind == 1) = false := by simpa using k1
      by_cases k2 : kind = 2
      · subst k2
        have HV : Aside0 (valF ⟨2, v, q, ts⟩ a = (decide (0 < v) && (decide (v < (a.length : Int)) && rdOf false a v))) := ⟨by rw [valF]; rfl⟩
        clear HKEPT HANY HCNT
        by_cases h1 : 0 < v
        · by_cases h2 : v < (a.length : Int)
          · obtain ⟨ad, rfl, x0⟩ := Kd.at_bool HC2.out v (by omega) h2
            replace HV : Aside0 (valF ⟨2, v, q, ts⟩ a = rdOf false a v) := ⟨by rw [HV.out, decide_eq_true h1, decide_eq_true h2]; rfl⟩
            have x0' : w.cell? (ad.add v.toNat) = some (.bool (rdOf false a v)) := (HW0_.out.cell (World.block_lt_of_cell? w0 _ x0)).trans x0
            clear x0 HC2
            have y0 := pw_cell_below HB0.out x0'
            have h1d : decide (0 < v) = true := decide_eq_true h1
            have h2d : decide (v < (a.length : Int)) = true := decide_eq_true h2
            go_enter Try.func22, Try.ntmps22
            go_wp2_with fail
            go_ret
            exact ⟨by rw [HV.out]; rfl, HB0.out⟩
          · replace HV : Aside0 (valF ⟨2, v, q, ts⟩ a = false) := ⟨by rw [HV.out, decide_eq_true h1, decide_eq_false h2]; rfl⟩
            have h1d : decide (0 < v) = true := decide_eq_true h1
            have h2d : decide (v < (a.length : Int)) = false := decide_eq_false h2
            go_enter Try.func22, Try.ntmps22
            go_wp2_with fail
            go_ret
            exact ⟨by rw [HV.out]; rfl, HB0.out⟩
        · replace HV : Aside0 (valF ⟨2, v, q, ts⟩ a = false) := ⟨by rw [HV.out, decide_eq_false h1]; rfl⟩
          have h1d : decide (0 < v) = false := decide_eq_false h1
          go_enter Try.func22, Try.ntmps22
          go_wp2_with fail
          go_ret
          exact ⟨by rw [HV.out]; rfl, HB0.out⟩
      · have k2b : (kind == 2) = false := by simpa using k2
        by_cases k3 : kind = 3
        · subst k3
          have HV : Aside0 (valF ⟨3, v, q, ts⟩ a = !(anyF ts a)) := ⟨by rw [valF]; rfl⟩
          go_enter Try.func22, Try.ntmps22
          go_wp2_with (go_at_call 41; refine (HANY.out _ HB0.out HA0.out).mono ?_; rintro e w2 ⟨rfl, hb⟩; have HB := Aside0.mk (below_step HB0.out hb); clear hb)
          go_ret
          exact ⟨by rw [HV.out]; rfl, HB.out⟩
        · have k3b : (kind == 3) = false := by simpa using k3
          by_cases k4 : kind = 4
          · subst k4
            have HV : Aside0 (valF ⟨4, v, q, ts⟩ a = (((ts.filter fun t => valF t a).length : Int) == (ts.length : Int))) := ⟨by rw [valF, HCNT.out]; rfl⟩
            clear HANY HCNT
            go_enter Try.func22, Try.ntmps22
            go_wp2_with fail
            refine start_ (n := 10) (S := fun V => V.heap[w.heap.size]? = some (.cells #[.int .i64 4, .int .i64 v, .int .i64 q, .slice A ts.length c] 24 (0, 0))) (ds := []) #[false, false, false, false, false, false, false, false, false, false] (by kernel_rfl) rfl rfl HX0.out (fun hHeld => ?_)
            generalize hW0 : ((w.alloc (.cells #[.int .i64 4, .int .i64 v, .int .i64 q, .slice A ts.length c] 24)).alloc (.cells #[.slice A2 a.length c2] 43)).drew = W0 at hHeld ⊢
            have HW0 := Aside0.mk (show Below w.heap.size w W0 by rw [← hW0]; exact below_step HB0.out (below_drew (Below.refl _ _)))
            have HBA0 := Aside0.mk (show W0.heap[w.heap.size + 1]? = some (.cells #[.slice A2 a.length c2] 43 (0, 0)) by rw [← hW0]; exact blk_below HA0.out (below_drew (Below.refl _ _)))
            clear hW0
            refine pure_ (i := 0) (N := some 42) (v := ?_) (a' := ?_) #[true, false, false, false, false, false, false, false, false, false] rfl rfl (by kernel_rfl) (fun _ _ _ h => h) (Or.inl ⟨by rfl, ?_⟩) ?_ ?_
            rotate_left
            · intro w'
              go_simp
              with_reducible rfl
            rotate_left
            · simp only [Act.put, List.setIfInBounds_toArray, List.set_cons_zero, List.set_cons_succ, i64_w, i32_w]
              rfl
            refine pure_ (i := 2) (N := some 44) (v := ?_) (a' := ?_) #[true, false, true, false, false, false, false, false, false, false] rfl rfl (by kernel_rfl) (fun _ _ _ h => h) (Or.inl ⟨by rfl, ?_⟩) ?_ ?_
            rotate_left
            · intro w'
              go_simp
              with_reducible rfl
            rotate_left
            · simp only [Act.put, List.setIfInBounds_toArray, List.set_cons_zero, List.set_cons_succ, i64_w, i32_w]
              rfl
            refine pure_ (i := 5) (N := some 47) (v := ?_) (a' := ?_) #[true, false, true, false, false, true, false, false, false, false] rfl rfl (by kernel_rfl) (fun _ _ _ h => h) (Or.inl ⟨by rfl, ?_⟩) ?_ ?_
            rotate_left
            · intro w'
              go_simp
              with_reducible rfl
            rotate_left
            · simp only [Act.put, List.setIfInBounds_toArray, List.set_cons_zero, List.set_cons_succ, i64_w, i32_w]
              rfl
            refine take_ (i := 1) (N := some 43) (v := ?_) (a' := ?_) #[true, true, true, false, false, true, false, false, false, false] rfl rfl (by kernel_rfl) (fun _ _ _ h => h) (Or.inl ⟨by rfl, ?_⟩) hHeld ?_ ?_
            rotate_left
            · rintro w' hw0
              have hc0 := blk_cell hw0 3
              go_simp
              with_reducible rfl
            rotate_left
            · simp only [Act.put, List.setIfInBounds_toArray, List.set_cons_zero, List.set_cons_succ, i64_w, i32_w]
              rfl
            refine take_ (i := 6) (N := some 48) (v := ?_) (a' := ?_) #[true, true, true, false, false, true, true, false, false, false] rfl rfl (by kernel_rfl) (fun _ _ _ h => h) (Or.inl ⟨by rfl, ?_⟩) hHeld ?_ ?_
            rotate_left
            · rintro w' hw0
              have hc0 := blk_cell hw0 3
              go_simp
              with_reducible rfl
            rotate_left
            · simp only [Act.put, List.setIfInBounds_toArray, List.set_cons_zero, List.set_cons_succ, i64_w, i32_w]
              rfl
            refine pure_ (i := 7) (N := some 49) (v := ?_) (a' := ?_) #[true, true, true, false, false, true, true, true, false, false] rfl rfl (by kernel_rfl) (fun _ _ _ h => h) (Or.inl ⟨by rfl, ?_⟩) ?_ ?_
            rotate_left
            · intro w'
              go_simp
              with_reducible rfl
            rotate_left
            · simp only [Act.put, List.setIfInBounds_toArray, List.set_cons_zero, List.set_cons_succ, i64_w, i32_w]
              rfl
            refine one_ (i := 3) (N := some 45) #[true, true, true, true, false, true, true, true, false, false] rfl rfl (by kernel_rfl) (by decide) (fun K hK => ?_)
            refine goes_ Try.func42 (by kernel_rfl) rfl #[.slice A ts.length c, (.func (.func 40) #[] #[.pointer (some ⟨w.heap.size + 1, 0, none⟩)])] (by rfl) rfl rfl (by simp only [List.map_toArray, List.map_cons, List.map_nil]; rfl) ?_
            refine (HKEPT.out W0 HW0.out HBA0.out).mono ?_
            rintro e w3 ⟨vk, rfl, hN3, hb3⟩
            obtain ⟨Ak, ck, ek⟩ := Kd.N_slice hN3
            subst ek
            refine ⟨_, rfl, ?_⟩
            have HB3 := Aside0.mk (below_step HW0.out hb3)
            refine hK.out _ _ (blk_below hHeld hb3) (fun hHeld => ?_)
            clear hK K hb3 hN3
            refine norm_ (a' := ?_) ?_ ?_
            rotate_left
            · show Act.put _ (some 45) _ = _
              simp only [Act.put, List.setIfInBounds_toArray, List.set_cons_zero, List.set_cons_succ, i64_w, i32_w]
              rfl
            refine pure_ (i := 4) (N := some 46) (v := ?_) (a' := ?_) #[true, true, true, true, true, true, true, true, false, false] rfl rfl (by kernel_rfl) (fun _ _ _ h => h) (Or.inl ⟨by rfl, ?_⟩) ?_ ?_
            rotate_left
            · intro w'
              go_simp
              with_reducible rfl
            rotate_left
            · simp only [Act.put, List.setIfInBounds_toArray, List.set_cons_zero, List.set_cons_succ, i64_w, i32_w]
              rfl
            refine pure_ (i := 8) (N := some 50) (v := ?_) (a' := ?_) #[true, true, true, true, true, true, true, true, true, false] rfl rfl (by kernel_rfl) (fun _ _ _ h => h) (Or.inl ⟨by rfl, ?_⟩) ?_ ?_
            rotate_left
            · intro w'
              go_simp
              rfl
            rotate_left
            · simp only [Act.put, List.setIfInBounds_toArray, List.set_cons_zero, List.set_cons_succ, i64_w, i32_w]
              rfl
            refine pure_ (i := 9) (N := some 4) (v := ?_) (a' := ?_) #[true, true, true, true, true, true, true, true, true, true] rfl rfl (by kernel_rfl) (fun _ _ _ h => h) (Or.inl ⟨by rfl, ?_⟩) ?_ ?_
            rotate_left
            · intro w'
              go_simp
              with_reducible rfl
            rotate_left
            · simp only [Act.put, List.setIfInBounds_toArray, List.set_cons_zero, List.set_cons_succ, i64_w, i32_w]
              rfl
            refine done_ (by kernel_rfl) ?_
            go_wp2_with fail
            go_ret
            exact ⟨by rw [HV.out]; rfl, HB3.out⟩
          · have k4b : (kind == 4) = false := by simpa using k4
            by_cases k5 : kind = 5
            · subst k5
              have HV : Aside0 (valF ⟨5, v, q, ts⟩ a = anyF ts a) := ⟨by rw [valF]; rfl⟩
              go_enter Try.func22, Try.ntmps22
              go_wp2_with (go_at_call 41; refine (HANY.out _ HB0.out HA0.out).mono ?_; rintro e w2 ⟨rfl, hb⟩; have HB := Aside0.mk (below_step HB0.out hb); clear hb)
              go_ret
              exact ⟨by rw [HV.out]; rfl, HB.out⟩
            · have k5b : (kind == 5) = false := by simpa using k5
              by_cases k6 : kind = 6
              · subst k6
                have HV : Aside0 (valF ⟨6, v, q, ts⟩ a = decide (q ≤ ((ts.filter fun t => valF t a).length : Int))) := ⟨by rw [valF, HCNT.out]; rfl⟩
                clear HANY HCNT
                go_enter Try.func22, Try.ntmps22
                go_wp2_with fail
                refine start_ (n := 9) (S := fun V => V.heap[w.heap.size]? = some (.cells #[.int .i64 6, .int .i64 v, .int .i64 q, .slice A ts.length c] 24 (0, 0))) (ds := []) #[false, false, false, false, false, false, false, false, false] (by kernel_rfl) rfl rfl HX0.out (fun hHeld => ?_)
                generalize hW0 : ((w.alloc (.cells #[.int .i64 6, .int .i64 v, .int .i64 q, .slice A ts.length c] 24)).alloc (.cells #[.slice A2 a.length c2] 43)).drew = W0 at hHeld ⊢
                have HW0 := Aside0.mk (show Below w.heap.size w W0 by rw [← hW0]; exact below_step HB0.out (below_drew (Below.refl _ _)))
                have HBA0 := Aside0.mk (show W0.heap[w.heap.size + 1]? = some (.cells #[.slice A2 a.length c2] 43 (0, 0)) by rw [← hW0]; exact blk_below HA0.out (below_drew (Below.refl _ _)))
                clear hW0
                refine pure_ (i := 0) (N := some 59) (v := ?_) (a' := ?_) #[true, false, false, false, false, false, false, false, false] rfl rfl (by kernel_rfl) (fun _ _ _ h => h) (Or.inl ⟨by rfl, ?_⟩) ?_ ?_
                rotate_left
                · intro w'
                  go_simp
                  with_reducible rfl
                rotate_left
                · simp only [Act.put, List.setIfInBounds_toArray, List.set_cons_zero, List.set_cons_succ, i64_w, i32_w]
                  rfl
                refine pure_ (i := 2) (N := some 61) (v := ?_) (a' := ?_) #[true, false, true, false, false, false, false, false, false] rfl rfl (by kernel_rfl) (fun _ _ _ h => h) (Or.inl ⟨by rfl, ?_⟩) ?_ ?_
                rotate_left
                · intro w'
                  go_simp
                  with_reducible rfl
                rotate_left
                · simp only [Act.put, List.setIfInBounds_toArray, List.set_cons_zero, List.set_cons_succ, i64_w, i32_w]
                  rfl
                refine pure_ (i := 5) (N := some 64) (v := ?_) (a' := ?_) #[true, false, true, false, false, true, false, false, false] rfl rfl (by kernel_rfl) (fun _ _ _ h => h) (Or.inl ⟨by rfl, ?_⟩) ?_ ?_
                rotate_left
                · intro w'
                  go_simp
                  with_reducible rfl
                rotate_left
                · simp only [Act.put, List.setIfInBounds_toArray, List.set_cons_zero, List.set_cons_succ, i64_w, i32_w]
                  rfl
                refine take_ (i := 1) (N := some 60) (v := ?_) (a' := ?_) #[true, true, true, false, false, true, false, false, false] rfl rfl (by kernel_rfl) (fun _ _ _ h => h) (Or.inl ⟨by rfl, ?_⟩) hHeld ?_ ?_
                rotate_left
                · rintro w' hw0
                  have hc0 := blk_cell hw0 3
                  go_simp
                  with_reducible rfl
                rotate_left
                · simp only [Act.put, List.setIfInBounds_toArray, List.set_cons_zero, List.set_cons_succ, i64_w, i32_w]
                  rfl
                refine take_ (i := 6) (N := some 65) (v := ?_) (a' := ?_) #[true, true, true, false, false, true, true, false, false] rfl rfl (by kernel_rfl) (fun _ _ _ h => h) (Or.inl ⟨by rfl, ?_⟩) hHeld ?_ ?_
                rotate_left
                · rintro w' hw0
                  have hc0 := blk_cell hw0 2
                  go_simp
                  with_reducible rfl
                rotate_left
                · simp only [Act.put, List.setIfInBounds_toArray, List.set_cons_zero, List.set_cons_succ, i64_w, i32_w]
                  rfl
                refine one_ (i := 3) (N := some 62) #[true, true, true, true, false, true, true, false, false] rfl rfl (by kernel_rfl) (by decide) (fun K hK => ?_)
                refine goes_ Try.func42 (by kernel_rfl) rfl #[.slice A ts.length c, (.func (.func 40) #[] #[.pointer (some ⟨w.heap.size + 1, 0, none⟩)])] (by rfl) rfl rfl (by simp only [List.map_toArray, List.map_cons, List.map_nil]; rfl) ?_
                refine (HKEPT.out W0 HW0.out HBA0.out).mono ?_
                rintro e w3 ⟨vk, rfl, hN3, hb3⟩
                obtain ⟨Ak, ck, ek⟩ := Kd.N_slice hN3
                subst ek
                refine ⟨_, rfl, ?_⟩
                have HB3 := Aside0.mk (below_step HW0.out hb3)
                refine hK.out _ _ (blk_below hHeld hb3) (fun hHeld => ?_)
                clear hK K hb3 hN3
                refine norm_ (a' := ?_) ?_ ?_
                rotate_left
                · show Act.put _ (some 62) _ = _
                  simp only [Act.put, List.setIfInBounds_toArray, List.set_cons_zero, List.set_cons_succ, i64_w, i32_w]
                  rfl
                refine pure_ (i := 4) (N := some 63) (v := ?_) (a' := ?_) #[true, true, true, true, true, true, true, false, false] rfl rfl (by kernel_rfl) (fun _ _ _ h => h) (Or.inl ⟨by rfl, ?_⟩) ?_ ?_
                rotate_left
                · intro w'
                  go_simp
                  with_reducible rfl
                rotate_left
                · simp only [Act.put, List.setIfInBounds_toArray, List.set_cons_zero, List.set_cons_succ, i64_w, i32_w]
                  rfl
                refine pure_ (i := 7) (N := some 66) (v := ?_) (a' := ?_) #[true, true, true, true, true, true, true, true, false] rfl rfl (by kernel_rfl) (fun _ _ _ h => h) (Or.inl ⟨by rfl, ?_⟩) ?_ ?_
                rotate_left
                · intro w'
                  go_simp
                  rfl
                rotate_left
                · simp only [Act.put, List.setIfInBounds_toArray, List.set_cons_zero, List.set_cons_succ, i64_w, i32_w]
                  rfl
                refine pure_ (i := 8) (N := some 4) (v := ?_) (a' := ?_) #[true, true, true, true, true, true, true, true, true] rfl rfl (by kernel_rfl) (fun _ _ _ h => h) (Or.inl ⟨by rfl, ?_⟩) ?_ ?_
                rotate_left
                · intro w'
                  go_simp
                  with_reducible rfl
                rotate_left
                · simp only [Act.put, List.setIfInBounds_toArray, List.set_cons_zero, List.set_cons_succ, i64_w, i32_w]
                  rfl
                refine done_ (by kernel_rfl) ?_
                go_wp2_with fail
                go_ret
                exact ⟨by rw [HV.out]; rfl, HB3.out⟩
              · have k6b : (kind == 6) = false := by simpa using k6
                have HV : Aside0 (valF ⟨kind, v, q, ts⟩ a = false) := ⟨by rw [valF]; rw [if_neg k1, if_neg k2, if_neg k3, if_neg k4, if_neg k5, if_neg k6]⟩
                clear HKEPT HANY HCNT
                go_enter Try.func22, Try.ntmps22
                go_wp2_with fail
                go_ret
                exact ⟨by rw [HV.out]; rfl, HB0.out⟩
/-- In the form that printed callers ask for. -/
def flat_Value.f (a0_0 : Int) (a0_1 : Int) (a0_2 : Int) (l0_3 : List S24) (l1 : List Bool) : Option Bool := if sizeT ⟨a0_0, a0_1, a0_2, l0_3⟩ ≤ 1048576 ∧ l1.length ≤ 1099511627776 then some (valF ⟨a0_0, a0_1, a0_2, l0_3⟩ l1) else none
theorem flat_Value.calls (a0_0 : Int) (a0_1 : Int) (a0_2 : Int) (A0_3 : Option Addr) (c0_3 : Nat) (l0_3 : List (S24)) (A1 : Option Addr) (c1 : Nat) (l1 : List Bool) (r : Bool) (w : World) (hr0_3 : Kd.C k24 w A0_3 l0_3.length l0_3) (hc0_3 : l0_3.length ≤ c0_3) (hr1 : Kd.C Kd.bool w A1 l1.length l1) (hc1 : l1.length ≤ c1) (h : flat_Value.f a0_0 a0_1 a0_2 l0_3 l1 = some r) :
    Calls Try.prog 22 #[.agg #[.int .i64 a0_0, .int .i64 a0_1, .int .i64 a0_2, .slice A0_3 l0_3.length c0_3], .slice A1 l1.length c1] w fun e w' => e = .returned (.bool r) ∧ Below w.heap.size w w' := by
  unfold flat_Value.f at h
  split at h
  · rename_i hs
    obtain rfl := Option.some.inj h
    exact value.calls 1048576 (Nat.le_refl _) l1 hs.2 ⟨a0_0, a0_1, a0_2, l0_3⟩ A0_3 c0_3 A1 c1 w w hs.1 (Below.refl _ _) hr0_3 hc0_3 hr1 hc1
  · cases h
end Go.Proofs.Ytkcmkoolcakfjaa.P

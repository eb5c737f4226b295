/- (*maker).literal: the literal of a tree. -/
import Derived.Test.YtkcmkoolcakfjaaHFresh
import Derived.Test.YtkcmkoolcakfjaaHKinds
namespace Go.Proofs.Ytkcmkoolcakfjaa.P
open Go.RowKit Go.Proofs.YtkcmkoolcakfjaaW.PrintWords Go.Proofs.YtkcmkoolcakfjaaW.PrintLast Go.Proofs.YtkcmkoolcakfjaaW.PrintMore Go.Proofs.Ytkcmkoolcakfjaa.Aid
set_option linter.unusedVariables false
set_option linter.unusedSimpArgs false

abbrev stop2 : List PanicEntry := [{ v := .iface 87 (.agg #[.int .i64 2]), recovered := false }]

/-- The function that the map holds for a kind, and what it answers. -/
theorem thr_at (kind v q : Int) (n : Nat) (m : Int) (hf : formedF kind v q n m = true) (h2 : kind ≠ 2) (h3 : kind ≠ 3) : ∃ f i, Instr.findNow (.int .i64) (.int .i64 kind) kindsEs.toList 0 = some (some (i, .func (.func f) #[] #[])) ∧
    (∀ args w, (callFunc f args).run Try.prog w = .ok (.enter f args) w) ∧
    ∀ A c w, Calls Try.prog f #[.agg #[.int .i64 kind, .int .i64 v, .int .i64 q, .slice A n c]] w fun e w' => e = .returned (.int .i64 (thr kind v q n)) ∧ Below w.heap.size w w' := by
  have hk : kind = 1 ∨ kind = 4 ∨ kind = 5 ∨ kind = 6 := by
    unfold formedF at hf
    by_cases h1 : kind = 1
    · exact .inl h1
    · by_cases h4 : kind = 4
      · exact .inr (.inl h4)
      · by_cases h5 : kind = 5
        · exact .inr (.inr (.inl h5))
        · by_cases h6 : kind = 6
          · exact .inr (.inr (.inr h6))
          · simp [h1, h2, h3, h4, h5, h6] at hf
  rcases hk with rfl | rfl | rfl | rfl
  · refine ⟨71, 0, by rfl, fun args w => enters_ Try.func71 (by kernel_rfl) rfl args w, fun A c w => ?_⟩
    have hv : v = 0 ∨ v = 1 := by
      simp [formedF] at hf
      exact hf.2.1
    have e : wrap64 (1 - v) = 1 - v := by unfold wrap64; omega
    have h := kinds2.calls 1 v q A n c w
    rw [e] at h
    exact h
  · exact ⟨72, 1, by rfl, fun args w => enters_ Try.func72 (by kernel_rfl) rfl args w, fun A c w => kinds3.calls 4 v q A n c w⟩
  · exact ⟨70, 2, by rfl, fun args w => enters_ Try.func70 (by kernel_rfl) rfl args w, fun A c w => kinds1.calls 5 v q A n c w⟩
  · exact ⟨73, 3, by rfl, fun args w => enters_ Try.func73 (by kernel_rfl) rfl args w, fun A c w => kinds4.calls 6 v q A n c w⟩

/-- What the loop over a node's operands keeps. -/
structure LInv (B g : Nat) (ok : Nat → Prop) (vl : Value) (l : List S40) (mp : Nat) (w wr : World) (vl' : Value) (next' : Int) (news : List S40) (b1 : Nat) (bx : Array Value) (v5 : Value) (lits : List Int) : Prop where
  blk : wr.heap[g]? = some (.cells #[vl', .int .i64 next', .map (some mp)] 85 (0, 0))
  row : Kd.N k40 40 wr B (fun q => (ok q ∨ w.heap.size ≤ q) ∧ q ≠ b1 ∧ some q ≠ v5.ownBlock) vl' (l ++ news)
  at_ : vl'.ownBlock = vl.ownBlock ∨ ∃ b, vl'.ownBlock = some b ∧ w.heap.size ≤ b
  below : Below B w wr
  kept : Kept w wr (fun k => k = g ∨ some k = vl.ownBlock)
  lrow : IRow wr w.heap.size v5 lits
  box : wr.heap[b1]? = some (.cells bx 24 (0, 0))
  map : wr.heap[mp]? = some (.map kindsEs 4)

section
variable {B g mp b1 : Nat} {ok : Nat → Prop} {vl vl' vl2 v5 : Value} {l n1 n2 : List S40} {w wr W w2 : World} {nx nx2 next : Int} {bx : Array Value} {lits : List Int}
theorem LInv.start (hg : w.heap[g]? = some (.cells #[vl, .int .i64 next, .map (some mp)] 85 (0, 0))) (hm : w.heap[mp]? = some (.map kindsEs 4)) (hN : Kd.N k40 40 w B ok vl l) (hB : B ≤ w.heap.size) : LInv B g ok vl l mp w (w.alloc (.cells bx 24)) vl next [] w.heap.size bx (.slice none 0 0) [] :=
  ⟨blk_alloc hg _, by
    rw [List.append_nil]
    refine Kd.N_mono (Kd.N_alloc (Kd.N_bound hN) _) (fun k hk => ⟨.inl hk.1, by have := hk.2; omega, by simp [Value.ownBlock]⟩), .inl rfl, (Below.refl _ _).alloc hB _, (Kept.refl _ _).alloc _, Row.nil _ _ _ _, blk_new w _, blk_alloc hm _⟩
theorem LInv.step (h : LInv B g ok vl l mp w wr vl' nx n1 b1 bx v5 lits) (hB : B ≤ w.heap.size) (hb : Below wr.heap.size wr W) : LInv B g ok vl l mp w W vl' nx n1 b1 bx v5 lits :=
  ⟨blk_below h.blk hb, Kd.N_below h.row hb, h.at_, h.below.trans (hb.mono (Nat.le_trans hB h.below.size)), h.kept.below hb, h.lrow.below hb, blk_below h.box hb, blk_below h.map hb⟩
/-- Behind a call that works on the maker. -/
theorem LInv.call (h : LInv B g ok vl l mp w wr vl' nx n1 b1 bx v5 lits) (hb1 : b1 ≠ g) (k : MPost B g (fun q => (ok q ∨ w.heap.size ≤ q) ∧ q ≠ b1 ∧ some q ≠ v5.ownBlock) vl' (l ++ n1) mp wr W vl2 nx2 n2) : LInv B g ok vl l mp w W vl2 nx2 (n1 ++ n2) b1 bx v5 lits := by
  have hv : ∀ q, vl'.ownBlock = some q → (ok q ∨ w.heap.size ≤ q) ∧ q ≠ b1 ∧ some q ≠ v5.ownBlock := h.row.1
  have hv5 : ∀ q, v5.ownBlock = some q → q ≠ g := h.lrow.ne_block h.blk (by decide)
  have hmg : mp ≠ g := by
    intro e
    have h1 := h.map
    rw [e, h.blk] at h1
    cases h1
  have hmv : some mp ≠ vl'.ownBlock := by
    intro e
    obtain ⟨cs, hc⟩ := Kd.N_typed h.row mp e.symm
    rw [h.map] at hc
    cases hc
  refine ⟨k.blk, ?_, ?_, h.below.trans k.below, h.kept.then_ k.kept (fun q hq => ?_), h.lrow.move (fun q hq => k.kept.2 q (h.lrow.lt q hq).2 (fun hs => ?_)), ?_, ?_⟩
  · have hr := k.row
    rw [List.append_assoc] at hr
    exact Kd.N_mono hr (fun q hq => by
      rcases hq with hq | hq
      · exact hq
      · refine ⟨.inr (Nat.le_trans h.below.size hq), fun e => ?_, fun e => ?_⟩
        · subst e; have := blk_lt h.box; omega
        · have := (h.lrow.lt q e.symm).2; omega)
  · rcases k.at_ with e | ⟨b, e, hb⟩
    · rw [e]; exact h.at_
    · exact .inr ⟨b, e, Nat.le_trans h.below.size hb⟩
  · rcases hq with hq | hq
    · exact .inl (.inl hq)
    · rcases h.at_ with e | ⟨b, e, hb⟩
      · rw [e] at hq; exact .inl (.inr hq)
      · rw [e] at hq; injection hq with hq; subst hq; exact .inr hb
  · rcases hs with hs | hs
    · exact hv5 q hq hs
    · exact (hv q hs.symm).2.2 hq.symm
  · exact (k.kept.2 b1 (blk_lt h.box) (fun hs => by
      rcases hs with hs | hs
      · exact hb1 hs
      · exact (hv b1 hs.symm).2.1 rfl)).trans h.box
  · exact (k.kept.2 mp (Array.getElem?_eq_some_iff.1 h.map).1 (fun hs => by
      rcases hs with hs | hs
      · exact hmg hs
      · exact hmv hs)).trans h.map
/-- The literal appended. -/
theorem LInv.app (h : LInv B g ok vl l mp w wr vl' nx n1 b1 bx v5 lits) (hB : B ≤ w.heap.size) {v6 : Value} {lits' : List Int} (hg : wr.grownBy W v5.ownBlock) (hr : IRow W w.heap.size v6 lits') (hat : v6.ownBlock = v5.ownBlock ∨ v6.ownBlock = some wr.heap.size) : LInv B g ok vl l mp w W vl' nx n1 b1 bx v6 lits' := by
  have hvl : ∀ q, v5.ownBlock = some q → w.heap.size ≤ q ∧ q < wr.heap.size := h.lrow.lt
  refine ⟨blk_grown h.blk hg (fun e => h.lrow.ne_block h.blk (by decide) g e.symm rfl), ?_, h.at_, h.below.grown hg (Nat.le_trans hB h.below.size) (fun q hq => Nat.le_trans hB (hvl q hq).1), Kept.of_grown hg h.kept (fun q hq => .inr (hvl q hq).1), hr, blk_grown h.box hg (fun e => h.lrow.ne_block h.box (by decide) b1 e.symm rfl), blk_grown h.map hg (fun e => ?_)⟩
  · refine Kd.N_mono (Kd.N_step (Kd.N_bound h.row) (fun q hq hlt => hg.block q hlt hq.1.2.2)) (fun q hq => ⟨hq.1.1, hq.1.2.1, fun e => ?_⟩)
    rcases hat with hat | hat
    · rw [hat] at e; exact hq.1.2.2 e
    · rw [hat] at e; injection e with e; have := hq.2; omega
  · obtain ⟨cs, hc⟩ := h.lrow.typed mp e.symm
    rw [h.map] at hc
    cases hc
/-- What it says of the maker alone. -/
theorem LInv.post (h : LInv B g ok vl l mp w wr vl' nx n1 b1 bx v5 lits) : MPost B g ok vl l mp w wr vl' nx n1 := ⟨h.blk, Kd.N_mono h.row (fun _ hq => hq.1), h.at_, h.below, h.kept⟩
end
theorem rd_T24_mem (ts : List S24) (i : Int) (h0 : 0 ≤ i) (h1 : i < ts.length) : rd_T24 ts i ∈ ts := by
  unfold rd_T24
  rw [List.getD_eq_getElem?_getD, List.getElem?_eq_getElem (show i.toNat < ts.length by omega)]
  exact List.getElem_mem _
theorem take_T24 (ts : List S24) (i : Int) (h0 : 0 ≤ i) (h1 : i < ts.length) : ts.take (i + 1).toNat = ts.take i.toNat ++ [rd_T24 ts i] := by
  have e : (i + 1).toNat = i.toNat + 1 := by omega
  rw [e, List.take_succ_eq_append_getElem (by omega)]
  simp [rd_T24, List.getD_eq_getElem?_getD, List.getElem?_eq_getElem (show i.toNat < ts.length by omega)]
theorem litF_ge (kind v q : Int) (ts : List S24) (next : Int) (h2 : kind ≠ 2) : (litsF ts next).2.2 ≤ (litF ⟨kind, v, q, ts⟩ next).2.2 := by
  unfold litF
  rw [if_neg h2]
  split
  · exact Int.le_refl _
  · simp only; omega
theorem size_mem {ts : List S24} : ∀ t ∈ ts, sizeT t ≤ sizeTs ts := by
  induction ts with
  | nil => intro t ht; cases ht
  | cons a ts ih =>
    intro t ht
    rcases List.mem_cons.1 ht with rfl | ht
    · simp [sizeTs]
    · have := ih t ht; simp only [sizeTs]; omega

set_option maxRecDepth 100000 in
set_option maxHeartbeats 2000000 in
theorem literal.calls (n : Int) (hn : n ≤ 65536) (w0 : World) (B g mp : Nat) (hB0 : w0.heap.size ≤ B) (hB : B ≤ g) (hmp : B ≤ mp) (N : Nat) : ∀ (T : S24) (ok : Nat → Prop) (vl : Value) (l : List S40) (next : Int) (A : Option Addr) (c : Nat) (w : World),
    sizeT T ≤ N → Below w0.heap.size w0 w → Kd.C k24 w0 A T.f3.length T.f3 → T.f3.length ≤ c → formedT T n = true → wideT T = false →
    w.heap[g]? = some (.cells #[vl, .int .i64 next, .map (some mp)] 85 (0, 0)) → w.heap[mp]? = some (.map kindsEs 4) → Kd.N k40 40 w B ok vl l → (∀ k, ok k → k ≠ g) → 1 ≤ next → next ≤ 65537 → (l.length : Int) ≤ 2 * next + 100 →
    Calls Try.prog 54 #[.pointer (some ⟨g, 0, none⟩), .agg #[.int .i64 T.f0, .int .i64 T.f1, .int .i64 T.f2, .slice A T.f3.length c]] w fun e w' =>
      ((litF T next).2.2 ≤ 65537 ∧ e = .returned (.int .i64 (litF T next).1) ∧ ∃ vl', MPost B g ok vl l mp w w' vl' (litF T next).2.2 (litF T next).2.1) ∨
      (65537 < (litF T next).2.2 ∧ e = .panicked stop2 ∧ Below B w w') := by
  induction N with
  | zero => intro T; intros; have : 1 ≤ sizeT T := by { cases T; simp [sizeT] }; omega
  | succ N ih =>
    rintro ⟨kind, v, q, ts⟩ ok vl l next A c w hsz hW0 hC hc hf hwide hg hm hN hok hn1 hn2 hll
    simp only at hC hc ⊢
    have hfk : formedF kind v q ts.length n = true := by simp only [formedT, Bool.and_eq_true] at hf; exact hf.1
    have hfs : formedTs ts n = true := by simp only [formedT, Bool.and_eq_true] at hf; exact hf.2
    have hlen : ts.length ≤ 4095 := by simp only [wideT, Bool.or_eq_false_iff, decide_eq_false_iff_not] at hwide; omega
    have hws : wideTs ts = false := by simp only [wideT, Bool.or_eq_false_iff] at hwide; exact hwide.2
    clear hf hwide
    have HFK := Aside0.mk hfk
    have HFS := Aside0.mk hfs
    have HWS := Aside0.mk hws
    have HG := Aside0.mk hg
    have HM := Aside0.mk hm
    have HN := Aside0.mk hN
    have HOK := Aside0.mk hok
    have HW0 := Aside0.mk hW0
    have HC := Aside0.mk hC
    have IH := Aside0.mk ih
    clear hfk hfs hws hg hm hN hok hW0 hC ih
    have hBw : B ≤ w.heap.size := by have := blk_lt HG.out; omega
    by_cases h2 : kind = 2
    · subst h2
      go_enter Try.func54, Try.ntmps54
      go_wp2_with fail
      go_ret
      refine .inl ⟨by simpa [litF] using hn2, by simp [litF], vl, ?_⟩
      have h := (MPost.refl HG.out HN.out).step hBw (below_alloc (Below.refl w.heap.size w) (.cells #[.int .i64 2, .int .i64 v, .int .i64 q, .slice A ts.length c] 24))
      simpa [litF] using h
    · have h2b : (kind == 2) = false := by simpa using h2
      have HL0 := Aside0.mk (LInv.start (bx := #[.int .i64 kind, .int .i64 v, .int .i64 q, .slice A ts.length c]) HG.out HM.out HN.out hBw)
      go_enter Try.func54, Try.ntmps54
      go_wp2_with fail
      go_loopw [5, 16] (fun v5 v16 wr => ∃ (i : Int) (vl' : Value), 0 ≤ i ∧ i ≤ ts.length ∧ v16 = .int .i64 i ∧ Aside0 ((litsF (ts.take i.toNat) next).2.2 ≤ 65537) ∧ Aside0 (LInv B g ok vl l mp w wr vl' (litsF (ts.take i.toNat) next).2.2 (litsF (ts.take i.toNat) next).2.1 w.heap.size #[.int .i64 kind, .int .i64 v, .int .i64 q, .slice A ts.length c] v5 (litsF (ts.take i.toNat) next).1)) (fun _ v16 _ => (ts.length - intOf v16).toNat)
      case atStart => exact ⟨0, vl, by omega, by omega, rfl, ⟨hn2⟩, HL0⟩
      case round =>
        clear HL0
        obtain ⟨i, vl', hi0, hi1, rfl, HX, HI⟩ := hrel
        by_cases hlt : i < ts.length
        · have hmem := rd_T24_mem ts i hi0 hlt
          have hsz1 : sizeT (rd_T24 ts i) ≤ N := by
            have := size_mem _ hmem
            simp only [sizeT] at hsz
            omega
          obtain ⟨ad, A3, c3, rfl, x0, x1, x2, x3, hl3, hi3⟩ := at_T24 HC.out i hi0 hlt
          have HBW0 := Aside0.mk (HW0.out.trans (HI.out.below.mono hB0))
          replace x0 := (HBW0.out.cell (World.block_lt_of_cell? w0 _ x0)).trans x0
          replace x1 := (HBW0.out.cell (World.block_lt_of_cell? w0 _ x1)).trans x1
          replace x2 := (HBW0.out.cell (World.block_lt_of_cell? w0 _ x2)).trans x2
          replace x3 := (HBW0.out.cell (World.block_lt_of_cell? w0 _ x3)).trans x3
          have hgr := litsF_grows (ts.take i.toNat) next
          have hsn := litsF_snoc (ts.take i.toNat) (rd_T24 ts i) next
          rw [← take_T24 ts i hi0 hlt] at hsn
          have HSN := Aside0.mk hsn
          clear hsn
          obtain ⟨nx, hnx⟩ : ∃ nx, (litsF (ts.take i.toNat) next).2.2 = nx := ⟨_, rfl⟩
          obtain ⟨n1, hn1_⟩ : ∃ n1, (litsF (ts.take i.toNat) next).2.1 = n1 := ⟨_, rfl⟩
          obtain ⟨ls, hls⟩ : ∃ ls, (litsF (ts.take i.toNat) next).1 = ls := ⟨_, rfl⟩
          have hlsl : ls.length ≤ 4095 := by rw [← hls, litsF_length]; simp; omega
          rw [hnx, hn1_, hls] at HI HSN
          rw [hnx] at HX
          rw [hnx, hn1_] at hgr
          clear hnx hn1_ hls
          obtain ⟨hgr1, hgr2⟩ := hgr
          have hX := HX.out
          have HL1 := Aside0.mk (HI.out.step hBw (below_alloc (Below.refl wr.heap.size wr) (.cells #[.int .i64 (rd_T24 ts i).f0, .int .i64 (rd_T24 ts i).f1, .int .i64 (rd_T24 ts i).f2, .slice A3 (rd_T24 ts i).f3.length c3] 24)))
          have hcall := IH.out (rd_T24 ts i) (fun q_ => (ok q_ ∨ w.heap.size ≤ q_) ∧ q_ ≠ w.heap.size ∧ some q_ ≠ u5.ownBlock) vl' (l ++ n1) nx A3 c3 _ hsz1 (below_step HBW0.out (below_alloc (Below.refl _ _) _)) hi3 hl3 (formedTs_mem HFS.out _ hmem) (wideTs_mem HWS.out _ hmem) HL1.out.blk HL1.out.map HL1.out.row (fun q_ hq => by
            rcases hq.1 with h | h
            · exact HOK.out q_ h
            · have := blk_lt HG.out; have := hq.2.1; omega) (by omega) hX (by simp only [List.length_append]; omega)
          have HCALL := Aside0.mk hcall
          clear hcall hmem hi3 hl3
          go_wp2_with fail
          refine HCALL.out.mono ?_
          rintro e w2 (⟨hle, rfl, vl2, hp⟩ | ⟨hgt, rfl, hb⟩)
          · have HL2 := Aside0.mk (HL1.out.call (by have := blk_lt HG.out; omega) hp)
            have HL3 := Aside0.mk (HL2.out.step hBw (below_alloc (Below.refl w2.heap.size w2) (.cells #[.int .i64 (litF (rd_T24 ts i) nx).1] 3)))
            have HLE := Aside0.mk hle
            obtain ⟨x, hx⟩ : ∃ x, (litF (rd_T24 ts i) nx).1 = x := ⟨_, rfl⟩
            rw [hx] at HL3 ⊢
            rw [hx] at HSN
            clear hx hp hle x0 x1 x2 x3 HCALL HL1
            go_wp2_with (refine app1_list (enc := Value.int .i64) w.heap.size rfl (.tmp 20) (.tmp 24) 34 3 (.int .i64 0) 8 rfl Try.underlying34 info3 rfl (by decide) (fun _ => rfl) (v := u5) (xs := ls) (y := x) (b := w2.heap.size) rfl rfl HL3.out.lrow (blk_new _ _) (by have := HL3.out.lrow; have := HL3.out.below.size; have := HL3.out.kept.1; exact this) (by omega) ?_; intro v6 w6 hr6 hg6 ha6 _; have HL6 := Aside0.mk (HL3.out.app hBw hg6 hr6 ha6); clear hr6 hg6 ha6)
            go_roundw
            case rel => exact ⟨i + 1, vl2, by omega, by omega, by go_num, ⟨by rw [HSN.out]; exact HLE.out⟩, ⟨by rw [HSN.out]; exact HL6.out⟩⟩
            case measure => simp [intOf]; omega
          · dsimp only
            have hbig : 65537 < (litF ⟨kind, v, q, ts⟩ next).2.2 := by
              have h1 := litF_ge kind v q ts next h2
              have h3 := litsF_take_le ts (i + 1).toNat next
              rw [HSN.out] at h3
              simp only at h3
              omega
            have HBIG := Aside0.mk hbig
            have HBE := Aside0.mk (HL1.out.below.trans hb)
            clear hbig hb hgt x0 x1 x2 x3 HCALL
            go_wp2_with fail
            exact ⟨rfl, .inr ⟨HBIG.out, rfl, HBE.out⟩⟩
        · have hi : i = ts.length := by omega
          subst hi
          rw [Int.toNat_natCast, List.take_length] at HI HX
          clear hlt hi0 hi1
          have hgr := litsF_grows ts next
          have hlb := litsF_bound ts n next hn hn1 HFS.out HX.out
          have hll2 := litsF_length ts next
          have z0 : wr.cell? ⟨w.heap.size, 0, none⟩ = some (.int .i64 kind) := (blk_cell HI.out.box 0).trans rfl
          by_cases h3 : kind = 3
          · subst h3
            have h1 : ts.length = 1 := by
              have h := HFK.out
              simp [formedF] at h
              exact h.2.2
            obtain ⟨y, hy⟩ : ∃ y, (litsF ts next).1 = [y] := by
              rw [h1] at hll2
              exact List.length_eq_one_iff.1 hll2
            rw [hy] at HI hlb
            obtain ⟨hy0, hy1⟩ := hlb y List.mem_cons_self
            have HLIT : Aside0 (litF ⟨3, v, q, ts⟩ next = (-y, (litsF ts next).2.1, (litsF ts next).2.2)) := ⟨by simp [litF, hy]⟩
            clear hy hlb hll2 h1
            obtain ⟨g5, c5, e5, hg5, _⟩ := World.ownsRow.form HI.out.lrow (by simp)
            have hx := own_at (g := g5) (n := 1) (cap := c5) (k := .i64) (xs := [y]) (by have h := HI.out.lrow; rw [e5] at h; exact h) 0 (by omega) (by omega)
            obtain ⟨hx, _⟩ := hx
            simp only [List.length_cons, List.length_nil, Nat.zero_add] at e5
            replace hx : wr.cell? ⟨g5, 0, none⟩ = some (.int .i64 y) := hx
            subst e5
            go_wp2_with fail
            go_ret
            exact .inl ⟨by rw [HLIT.out]; exact HX.out, by rw [HLIT.out]; rfl, vl', by rw [HLIT.out]; exact HI.out.post⟩
          · have h3b : (kind == 3) = false := by simpa using h3
            obtain ⟨fk, ik, hfind, hent, hthr⟩ := thr_at kind v q ts.length n HFK.out h2 h3
            have HLB := Aside0.mk hlb
            have HLL2 := Aside0.mk hll2
            have HFIND := Aside0.mk hfind
            have HENT := Aside0.mk hent
            have HTHR := Aside0.mk hthr
            clear hlb hll2 hfind hent hthr
            obtain ⟨A5, c5, e5, _, _⟩ := HI.out.lrow.reads (h1 := fun _ => rfl)
            subst e5
            have HLIT : Aside0 (litF ⟨kind, v, q, ts⟩ next = ((litsF ts next).2.2, (litsF ts next).2.1 ++ sumsF (litsF ts next).2.2 (thr kind v q ts.length) (litsF ts next).1, (litsF ts next).2.2 + 1)) := ⟨by simp only [litF]; rw [if_neg h2, if_neg h3]⟩
            have HOK3 : Aside0 (∀ q_, ((ok q_ ∨ w.heap.size ≤ q_) ∧ q_ ≠ w.heap.size ∧ some q_ ≠ (Value.slice A5 (litsF ts next).1.length c5).ownBlock) → q_ ≠ g) := ⟨fun q_ hq => by
              rcases hq.1 with h | h
              · exact HOK.out q_ h
              · have := blk_lt HG.out; have := hq.2.1; omega⟩
            obtain ⟨hgr1, hgr2⟩ := hgr
            have hX := HX.out
            by_cases hnx : (litsF ts next).2.2 ≤ 65536
            · go_wp2_with fail
              refine start_ (n := 13) (S := fun W => W.heap[g]? = some (.cells #[vl', .int .i64 (litsF ts next).2.2, .map (some mp)] 85 (0, 0)) ∧ W.heap[w.heap.size]? = some (.cells #[.int .i64 kind, .int .i64 v, .int .i64 q, .slice A ts.length c] 24 (0, 0)) ∧ W.heap[mp]? = some (.map kindsEs 4)) (ds := [11]) #[false, false, false, false, false, false, false, false, false, false, false, false, false] (by kernel_rfl) rfl rfl ⟨HI.out.blk, HI.out.box, HI.out.map⟩ (fun hHeld => ?_)
              have HJ := Aside0.mk (HI.out.step hBw (below_drew (Below.refl wr.heap.size wr)))
              clear HI z0
              generalize wr.drew = W0 at HJ hHeld ⊢
              refine pure_ (i := 0) (N := some 34) (v := ?_) (a' := ?_) #[true, false, false, false, false, false, false, false, false, false, false, false, false] rfl rfl (by kernel_rfl) (fun _ _ _ h => h) (Or.inl ⟨by rfl, ?_⟩) ?_ ?_
              rotate_left
              · intro w'
                go_simp
                with_reducible rfl
              rotate_left
              · simp only [Act.put, List.setIfInBounds_toArray, List.set_cons_zero, List.set_cons_succ, i64_w, i32_w]
                rfl
              refine pure_ (i := 1) (N := some 35) (v := ?_) (a' := ?_) #[true, true, false, false, false, false, false, false, false, false, false, false, false] rfl rfl (by kernel_rfl) (fun _ _ _ h => h) (Or.inl ⟨by rfl, ?_⟩) ?_ ?_
              rotate_left
              · intro w'
                go_simp
                with_reducible rfl
              rotate_left
              · simp only [Act.put, List.setIfInBounds_toArray, List.set_cons_zero, List.set_cons_succ, i64_w, i32_w]
                rfl
              refine pure_ (i := 2) (N := some 36) (v := ?_) (a' := ?_) #[true, true, true, false, false, false, false, false, false, false, false, false, false] rfl rfl (by kernel_rfl) (fun _ _ _ h => h) (Or.inl ⟨by rfl, ?_⟩) ?_ ?_
              rotate_left
              · intro w'
                go_simp
                with_reducible rfl
              rotate_left
              · simp only [Act.put, List.setIfInBounds_toArray, List.set_cons_zero, List.set_cons_succ, i64_w, i32_w]
                rfl
              refine pure_ (i := 3) (N := some 37) (v := ?_) (a' := ?_) #[true, true, true, true, false, false, false, false, false, false, false, false, false] rfl rfl (by kernel_rfl) (fun _ _ _ h => h) (Or.inl ⟨by rfl, ?_⟩) ?_ ?_
              rotate_left
              · intro w'
                go_simp
                with_reducible rfl
              rotate_left
              · simp only [Act.put, List.setIfInBounds_toArray, List.set_cons_zero, List.set_cons_succ, i64_w, i32_w]
                rfl
              refine pure_ (i := 5) (N := some 39) (v := ?_) (a' := ?_) #[true, true, true, true, false, true, false, false, false, false, false, false, false] rfl rfl (by kernel_rfl) (fun _ _ _ h => h) (Or.inl ⟨by rfl, ?_⟩) ?_ ?_
              rotate_left
              · intro w'
                go_simp
                with_reducible rfl
              rotate_left
              · simp only [Act.put, List.setIfInBounds_toArray, List.set_cons_zero, List.set_cons_succ, i64_w, i32_w]
                rfl
              refine pure_ (i := 10) (N := some 44) (v := ?_) (a' := ?_) #[true, true, true, true, false, true, false, false, false, false, true, false, false] rfl rfl (by kernel_rfl) (fun _ _ _ h => h) (Or.inl ⟨by rfl, ?_⟩) ?_ ?_
              rotate_left
              · intro w'
                go_simp
                with_reducible rfl
              rotate_left
              · simp only [Act.put, List.setIfInBounds_toArray, List.set_cons_zero, List.set_cons_succ, i64_w, i32_w]
                rfl
              refine take_ (i := 4) (N := some 38) (v := ?_) (a' := ?_) #[true, true, true, true, true, true, false, false, false, false, true, false, false] rfl rfl (by kernel_rfl) (fun _ _ _ h => h) (Or.inl ⟨by rfl, ?_⟩) hHeld ?_ ?_
              rotate_left
              · rintro w' ⟨hw0, hw1, hw2⟩
                have hc0 := blk_cell hw0 2
                go_simp
                with_reducible rfl
              rotate_left
              · simp only [Act.put, List.setIfInBounds_toArray, List.set_cons_zero, List.set_cons_succ, i64_w, i32_w]
                rfl
              refine take_ (i := 6) (N := some 40) (v := ?_) (a' := ?_) #[true, true, true, true, true, true, true, false, false, false, true, false, false] rfl rfl (by kernel_rfl) (fun _ _ _ h => h) (Or.inl ⟨by rfl, ?_⟩) hHeld ?_ ?_
              rotate_left
              · rintro w' ⟨hw0, hw1, hw2⟩
                have hc0 := blk_cell hw1 0
                go_simp
                with_reducible rfl
              rotate_left
              · simp only [Act.put, List.setIfInBounds_toArray, List.set_cons_zero, List.set_cons_succ, i64_w, i32_w]
                rfl
              refine take_ (i := 7) (N := some 41) (v := ?_) (a' := ?_) #[true, true, true, true, true, true, true, true, false, false, true, false, false] rfl rfl (by kernel_rfl) (fun _ _ _ h => h) (Or.inl ⟨by rfl, ?_⟩) hHeld ?_ ?_
              rotate_left
              · rintro w' ⟨hw0, hw1, hw2⟩
                have hc0 := run_lookup_int (P := Try.prog) Try.underlying82 Try.underlying3 hw2 kind _ ik HFIND.out
                go_simp
                with_reducible rfl
              rotate_left
              · simp only [Act.put, List.setIfInBounds_toArray, List.set_cons_zero, List.set_cons_succ, i64_w, i32_w]
                rfl
              refine take_ (i := 8) (N := some 42) (v := ?_) (a' := ?_) #[true, true, true, true, true, true, true, true, true, false, true, false, false] rfl rfl (by kernel_rfl) (fun _ _ _ h => h) (Or.inl ⟨by rfl, ?_⟩) hHeld ?_ ?_
              rotate_left
              · rintro w' ⟨hw0, hw1, hw2⟩
                have hc0 := blk_cell hw1 0; have hc1 := blk_cell hw1 1; have hc2 := blk_cell hw1 2; have hc3 := blk_cell hw1 3
                go_simp
                with_reducible rfl
              rotate_left
              · simp only [Act.put, List.setIfInBounds_toArray, List.set_cons_zero, List.set_cons_succ, i64_w, i32_w]
                rfl
              refine one_ (i := 9) (N := some 43) #[true, true, true, true, true, true, true, true, true, true, true, false, false] rfl rfl (by kernel_rfl) (by decide) (fun K hK => ?_)
              refine call_ fk #[.agg #[.int .i64 kind, .int .i64 v, .int .i64 q, .slice A ts.length c]] (by rfl) rfl ?hrun_ ?_
              case hrun_ => unfold execOp; simp [resolve, Deferred.ofValue, invoke, Act.eval, HENT.out]
              refine (HTHR.out A c _).mono ?_
              rintro e w3 ⟨rfl, hb3⟩
              refine ⟨_, rfl, ?_⟩
              have HJ3 := Aside0.mk (HJ.out.step hBw hb3)
              clear HJ hb3 HTHR HENT HFIND
              refine hK.out _ _ ⟨HJ3.out.blk, HJ3.out.box, HJ3.out.map⟩ (fun hHeld => ?_)
              clear hK K
              refine norm_ (a' := ?_) ?_ ?_
              rotate_left
              · show Act.put _ (some 43) _ = _
                simp only [Act.put, List.setIfInBounds_toArray, List.set_cons_zero, List.set_cons_succ, i64_w, i32_w]
                rfl
              refine last_ (i := 11) (N := some 45) #[true, true, true, true, true, true, true, true, true, true, true, true, false] rfl rfl (by kernel_rfl) (by decide) (fun K hK => ?_)
              refine goes_ Try.func74 (by kernel_rfl) rfl #[.pointer (some ⟨g, 0, none⟩), .int .i64 (thr kind v q ts.length), .slice A5 (litsF ts next).1.length c5] (by rfl) rfl rfl (by simp only [List.map_toArray, List.map_cons, List.map_nil]; rfl) ?_
              refine (fresh.calls B g (fun q_ => (ok q_ ∨ w.heap.size ≤ q_) ∧ q_ ≠ w.heap.size ∧ some q_ ≠ (Value.slice A5 (litsF ts next).1.length c5).ownBlock) vl' (l ++ (litsF ts next).2.1) (litsF ts next).2.2 mp (thr kind v q ts.length) w.heap.size A5 c5 (litsF ts next).1 _ HJ3.out.blk hB HJ3.out.row HOK3.out HJ3.out.lrow (by rw [HLL2.out]; omega) (by rw [List.length_append]; omega) (by omega) hnx HLB.out).mono ?_
              rintro e w4 ⟨rfl, vl4, hp4⟩
              refine ⟨_, rfl, ?_⟩
              have HJ4 := Aside0.mk (HJ3.out.call (by have := blk_lt HG.out; omega) hp4)
              clear HJ3 hp4
              refine hK.out _ _ ?_
              clear hK K
              refine norm_ (a' := ?_) ?_ ?_
              rotate_left
              · show Act.put _ (some 45) _ = _
                simp only [Act.put, List.setIfInBounds_toArray, List.set_cons_zero, List.set_cons_succ, i64_w, i32_w]
                rfl
              refine pure_ (i := 12) (N := some 4) (v := ?_) (a' := ?_) #[true, true, true, true, true, true, true, true, true, true, true, true, true] rfl rfl (by kernel_rfl) (fun _ _ _ h => h) (Or.inl ⟨by rfl, ?_⟩) ?_ ?_
              rotate_left
              · intro w'
                go_simp
                with_reducible rfl
              rotate_left
              · simp only [Act.put, List.setIfInBounds_toArray, List.set_cons_zero, List.set_cons_succ, i64_w, i32_w]
                rfl
              refine done_ (by kernel_rfl) ?_
              go_wp2_with fail
              go_ret
              exact .inl ⟨by rw [HLIT.out]; simp only; omega, by rw [HLIT.out]; rfl, vl4, by rw [HLIT.out]; exact HJ4.out.post⟩
            · go_wp2_with fail
              refine start_ (n := 13) (S := fun W => W.heap[g]? = some (.cells #[vl', .int .i64 (litsF ts next).2.2, .map (some mp)] 85 (0, 0)) ∧ W.heap[w.heap.size]? = some (.cells #[.int .i64 kind, .int .i64 v, .int .i64 q, .slice A ts.length c] 24 (0, 0)) ∧ W.heap[mp]? = some (.map kindsEs 4)) (ds := [11]) #[false, false, false, false, false, false, false, false, false, false, false, false, false] (by kernel_rfl) rfl rfl ⟨HI.out.blk, HI.out.box, HI.out.map⟩ (fun hHeld => ?_)
              have HJ := Aside0.mk (HI.out.step hBw (below_drew (Below.refl wr.heap.size wr)))
              clear HI z0
              generalize wr.drew = W0 at HJ hHeld ⊢
              refine pure_ (i := 0) (N := some 34) (v := ?_) (a' := ?_) #[true, false, false, false, false, false, false, false, false, false, false, false, false] rfl rfl (by kernel_rfl) (fun _ _ _ h => h) (Or.inl ⟨by rfl, ?_⟩) ?_ ?_
              rotate_left
              · intro w'
                go_simp
                with_reducible rfl
              rotate_left
              · simp only [Act.put, List.setIfInBounds_toArray, List.set_cons_zero, List.set_cons_succ, i64_w, i32_w]
                rfl
              refine pure_ (i := 1) (N := some 35) (v := ?_) (a' := ?_) #[true, true, false, false, false, false, false, false, false, false, false, false, false] rfl rfl (by kernel_rfl) (fun _ _ _ h => h) (Or.inl ⟨by rfl, ?_⟩) ?_ ?_
              rotate_left
              · intro w'
                go_simp
                with_reducible rfl
              rotate_left
              · simp only [Act.put, List.setIfInBounds_toArray, List.set_cons_zero, List.set_cons_succ, i64_w, i32_w]
                rfl
              refine pure_ (i := 2) (N := some 36) (v := ?_) (a' := ?_) #[true, true, true, false, false, false, false, false, false, false, false, false, false] rfl rfl (by kernel_rfl) (fun _ _ _ h => h) (Or.inl ⟨by rfl, ?_⟩) ?_ ?_
              rotate_left
              · intro w'
                go_simp
                with_reducible rfl
              rotate_left
              · simp only [Act.put, List.setIfInBounds_toArray, List.set_cons_zero, List.set_cons_succ, i64_w, i32_w]
                rfl
              refine pure_ (i := 3) (N := some 37) (v := ?_) (a' := ?_) #[true, true, true, true, false, false, false, false, false, false, false, false, false] rfl rfl (by kernel_rfl) (fun _ _ _ h => h) (Or.inl ⟨by rfl, ?_⟩) ?_ ?_
              rotate_left
              · intro w'
                go_simp
                with_reducible rfl
              rotate_left
              · simp only [Act.put, List.setIfInBounds_toArray, List.set_cons_zero, List.set_cons_succ, i64_w, i32_w]
                rfl
              refine pure_ (i := 5) (N := some 39) (v := ?_) (a' := ?_) #[true, true, true, true, false, true, false, false, false, false, false, false, false] rfl rfl (by kernel_rfl) (fun _ _ _ h => h) (Or.inl ⟨by rfl, ?_⟩) ?_ ?_
              rotate_left
              · intro w'
                go_simp
                with_reducible rfl
              rotate_left
              · simp only [Act.put, List.setIfInBounds_toArray, List.set_cons_zero, List.set_cons_succ, i64_w, i32_w]
                rfl
              refine pure_ (i := 10) (N := some 44) (v := ?_) (a' := ?_) #[true, true, true, true, false, true, false, false, false, false, true, false, false] rfl rfl (by kernel_rfl) (fun _ _ _ h => h) (Or.inl ⟨by rfl, ?_⟩) ?_ ?_
              rotate_left
              · intro w'
                go_simp
                with_reducible rfl
              rotate_left
              · simp only [Act.put, List.setIfInBounds_toArray, List.set_cons_zero, List.set_cons_succ, i64_w, i32_w]
                rfl
              refine take_ (i := 4) (N := some 38) (v := ?_) (a' := ?_) #[true, true, true, true, true, true, false, false, false, false, true, false, false] rfl rfl (by kernel_rfl) (fun _ _ _ h => h) (Or.inl ⟨by rfl, ?_⟩) hHeld ?_ ?_
              rotate_left
              · rintro w' ⟨hw0, hw1, hw2⟩
                have hc0 := blk_cell hw0 2
                go_simp
                with_reducible rfl
              rotate_left
              · simp only [Act.put, List.setIfInBounds_toArray, List.set_cons_zero, List.set_cons_succ, i64_w, i32_w]
                rfl
              refine take_ (i := 6) (N := some 40) (v := ?_) (a' := ?_) #[true, true, true, true, true, true, true, false, false, false, true, false, false] rfl rfl (by kernel_rfl) (fun _ _ _ h => h) (Or.inl ⟨by rfl, ?_⟩) hHeld ?_ ?_
              rotate_left
              · rintro w' ⟨hw0, hw1, hw2⟩
                have hc0 := blk_cell hw1 0
                go_simp
                with_reducible rfl
              rotate_left
              · simp only [Act.put, List.setIfInBounds_toArray, List.set_cons_zero, List.set_cons_succ, i64_w, i32_w]
                rfl
              refine take_ (i := 7) (N := some 41) (v := ?_) (a' := ?_) #[true, true, true, true, true, true, true, true, false, false, true, false, false] rfl rfl (by kernel_rfl) (fun _ _ _ h => h) (Or.inl ⟨by rfl, ?_⟩) hHeld ?_ ?_
              rotate_left
              · rintro w' ⟨hw0, hw1, hw2⟩
                have hc0 := run_lookup_int (P := Try.prog) Try.underlying82 Try.underlying3 hw2 kind _ ik HFIND.out
                go_simp
                with_reducible rfl
              rotate_left
              · simp only [Act.put, List.setIfInBounds_toArray, List.set_cons_zero, List.set_cons_succ, i64_w, i32_w]
                rfl
              refine take_ (i := 8) (N := some 42) (v := ?_) (a' := ?_) #[true, true, true, true, true, true, true, true, true, false, true, false, false] rfl rfl (by kernel_rfl) (fun _ _ _ h => h) (Or.inl ⟨by rfl, ?_⟩) hHeld ?_ ?_
              rotate_left
              · rintro w' ⟨hw0, hw1, hw2⟩
                have hc0 := blk_cell hw1 0; have hc1 := blk_cell hw1 1; have hc2 := blk_cell hw1 2; have hc3 := blk_cell hw1 3
                go_simp
                with_reducible rfl
              rotate_left
              · simp only [Act.put, List.setIfInBounds_toArray, List.set_cons_zero, List.set_cons_succ, i64_w, i32_w]
                rfl
              refine one_ (i := 9) (N := some 43) #[true, true, true, true, true, true, true, true, true, true, true, false, false] rfl rfl (by kernel_rfl) (by decide) (fun K hK => ?_)
              refine call_ fk #[.agg #[.int .i64 kind, .int .i64 v, .int .i64 q, .slice A ts.length c]] (by rfl) rfl ?hrun_ ?_
              case hrun_ => unfold execOp; simp [resolve, Deferred.ofValue, invoke, Act.eval, HENT.out]
              refine (HTHR.out A c _).mono ?_
              rintro e w3 ⟨rfl, hb3⟩
              refine ⟨_, rfl, ?_⟩
              have HJ3 := Aside0.mk (HJ.out.step hBw hb3)
              clear HJ hb3 HTHR HENT HFIND
              refine hK.out _ _ ⟨HJ3.out.blk, HJ3.out.box, HJ3.out.map⟩ (fun hHeld => ?_)
              clear hK K
              refine norm_ (a' := ?_) ?_ ?_
              rotate_left
              · show Act.put _ (some 43) _ = _
                simp only [Act.put, List.setIfInBounds_toArray, List.set_cons_zero, List.set_cons_succ, i64_w, i32_w]
                rfl
              refine last_ (i := 11) (N := some 45) #[true, true, true, true, true, true, true, true, true, true, true, true, false] rfl rfl (by kernel_rfl) (by decide) (fun K hK => ?_)
              refine callp_step 74 #[.pointer (some ⟨g, 0, none⟩), .int .i64 (thr kind v q ts.length), .slice A5 (litsF ts next).1.length c5] (by rfl) ?hrun_ ?_
              case hrun_ => have he := enters_ (P := Try.prog) Try.func74 (by kernel_rfl) rfl; unfold execOp; simp [resolve, Deferred.ofValue, invoke, Act.eval, he]
              refine (fresh.panics g vl' _ _ _ A5 c5 _ _ HJ3.out.blk (by omega)).mono ?_
              rintro e w4 ⟨rfl, hb4⟩
              refine ⟨_, rfl, ?_⟩
              have HBE := Aside0.mk (HJ3.out.below.trans (hb4.mono (Nat.le_trans hBw HJ3.out.kept.1)))
              clear HJ3 hb4 hK K
              go_wp2_with fail
              exact ⟨rfl, .inr ⟨by rw [HLIT.out]; simp only; omega, rfl, HBE.out⟩⟩
end Go.Proofs.Ytkcmkoolcakfjaa.P

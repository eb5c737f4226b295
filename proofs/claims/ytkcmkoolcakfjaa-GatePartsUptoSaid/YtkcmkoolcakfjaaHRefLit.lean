/- (*Maker).literal of the reference, and its Check and Gates. -/
import Derived.Test.YtkcmkoolcakfjaaHPlain
import Derived.Test.YtkcmkoolcakfjaaHMay
namespace Go.Proofs.Ytkcmkoolcakfjaa.P
open Go.RowKit Go.Proofs.YtkcmkoolcakfjaaW.PrintWords Go.Proofs.YtkcmkoolcakfjaaW.PrintLast Go.Proofs.YtkcmkoolcakfjaaW.PrintMore Go.Proofs.Ytkcmkoolcakfjaa.Aid
set_option linter.unusedVariables false
set_option linter.unusedSimpArgs false

/-- What a call leaves of the maker in block g: its row has some constraints more; nothing else that lay is turned. -/
structure RPost (B g : Nat) (ok : Nat → Prop) (vl : Value) (l : List S40) (w w' : World) (vl' : Value) (next' : Int) (news : List S40) : Prop where
  blk : w'.heap[g]? = some (.cells #[vl', .int .i64 next'] 62 (0, 0))
  row : Kd.N k40 40 w' B (fun k => ok k ∨ w.heap.size ≤ k) vl' (l ++ news)
  at_ : vl'.ownBlock = vl.ownBlock ∨ ∃ b, vl'.ownBlock = some b ∧ w.heap.size ≤ b
  below : Below B w w'
  kept : Kept w w' (fun k => k = g ∨ some k = vl.ownBlock)
section
variable {B g : Nat} {ok ok1 : Nat → Prop} {vl vl1 vl2 : Value} {l n1 n2 : List S40} {w w1 w1' w2 : World} {next1 next2 : Int}
theorem RPost.refl (hg : w.heap[g]? = some (.cells #[vl, .int .i64 next1] 62 (0, 0))) (hN : Kd.N k40 40 w B ok vl l) : RPost B g ok vl l w w vl next1 [] :=
  ⟨hg, by rw [List.append_nil]; exact Kd.N_mono hN (fun k hk => .inl hk), .inl rfl, Below.refl _ _, Kept.refl _ _⟩
/-- New blocks behind the call. -/
theorem RPost.step (h : RPost B g ok vl l w w1 vl1 next1 n1) (hB : B ≤ w.heap.size) (hb : Below w1.heap.size w1 w2) : RPost B g ok vl l w w2 vl1 next1 n1 :=
  ⟨blk_below h.blk hb, Kd.N_below h.row hb, h.at_, h.below.trans (hb.mono (Nat.le_trans hB h.below.size)), h.kept.below hb⟩
theorem RPost.trans (h : RPost B g ok vl l w w1 vl1 next1 n1) (k : RPost B g (fun k => ok k ∨ w.heap.size ≤ k) vl1 (l ++ n1) w1 w2 vl2 next2 n2) : RPost B g ok vl l w w2 vl2 next2 (n1 ++ n2) :=
  ⟨k.blk, by
    have hr := k.row
    rw [List.append_assoc] at hr
    exact Kd.N_mono hr (fun q hq => by
      rcases hq with hq | hq
      · exact hq
      · exact .inr (Nat.le_trans h.below.size hq)), by
    rcases k.at_ with e | ⟨b, e, hb⟩
    · rw [e]; exact h.at_
    · exact .inr ⟨b, e, Nat.le_trans h.below.size hb⟩, h.below.trans k.below, h.kept.then_ k.kept (fun q hq => by
    rcases hq with hq | hq
    · exact .inl (.inl hq)
    · rcases h.at_ with e | ⟨b, e, hb⟩
      · rw [e] at hq; exact .inl (.inr hq)
      · rw [e] at hq; injection hq with hq; subst hq; exact .inr hb)⟩
/-- What the call was told of may be told in fewer words. -/
theorem RPost.mono (h : RPost B g ok1 vl l w w1 vl1 next1 n1) (hok : ∀ k, ok1 k → ok k) : RPost B g ok vl l w w1 vl1 next1 n1 :=
  ⟨h.blk, Kd.N_mono h.row (fun k hk => hk.imp (hok k) id), h.at_, h.below, h.kept⟩
end

/-- What the loop over a node's operands keeps. -/
structure RInv (B g : Nat) (ok : Nat → Prop) (vl : Value) (l : List S40) (w wr : World) (vl' : Value) (next' : Int) (news : List S40) (b1 : Nat) (bx : Array Value) (v5 : Value) (lits : List Int) : Prop where
  blk : wr.heap[g]? = some (.cells #[vl', .int .i64 next'] 62 (0, 0))
  row : Kd.N k40 40 wr B (fun q => (ok q ∨ w.heap.size ≤ q) ∧ q ≠ b1 ∧ some q ≠ v5.ownBlock) vl' (l ++ news)
  at_ : vl'.ownBlock = vl.ownBlock ∨ ∃ b, vl'.ownBlock = some b ∧ w.heap.size ≤ b
  below : Below B w wr
  kept : Kept w wr (fun k => k = g ∨ some k = vl.ownBlock)
  lrow : IRow wr w.heap.size v5 lits
  box : wr.heap[b1]? = some (.cells bx 24 (0, 0))

section
variable {B g b1 : Nat} {ok : Nat → Prop} {vl vl' vl2 v5 : Value} {l n1 n2 : List S40} {w wr W w2 : World} {nx nx2 next : Int} {bx : Array Value} {lits : List Int}
theorem RInv.start (hg : w.heap[g]? = some (.cells #[vl, .int .i64 next] 62 (0, 0))) (hN : Kd.N k40 40 w B ok vl l) (hB : B ≤ w.heap.size) : RInv B g ok vl l w (w.alloc (.cells bx 24)) vl next [] w.heap.size bx (.slice none 0 0) [] :=
  ⟨blk_alloc hg _, by
    rw [List.append_nil]
    refine Kd.N_mono (Kd.N_alloc (Kd.N_bound hN) _) (fun k hk => ⟨.inl hk.1, by have := hk.2; omega, by simp [Value.ownBlock]⟩), .inl rfl, (Below.refl _ _).alloc hB _, (Kept.refl _ _).alloc _, Row.nil _ _ _ _, blk_new w _⟩
theorem RInv.step (h : RInv B g ok vl l w wr vl' nx n1 b1 bx v5 lits) (hB : B ≤ w.heap.size) (hb : Below wr.heap.size wr W) : RInv B g ok vl l w W vl' nx n1 b1 bx v5 lits :=
  ⟨blk_below h.blk hb, Kd.N_below h.row hb, h.at_, h.below.trans (hb.mono (Nat.le_trans hB h.below.size)), h.kept.below hb, h.lrow.below hb, blk_below h.box hb⟩
/-- Behind a call that works on the maker. -/
theorem RInv.call (h : RInv B g ok vl l w wr vl' nx n1 b1 bx v5 lits) (hb1 : b1 ≠ g) (k : RPost B g (fun q => (ok q ∨ w.heap.size ≤ q) ∧ q ≠ b1 ∧ some q ≠ v5.ownBlock) vl' (l ++ n1) wr W vl2 nx2 n2) : RInv B g ok vl l w W vl2 nx2 (n1 ++ n2) b1 bx v5 lits := by
  have hv : ∀ q, vl'.ownBlock = some q → (ok q ∨ w.heap.size ≤ q) ∧ q ≠ b1 ∧ some q ≠ v5.ownBlock := h.row.1
  have hv5 : ∀ q, v5.ownBlock = some q → q ≠ g := h.lrow.ne_block h.blk (by decide)
  refine ⟨k.blk, ?_, ?_, h.below.trans k.below, h.kept.then_ k.kept (fun q hq => ?_), h.lrow.move (fun q hq => k.kept.2 q (h.lrow.lt q hq).2 (fun hs => ?_)), ?_⟩
  · have hr := k.row
    rw [List.append_assoc] at hr
    exact Kd.N_mono hr (fun q hq => by
      rcases hq with hq | hq
      · exact hq
      · refine ⟨.inr (Nat.le_trans h.below.size hq), fun e => ?_, fun e => ?_⟩
        · subst e; have := blk_lt h.box; omega
        · have := (h.lrow.lt q e.symm).2; omega)
  · rcases k.at_ with e | ⟨b, e, hb⟩
    · rw [e]; exact h.at_
    · exact .inr ⟨b, e, Nat.le_trans h.below.size hb⟩
  · rcases hq with hq | hq
    · exact .inl (.inl hq)
    · rcases h.at_ with e | ⟨b, e, hb⟩
      · rw [e] at hq; exact .inl (.inr hq)
      · rw [e] at hq; injection hq with hq; subst hq; exact .inr hb
  · rcases hs with hs | hs
    · exact hv5 q hq hs
    · exact (hv q hs.symm).2.2 hq.symm
  · exact (k.kept.2 b1 (blk_lt h.box) (fun hs => by
      rcases hs with hs | hs
      · exact hb1 hs
      · exact (hv b1 hs.symm).2.1 rfl)).trans h.box
/-- The literal appended. -/
theorem RInv.app (h : RInv B g ok vl l w wr vl' nx n1 b1 bx v5 lits) (hB : B ≤ w.heap.size) {v6 : Value} {lits' : List Int} (hg : wr.grownBy W v5.ownBlock) (hr : IRow W w.heap.size v6 lits') (hat : v6.ownBlock = v5.ownBlock ∨ v6.ownBlock = some wr.heap.size) : RInv B g ok vl l w W vl' nx n1 b1 bx v6 lits' := by
  have hvl : ∀ q, v5.ownBlock = some q → w.heap.size ≤ q ∧ q < wr.heap.size := h.lrow.lt
  refine ⟨blk_grown h.blk hg (fun e => h.lrow.ne_block h.blk (by decide) g e.symm rfl), ?_, h.at_, h.below.grown hg (Nat.le_trans hB h.below.size) (fun q hq => Nat.le_trans hB (hvl q hq).1), Kept.of_grown hg h.kept (fun q hq => .inr (hvl q hq).1), hr, blk_grown h.box hg (fun e => h.lrow.ne_block h.box (by decide) b1 e.symm rfl)⟩
  · refine Kd.N_mono (Kd.N_step (Kd.N_bound h.row) (fun q hq hlt => hg.block q hlt hq.1.2.2)) (fun q hq => ⟨hq.1.1, hq.1.2.1, fun e => ?_⟩)
    rcases hat with hat | hat
    · rw [hat] at e; exact hq.1.2.2 e
    · rw [hat] at e; injection e with e; have := hq.2; omega
/-- What it says of the maker alone. -/
theorem RInv.post (h : RInv B g ok vl l w wr vl' nx n1 b1 bx v5 lits) : RPost B g ok vl l w wr vl' nx n1 := ⟨h.blk, Kd.N_mono h.row (fun _ hq => hq.1), h.at_, h.below, h.kept⟩
end
theorem RPost.from_alloc {B g : Nat} {ok : Nat → Prop} {vl vl1 : Value} {l n1 : List S40} {w w1 : World} {next1 : Int} {o : Obj} (h : RPost B g ok vl l (w.alloc o) w1 vl1 next1 n1) (hB : B ≤ w.heap.size) : RPost B g ok vl l w w1 vl1 next1 n1 := by
  have hs : (w.alloc o).heap.size = w.heap.size + 1 := by simp
  exact ⟨h.blk, Kd.N_mono h.row (fun k hk => hk.imp id (fun h2 => by omega)), h.at_.imp id (fun ⟨b, e, hb⟩ => ⟨b, e, by omega⟩),
    ((Below.refl B w).alloc hB o).trans h.below, ((Kept.refl w _).alloc o).then_ h.kept (fun k hk => .inl hk)⟩
theorem sizeTs_take (ts : List S24) (i : Int) (h0 : 0 ≤ i) (h1 : i < ts.length) : sizeTs (ts.take i.toNat) + sizeT (rd_T24 ts i) ≤ sizeTs ts := by
  have e := take_T24 ts i h0 h1
  have h : ∀ a b : List S24, sizeTs (a ++ b) = sizeTs a + sizeTs b := by
    intro a b
    induction a with
    | nil => simp [sizeTs]
    | cons x a ih => simp only [List.cons_append, sizeTs, ih]; omega
  have h2 := h (ts.take (i + 1).toNat) (ts.drop (i + 1).toNat)
  rw [List.take_append_drop, e, h] at h2
  simp only [sizeTs] at h2
  omega

mutual
/-- At most one new variable for each node. -/
theorem litF_up : ∀ (t : S24) (next : Int), (litF t next).2.2 ≤ next + sizeT t
  | ⟨kind, v, q, l⟩, next => by
    have h := litsF_up l next
    unfold litF
    simp only [sizeT]
    push_cast
    split
    · simp only; omega
    · split
      · simp only; omega
      · simp only; omega
theorem litsF_up : ∀ (ts : List S24) (next : Int), (litsF ts next).2.2 ≤ next + sizeTs ts
  | [], next => by simp [litsF, sizeTs]
  | t :: ts, next => by
    have h1 := litF_up t next
    have h2 := litsF_up ts (litF t next).2.2
    simp only [litsF, sizeTs]
    push_cast
    omega
end
mutual
theorem litF_wide : ∀ (t : S24) (n next : Int), n ≤ 65536 → 1 ≤ next → formedT t n = true → (litF t next).2.2 ≤ 4398046511104 → -4398046511104 ≤ (litF t next).1 ∧ (litF t next).1 ≤ 4398046511104
  | ⟨kind, v, q, l⟩, n, next, hn, h1, hf, hb => by
    simp only [formedT, Bool.and_eq_true] at hf
    obtain ⟨hf1, hf2⟩ := hf
    have hg := litsF_grows l next
    unfold litF at hb ⊢
    split
    · rename_i hk
      rw [if_pos hk] at hb
      subst hk
      simp [formedF] at hf1
      simp only
      omega
    · rename_i hk
      rw [if_neg hk] at hb
      split
      · rename_i hk3
        rw [if_pos hk3] at hb
        have hl := litsF_wide l n next hn h1 hf2 hb
        cases hll : (litsF l next).1 with
        | nil => simp
        | cons a r =>
          have := hl a (by rw [hll]; exact List.mem_cons_self)
          simp only [List.headD_cons]
          omega
      · rename_i hk3
        rw [if_neg hk3] at hb
        simp only at hb ⊢
        omega
theorem litsF_wide : ∀ (ts : List S24) (n next : Int), n ≤ 65536 → 1 ≤ next → formedTs ts n = true → (litsF ts next).2.2 ≤ 4398046511104 → ∀ y ∈ (litsF ts next).1, -4398046511104 ≤ y ∧ y ≤ 4398046511104
  | [], n, next, hn, h1, hf, hb => by intro y hy; simp [litsF] at hy
  | t :: ts, n, next, hn, h1, hf, hb => by
    simp only [formedTs, Bool.and_eq_true] at hf
    have hg := litF_grows t next
    have hg2 := litsF_grows ts (litF t next).2.2
    simp only [litsF] at hb
    intro y hy
    simp only [litsF, List.mem_cons] at hy
    rcases hy with rfl | hy
    · exact litF_wide t n next hn h1 hf.1 (by omega)
    · exact litsF_wide ts n (litF t next).2.2 hn (by omega) hf.2 hb y hy
end
theorem RInv.next {B g b1 : Nat} {ok : Nat → Prop} {vl vl' v5 : Value} {l n1 : List S40} {w wr : World} {nx : Int} {bx : Array Value} {lits : List Int} (h : RInv B g ok vl l w wr vl' nx n1 b1 bx v5 lits) (hB : B ≤ g) (hg : g < w.heap.size) (hok : ∀ k, ok k → k ≠ g) (nx' : Int) :
    RInv B g ok vl l w (wr.setCell ⟨g, 1, none⟩ (.int .i64 nx')) vl' nx' n1 b1 bx v5 lits :=
  ⟨blk_put h.blk 1 _ rfl, Kd.N_far (p := ⟨g, 1, none⟩) h.row (fun k hk => by
      rcases hk.1 with h2 | h2
      · exact hok k h2
      · show k ≠ g; omega) _, h.at_, h.below.setCell hB _, h.kept.setCell (.inl (.inl rfl)) _, h.lrow.far (fun k hk => h.lrow.ne_block h.blk (by decide) k hk) _, blk_far h.box (blk_ne h.box h.blk (by decide)) _⟩

set_option maxRecDepth 100000 in
set_option maxHeartbeats 20000000 in
theorem rlit.calls (n : Int) (hn : n ≤ 65536) (w0 : World) (B g : Nat) (hB0 : w0.heap.size ≤ B) (hB : B ≤ g) (N : Nat) : ∀ (T : S24) (ok : Nat → Prop) (vl : Value) (l : List S40) (next : Int) (A : Option Addr) (c : Nat) (w : World),
    sizeT T ≤ N → Below w0.heap.size w0 w → Kd.C k24 w0 A T.f3.length T.f3 → T.f3.length ≤ c → formedT T n = true → wideT T = false →
    w.heap[g]? = some (.cells #[vl, .int .i64 next] 62 (0, 0)) → Kd.N k40 40 w B ok vl l → (∀ k, ok k → k ≠ g) → 1 ≤ next → next + sizeT T ≤ 274877906944 → (l.length : Int) ≤ 2 * next + 100 →
    Calls Try.prog 32 #[.pointer (some ⟨g, 0, none⟩), .agg #[.int .i64 T.f0, .int .i64 T.f1, .int .i64 T.f2, .slice A T.f3.length c]] w fun e w' =>
      e = .returned (.int .i64 (litF T next).1) ∧ ∃ vl', RPost B g ok vl l w w' vl' (litF T next).2.2 (litF T next).2.1 := by
  induction N with
  | zero => intro T; intros; have : 1 ≤ sizeT T := by { cases T; simp [sizeT] }; omega
  | succ N ih =>
    rintro ⟨kind, v, q, ts⟩ ok vl l next A c w hsz hW0 hC hc hf hwide hg hN hok hn1 hn2 hll
    simp only at hC hc ⊢
    have hfk : formedF kind v q ts.length n = true := by simp only [formedT, Bool.and_eq_true] at hf; exact hf.1
    have hfs : formedTs ts n = true := by simp only [formedT, Bool.and_eq_true] at hf; exact hf.2
    have hlen : ts.length ≤ 4095 := by simp only [wideT, Bool.or_eq_false_iff, decide_eq_false_iff_not] at hwide; omega
    have hws : wideTs ts = false := by simp only [wideT, Bool.or_eq_false_iff] at hwide; exact hwide.2
    simp only [sizeT] at hsz hn2
    have hup := litsF_up ts next
    have hgrw := litsF_grows ts next
    clear hf hwide
    have HFK := Aside0.mk hfk
    have HFS := Aside0.mk hfs
    have HWS := Aside0.mk hws
    have HG := Aside0.mk hg
    have HN := Aside0.mk hN
    have HOK := Aside0.mk hok
    have HW0 := Aside0.mk hW0
    have HC := Aside0.mk hC
    have IH := Aside0.mk ih
    clear hfk hfs hws hg hN hok hW0 hC ih
    have hBw : B ≤ w.heap.size := by have := blk_lt HG.out; omega
    by_cases h2 : kind = 2
    · subst h2
      clear hup hgrw
      go_enter Try.func32, Try.ntmps32
      go_wp2_with fail
      go_ret
      refine ⟨by simp [litF], vl, ?_⟩
      have h := (RPost.refl HG.out HN.out).step hBw (below_alloc (Below.refl w.heap.size w) (.cells #[.int .i64 2, .int .i64 v, .int .i64 q, .slice A ts.length c] 24))
      simpa [litF] using h
    · have h2b : (kind == 2) = false := by simpa using h2
      have HL0 := Aside0.mk (RInv.start (bx := #[.int .i64 kind, .int .i64 v, .int .i64 q, .slice A ts.length c]) HG.out HN.out hBw)
      by_cases h3 : kind = 3
      · subst h3
        have h1 : ts.length = 1 := by
          have h := HFK.out
          simp [formedF] at h
          exact h.2.2
        obtain ⟨t, rfl⟩ := List.length_eq_one_iff.1 h1
        clear h1 hlen hup hgrw
        obtain ⟨ad, A3, c3, rfl, x0, x1, x2, x3, hl3, hi3⟩ := at_T24 HC.out 0 (by omega) (by simp)
        have ht : rd_T24 [t] 0 = t := rfl
        rw [ht] at x0 x1 x2 x3 hl3 hi3
        have HBW0 := Aside0.mk (below_step HW0.out (below_alloc (Below.refl w.heap.size w) (.cells #[.int .i64 3, .int .i64 v, .int .i64 q, .slice (some ad) [t].length c] 24)))
        replace x0 := (HBW0.out.cell (World.block_lt_of_cell? w0 _ x0)).trans x0
        replace x1 := (HBW0.out.cell (World.block_lt_of_cell? w0 _ x1)).trans x1
        replace x2 := (HBW0.out.cell (World.block_lt_of_cell? w0 _ x2)).trans x2
        replace x3 := (HBW0.out.cell (World.block_lt_of_cell? w0 _ x3)).trans x3
        simp only [sizeTs] at hsz hn2
        have hft := formedTs_mem HFS.out t List.mem_cons_self
        have hup := litF_up t next
        have hgr := (litF_grows t next).1
        have hlw := litF_wide t n next hn hn1 hft (by omega)
        have HCALL := Aside0.mk (IH.out t ok vl l next A3 c3 _ (by omega) HBW0.out hi3 hl3 hft (wideTs_mem HWS.out t List.mem_cons_self) (blk_alloc HG.out (.cells #[.int .i64 3, .int .i64 v, .int .i64 q, .slice (some ad) [t].length c] 24)) (Kd.N_alloc HN.out _) HOK.out hn1 (by omega) hll)
        have hneg : wrap64 (-(litF t next).1) = -(litF t next).1 := w64 _ (by omega)
        have HNEG := Aside0.mk hneg
        have HLIT : Aside0 (litF ⟨3, v, q, [t]⟩ next = (-(litF t next).1, (litF t next).2.1, (litF t next).2.2)) := ⟨by simp [litF, litsF]⟩
        clear hft hi3 hl3 hup hgr hneg
        simp only [List.length_cons, List.length_nil, Nat.zero_add] at hc HCALL ⊢
        simp [Addr.add] at x0 x1 x2 x3
        go_enter Try.func32, Try.ntmps32
        go_wp2_with (go_at_call 32; refine HCALL.out.mono ?_; rintro e w2 ⟨rfl, vl2, hp⟩; have HP := Aside0.mk (hp.from_alloc hBw); clear hp HCALL; obtain ⟨x, hx⟩ : ∃ x, (litF t next).1 = x := ⟨_, rfl⟩; rw [hx] at HLIT HNEG hlw ⊢; clear hx)
        go_ret
        refine ⟨by rw [HLIT.out]; rfl, vl2, ?_⟩
        rw [HLIT.out]
        exact HP.out
      · have h3b : (kind == 3) = false := by simpa using h3
        go_enter Try.func32, Try.ntmps32
        go_wp2_with fail
        go_loopw [5, 28] (fun v5 v28 wr => ∃ (i : Int) (vl' : Value), 0 ≤ i ∧ i ≤ ts.length ∧ v28 = .int .i64 i ∧ Aside0 (RInv B g ok vl l w wr vl' (litsF (ts.take i.toNat) next).2.2 (litsF (ts.take i.toNat) next).2.1 w.heap.size #[.int .i64 kind, .int .i64 v, .int .i64 q, .slice A ts.length c] v5 (litsF (ts.take i.toNat) next).1)) (fun _ v28 _ => (ts.length - intOf v28).toNat)
        case atStart => exact ⟨0, vl, by omega, by omega, rfl, HL0⟩
        case round =>
          clear HL0
          obtain ⟨i, vl', hi0, hi1, rfl, HI⟩ := hrel
          by_cases hlt : i < ts.length
          · have hmem := rd_T24_mem ts i hi0 hlt
            have hsz0 := size_mem _ hmem
            have hsz1 : sizeT (rd_T24 ts i) ≤ N := by omega
            obtain ⟨ad, A3, c3, rfl, x0, x1, x2, x3, hl3, hi3⟩ := at_T24 HC.out i hi0 hlt
            have HBW0 := Aside0.mk (HW0.out.trans (HI.out.below.mono hB0))
            replace x0 := (HBW0.out.cell (World.block_lt_of_cell? w0 _ x0)).trans x0
            replace x1 := (HBW0.out.cell (World.block_lt_of_cell? w0 _ x1)).trans x1
            replace x2 := (HBW0.out.cell (World.block_lt_of_cell? w0 _ x2)).trans x2
            replace x3 := (HBW0.out.cell (World.block_lt_of_cell? w0 _ x3)).trans x3
            have hgr := litsF_grows (ts.take i.toNat) next
            have hupt := litsF_up (ts.take i.toNat) next
            have hss := sizeTs_take ts i hi0 hlt
            have hsn := litsF_snoc (ts.take i.toNat) (rd_T24 ts i) next
            rw [← take_T24 ts i hi0 hlt] at hsn
            have HSN := Aside0.mk hsn
            clear hsn
            obtain ⟨nx, hnx⟩ : ∃ nx, (litsF (ts.take i.toNat) next).2.2 = nx := ⟨_, rfl⟩
            obtain ⟨n1, hn1_⟩ : ∃ n1, (litsF (ts.take i.toNat) next).2.1 = n1 := ⟨_, rfl⟩
            obtain ⟨ls, hls⟩ : ∃ ls, (litsF (ts.take i.toNat) next).1 = ls := ⟨_, rfl⟩
            have hlsl : ls.length ≤ 4095 := by rw [← hls, litsF_length]; simp; omega
            rw [hnx, hn1_, hls] at HI HSN
            rw [hnx, hn1_] at hgr
            rw [hnx] at hupt
            clear hnx hn1_ hls
            obtain ⟨hgr1, hgr2⟩ := hgr
            have HL1 := Aside0.mk (HI.out.step hBw (below_alloc (Below.refl wr.heap.size wr) (.cells #[.int .i64 (rd_T24 ts i).f0, .int .i64 (rd_T24 ts i).f1, .int .i64 (rd_T24 ts i).f2, .slice A3 (rd_T24 ts i).f3.length c3] 24)))
            have hcall := IH.out (rd_T24 ts i) (fun q_ => (ok q_ ∨ w.heap.size ≤ q_) ∧ q_ ≠ w.heap.size ∧ some q_ ≠ u5.ownBlock) vl' (l ++ n1) nx A3 c3 _ hsz1 (below_step HBW0.out (below_alloc (Below.refl _ _) _)) hi3 hl3 (formedTs_mem HFS.out _ hmem) (wideTs_mem HWS.out _ hmem) HL1.out.blk HL1.out.row (fun q_ hq => by
              rcases hq.1 with h | h
              · exact HOK.out q_ h
              · have := blk_lt HG.out; have := hq.2.1; omega) (by omega) (by omega) (by simp only [List.length_append]; omega)
            have HCALL := Aside0.mk hcall
            clear hcall hmem hi3 hl3 hup hgrw
            go_wp2_with fail
            refine HCALL.out.mono ?_
            rintro e w2 ⟨rfl, vl2, hp⟩
            have HL2 := Aside0.mk (HL1.out.call (by have := blk_lt HG.out; omega) hp)
            have HL3 := Aside0.mk (HL2.out.step hBw (below_alloc (Below.refl w2.heap.size w2) (.cells #[.int .i64 (litF (rd_T24 ts i) nx).1] 3)))
            obtain ⟨x, hx⟩ : ∃ x, (litF (rd_T24 ts i) nx).1 = x := ⟨_, rfl⟩
            rw [hx] at HL3 ⊢
            rw [hx] at HSN
            clear hx hp x0 x1 x2 x3 HCALL HL1
            go_wp2_with (refine app1_list (enc := Value.int .i64) w.heap.size rfl (.tmp 32) (.tmp 36) 34 3 (.int .i64 0) 8 rfl Try.underlying34 info3 rfl (by decide) (fun _ => rfl) (v := u5) (xs := ls) (y := x) (b := w2.heap.size) rfl rfl HL3.out.lrow (blk_new _ _) (by have := HL3.out.lrow; have := HL3.out.below.size; have := HL3.out.kept.1; exact this) (by omega) ?_; intro v6 w6 hr6 hg6 ha6 _; have HL6 := Aside0.mk (HL3.out.app hBw hg6 hr6 ha6); clear hr6 hg6 ha6)
            go_roundw
            case rel => exact ⟨i + 1, vl2, by omega, by omega, by go_num, ⟨by rw [HSN.out]; exact HL6.out⟩⟩
            case measure => simp [intOf]; omega
          · have hi : i = ts.length := by omega
            subst hi
            rw [Int.toNat_natCast, List.take_length] at HI
            clear hlt hi0 hi1
            have hlb := litsF_wide ts n next hn hn1 HFS.out (by omega)
            have hll2 := litsF_length ts next
            have z0 : wr.cell? ⟨w.heap.size, 0, none⟩ = some (.int .i64 kind) := (blk_cell HI.out.box 0).trans rfl
            have z1 : wr.cell? ⟨w.heap.size, 1, none⟩ = some (.int .i64 v) := (blk_cell HI.out.box 1).trans rfl
            have z2 : wr.cell? ⟨w.heap.size, 2, none⟩ = some (.int .i64 q) := (blk_cell HI.out.box 2).trans rfl
            have HLIT : Aside0 (litF ⟨kind, v, q, ts⟩ next = ((litsF ts next).2.2, (litsF ts next).2.1 ++ sumsF (litsF ts next).2.2 (thr kind v q ts.length) (litsF ts next).1, (litsF ts next).2.2 + 1)) := ⟨by simp only [litF]; rw [if_neg h2, if_neg h3]⟩
            obtain ⟨nx, hnx⟩ : ∃ nx, (litsF ts next).2.2 = nx := ⟨_, rfl⟩
            obtain ⟨n1, hn1_⟩ : ∃ n1, (litsF ts next).2.1 = n1 := ⟨_, rfl⟩
            obtain ⟨ls, hls⟩ : ∃ ls, (litsF ts next).1 = ls := ⟨_, rfl⟩
            rw [hnx, hn1_, hls] at HI HLIT
            rw [hnx, hn1_] at hgrw
            rw [hnx] at hup
            rw [hls] at hlb hll2
            clear hnx hn1_ hls
            obtain ⟨hgr1, hgr2⟩ := hgrw
            have HLL : Aside0 (l.length + n1.length ≤ 1099511627776) := ⟨by omega⟩
            have HW0' : Aside0 (w.heap.size ≤ wr.heap.size) := ⟨HI.out.kept.1⟩
            have c0 := (blk_cell HI.out.blk 0)
            have c1 : wr.cell? ⟨g, 1, none⟩ = some (.int .i64 nx) := (blk_cell HI.out.blk 1).trans rfl
            have f1 := blk_frozen HI.out.blk 1
            obtain ⟨A5, c5, e5, _, _⟩ := HI.out.lrow.reads (h1 := fun _ => rfl)
            obtain ⟨Av, cv, ev⟩ := Kd.N_slice HI.out.row
            obtain ⟨nv, hnv⟩ : ∃ m, m = (l ++ n1).length := ⟨_, rfl⟩
            rw [← hnv] at ev
            clear hnv
            subst e5 ev
            have HJ := Aside0.mk (HI.out.next hB (blk_lt HG.out) HOK.out (nx + 1))
            have hnxb : nx ≤ 1099511627776 := by omega
            have hls4 : ls.length ≤ 4095 := by omega
            have HLL2 := Aside0.mk hll2
            clear hll2
            have hk : kind = 1 ∨ kind = 4 ∨ kind = 5 ∨ kind = 6 := by
              have h := HFK.out
              unfold formedF at h
              by_cases k1 : kind = 1
              · exact .inl k1
              · by_cases k4 : kind = 4
                · exact .inr (.inl k4)
                · by_cases k5 : kind = 5
                  · exact .inr (.inr (.inl k5))
                  · by_cases k6 : kind = 6
                    · exact .inr (.inr (.inr k6))
                    · simp [h2, h3, k1, k4, k5, k6] at h
            clear HI hup h2 h3 h2b h3b
            rcases hk with rfl | rfl | rfl | rfl
            · have hv : v = 0 ∨ v = 1 := by
                have h := HFK.out
                simp [formedF] at h
                exact h.2.1
              rcases hv with rfl | rfl
              · obtain ⟨KS, hsum⟩ := sums_tells nx 1 ls (by omega) (by omega) (by omega) (fun y hy => by have := hlb y hy; omega)
                have HSUM := Aside0.mk hsum
                clear hsum hlb
                replace HLIT : Aside0 (litF ⟨1, 0, q, ts⟩ next = (nx, n1 ++ sumsF nx 1 ls, nx + 1)) := ⟨by rw [HLIT.out]; rfl⟩
                go_wp2_with fail
                refine start_ (n := 13) (S := fun W => W.heap[g]? = some (.cells #[.slice Av nv cv, .int .i64 (nx + 1)] 62 (0, 0))) (ds := [12]) #[false, false, false, false, false, false, false, false, false, false, false, false, false] (by kernel_rfl) rfl rfl HJ.out.blk (fun hHeld => ?_)
                replace HJ := Aside0.mk (HJ.out.step hBw (below_drew (Below.refl _ _)))
                generalize (wr.setCell ⟨g, 1, none⟩ (.int .i64 (nx + 1))).drew = W0 at HJ hHeld ⊢
                refine pure_ (i := 0) (N := some 65) (v := ?_) (a' := ?_) #[true, false, false, false, false, false, false, false, false, false, false, false, false] rfl rfl (by kernel_rfl) (fun _ _ _ h => h) (Or.inl ⟨by rfl, ?_⟩) ?_ ?_
                rotate_left
                · intro w'
                  go_simp
                  with_reducible rfl
                rotate_left
                · simp only [Act.put, List.setIfInBounds_toArray, List.set_cons_zero, List.set_cons_succ, i64_w, i32_w]
                  rfl
                refine pure_ (i := 1) (N := some 66) (v := ?_) (a' := ?_) #[true, true, false, false, false, false, false, false, false, false, false, false, false] rfl rfl (by kernel_rfl) (fun _ _ _ h => h) (Or.inl ⟨by rfl, ?_⟩) ?_ ?_
                rotate_left
                · intro w'
                  go_simp
                  with_reducible rfl
                rotate_left
                · simp only [Act.put, List.setIfInBounds_toArray, List.set_cons_zero, List.set_cons_succ, i64_w, i32_w]
                  rfl
                refine pure_ (i := 2) (N := some 67) (v := ?_) (a' := ?_) #[true, true, true, false, false, false, false, false, false, false, false, false, false] rfl rfl (by kernel_rfl) (fun _ _ _ h => h) (Or.inl ⟨by rfl, ?_⟩) ?_ ?_
                rotate_left
                · intro w'
                  go_simp
                  with_reducible rfl
                rotate_left
                · simp only [Act.put, List.setIfInBounds_toArray, List.set_cons_zero, List.set_cons_succ, i64_w, i32_w]
                  rfl
                refine pure_ (i := 3) (N := some 68) (v := ?_) (a' := ?_) #[true, true, true, true, false, false, false, false, false, false, false, false, false] rfl rfl (by kernel_rfl) (fun _ _ _ h => h) (Or.inl ⟨by rfl, ?_⟩) ?_ ?_
                rotate_left
                · intro w'
                  go_simp
                  with_reducible rfl
                rotate_left
                · simp only [Act.put, List.setIfInBounds_toArray, List.set_cons_zero, List.set_cons_succ, i64_w, i32_w]
                  rfl
                refine pure_ (i := 5) (N := some 70) (v := ?_) (a' := ?_) #[true, true, true, true, false, true, false, false, false, false, false, false, false] rfl rfl (by kernel_rfl) (fun _ _ _ h => h) (Or.inl ⟨by rfl, ?_⟩) ?_ ?_
                rotate_left
                · intro w'
                  go_simp
                  with_reducible rfl
                rotate_left
                · simp only [Act.put, List.setIfInBounds_toArray, List.set_cons_zero, List.set_cons_succ, i64_w, i32_w]
                  rfl
                refine pure_ (i := 6) (N := some 71) (v := ?_) (a' := ?_) #[true, true, true, true, false, true, true, false, false, false, false, false, false] rfl rfl (by kernel_rfl) (fun _ _ _ h => h) (Or.inl ⟨by rfl, ?_⟩) ?_ ?_
                rotate_left
                · intro w'
                  go_simp
                  with_reducible rfl
                rotate_left
                · simp only [Act.put, List.setIfInBounds_toArray, List.set_cons_zero, List.set_cons_succ, i64_w, i32_w]
                  rfl
                refine pure_ (i := 7) (N := some 72) (v := ?_) (a' := ?_) #[true, true, true, true, false, true, true, true, false, false, false, false, false] rfl rfl (by kernel_rfl) (fun _ _ _ h => h) (Or.inl ⟨by rfl, ?_⟩) ?_ ?_
                rotate_left
                · intro w'
                  go_simp
                  with_reducible rfl
                rotate_left
                · simp only [Act.put, List.setIfInBounds_toArray, List.set_cons_zero, List.set_cons_succ, i64_w, i32_w]
                  rfl
                refine take_ (i := 4) (N := some 69) (v := ?_) (a' := ?_) #[true, true, true, true, true, true, true, true, false, false, false, false, false] rfl rfl (by kernel_rfl) (fun _ _ _ h => h) (Or.inl ⟨by rfl, ?_⟩) hHeld ?_ ?_
                rotate_left
                · rintro w' hw
                  have hc0 := blk_cell hw 0
                  go_simp
                  with_reducible rfl
                rotate_left
                · simp only [Act.put, List.setIfInBounds_toArray, List.set_cons_zero, List.set_cons_succ, i64_w, i32_w]
                  rfl
                refine one_ (i := 8) (N := some 73) #[true, true, true, true, true, true, true, true, true, false, false, false, false] rfl rfl (by kernel_rfl) (by decide) (fun K hK => ?_)
                refine goes_ Try.func56 (by kernel_rfl) rfl #[.int .i64 nx, .int .i64 1, .slice A5 ls.length c5] (by rfl) rfl rfl (by simp only [List.map_toArray, List.map_cons, List.map_nil]; rfl) ?_
                have hcl := HJ.out.lrow.reads (h1 := fun _ => rfl)
                obtain ⟨A5_, c5_, e5_, hle5, hC5⟩ := hcl
                injection e5_ with e5a _ e5c
                subst e5a e5c
                refine (chalklineref13_sums.calls KS nx 1 A5 c5 ls (sumsF nx 1 ls) W0 hC5 hle5 HSUM.out).mono ?_
                rintro e w3 ⟨v3, rfl, hN3, hb3⟩
                obtain ⟨A3, c3, e3⟩ := Kd.N_slice hN3
                obtain ⟨m3, hm3⟩ : ∃ m, m = (sumsF nx 1 ls).length := ⟨_, rfl⟩
                rw [← hm3] at e3
                subst e3
                refine ⟨_, rfl, ?_⟩
                have HJ3 := Aside0.mk (HJ.out.step hBw hb3)
                have HZ3 := Aside0.mk (fun k_ hk_ => (Kd.N_lt HJ.out.row k_ hk_ : k_ < W0.heap.size))
                have HN3 := Aside0.mk hN3
                have HWZ := Aside0.mk HJ.out.kept.1
                clear HJ hb3 hN3 hC5 hle5
                refine hK.out _ _ HJ3.out.blk (fun hHeld => ?_)
                clear hK K
                refine norm_ (a' := ?_) ?_ ?_
                rotate_left
                · show Act.put _ (some 73) _ = _
                  simp only [Act.put, List.setIfInBounds_toArray, List.set_cons_zero, List.set_cons_succ, i64_w, i32_w]
                  rfl
                refine one_ (i := 9) (N := some 74) #[true, true, true, true, true, true, true, true, true, true, false, false, false] rfl rfl (by kernel_rfl) (by decide) (fun K hK => ?_)
                have hNW : Kd.N k40 40 w3 B (fun k => ok k ∨ w.heap.size ≤ k) (.slice Av nv cv) (l ++ n1) := Kd.N_mono HJ3.out.row (fun k hk => hk.1)
                have hW0 : w.heap.size ≤ W0.heap.size := HWZ.out
                refine Kd.N_append_rows_step k40 (w0 := w) (W := w3) B ?hw_ (.tmp 69) (.tmp 73) 27 40 (.agg #[(.slice none 0 0), (.slice none 0 0), (.int .i64 0)]) 56 ?ho_ Try.underlying27 info40 ?hz_ ?hs0_ (by decide) (.slice Av nv cv) (l ++ n1) (sumsF nx 1 ls) A3 m3 c3 (fun k => ok k ∨ w.heap.size ≤ k) (fun k => W0.heap.size ≤ k) ?hs_ ?hx_ hNW (by have h := HN3.out; rw [hm3] at h ⊢; exact Kd.N_F h) ?hokp (fun k hk => .inr (Nat.le_trans HJ3.out.kept.1 hk)) HJ3.out.below (Nat.le_trans hBw HJ3.out.kept.1) (by have := HLL.out; have := (sumsF_length nx 1 ls).2; simp only [List.length_append]; omega) ?_
                case hw_ => rfl
                case ho_ => rfl
                case hz_ => rfl
                case hs0_ => show 0 < 3; decide
                case hs_ => rfl
                case hx_ => rfl
                case hokp => exact fun k hk => ⟨.inr (Nat.le_trans hW0 hk), fun e => by have := HZ3.out k e.symm; omega⟩
                intro v8 W8 hN8 hb8 hg8 ha8
                have hgne : some g ≠ (Value.slice Av nv cv).ownBlock := fun e => by
                  obtain ⟨cs, hc⟩ := Kd.N_typed HJ3.out.row g e.symm
                  exact blk_ne hc HJ3.out.blk (by decide) rfl
                have hg1 := blk_grown HJ3.out.blk hg8 hgne
                have hk8 : Kept w W8 (fun k => k = g ∨ some k = vl.ownBlock) := Kept.of_grown hg8 HJ3.out.kept (fun k hk => by
                  rcases HJ3.out.at_ with e | ⟨b, e, hb⟩
                  · rw [e] at hk; exact .inl (.inr hk.symm)
                  · rw [e] at hk; injection hk with hk; subst hk; exact .inr hb)
                refine hK.out _ _ hg1 (fun hHeld => ?_)
                clear hK K hNW
                refine norm_ (a' := ?_) ?_ ?_
                rotate_left
                · show Act.put _ (some 74) _ = _
                  simp only [Act.put, List.setIfInBounds_toArray, List.set_cons_zero, List.set_cons_succ, i64_w, i32_w]
                  rfl
                refine pure_ (i := 10) (N := some 75) (v := ?_) (a' := ?_) #[true, true, true, true, true, true, true, true, true, true, true, false, false] rfl rfl (by kernel_rfl) (fun _ _ _ h => h) (Or.inl ⟨by rfl, ?_⟩) ?_ ?_
                rotate_left
                · intro w'
                  go_simp
                  with_reducible rfl
                rotate_left
                · simp only [Act.put, List.setIfInBounds_toArray, List.set_cons_zero, List.set_cons_succ, i64_w, i32_w]
                  rfl
                refine pure_ (i := 11) (N := some 76) (v := ?_) (a' := ?_) #[true, true, true, true, true, true, true, true, true, true, true, true, false] rfl rfl (by kernel_rfl) (fun _ _ _ h => h) (Or.inl ⟨by rfl, ?_⟩) ?_ ?_
                rotate_left
                · intro w'
                  go_simp
                  with_reducible rfl
                rotate_left
                · simp only [Act.put, List.setIfInBounds_toArray, List.set_cons_zero, List.set_cons_succ, i64_w, i32_w]
                  rfl
                have hcz := blk_cell hg1 0
                have hfz := blk_frozen hg1 0
                obtain ⟨A8, c8, e8⟩ := Kd.N_slice hN8
                obtain ⟨n8, hn8⟩ : ∃ n, n = (l ++ n1 ++ sumsF nx 1 ls).length := ⟨_, rfl⟩
                rw [← hn8] at e8
                clear hn8
                subst e8
                refine last_ (i := 12) (N := none) #[true, true, true, true, true, true, true, true, true, true, true, true, true] rfl rfl (by kernel_rfl) (by decide) (fun K hK => ?_)
                refine skip_ (w1 := ?_) (by rfl) rfl ?_ ?_
                rotate_left
                · go_simp
                  rfl
                refine hK.out _ _ ?_
                clear hK K
                refine done_ (by kernel_rfl) ?_
                have hp : RPost B g ok vl l w (W8.setCell ⟨g, 0, none⟩ (.slice A8 n8 c8)) (.slice A8 n8 c8) (nx + 1) (n1 ++ sumsF nx 1 ls) :=
                  ⟨blk_put hg1 0 _ rfl, Kd.N_far (p := ⟨g, 0, none⟩) (by rw [← List.append_assoc]; exact hN8) (fun k hk => by
                      rcases hk with hk | hk
                      · exact HOK.out k hk
                      · have := blk_lt HG.out; show k ≠ g; omega) _, by
                      rcases ha8 with ha8 | ⟨b, ha8, hb⟩
                      · rw [ha8]; exact HJ3.out.at_
                      · exact .inr ⟨b, ha8, Nat.le_trans HJ3.out.kept.1 hb⟩, hb8.setCell hB _, hk8.setCell (.inl (.inl rfl)) _⟩
                have HP := Aside0.mk hp
                clear hp hcz hfz hg1 hk8 hb8 hg8 ha8 hN8 hHeld HJ3
                go_wp2_with fail
                go_ret
                exact ⟨by rw [HLIT.out]; rfl, .slice A8 n8 c8, by rw [HLIT.out]; exact HP.out⟩
              · obtain ⟨KS, hsum⟩ := sums_tells nx 0 ls (by omega) (by omega) (by omega) (fun y hy => by have := hlb y hy; omega)
                have HSUM := Aside0.mk hsum
                clear hsum hlb
                replace HLIT : Aside0 (litF ⟨1, 1, q, ts⟩ next = (nx, n1 ++ sumsF nx 0 ls, nx + 1)) := ⟨by rw [HLIT.out]; rfl⟩
                go_wp2_with fail
                refine start_ (n := 13) (S := fun W => W.heap[g]? = some (.cells #[.slice Av nv cv, .int .i64 (nx + 1)] 62 (0, 0))) (ds := [12]) #[false, false, false, false, false, false, false, false, false, false, false, false, false] (by kernel_rfl) rfl rfl HJ.out.blk (fun hHeld => ?_)
                replace HJ := Aside0.mk (HJ.out.step hBw (below_drew (Below.refl _ _)))
                generalize (wr.setCell ⟨g, 1, none⟩ (.int .i64 (nx + 1))).drew = W0 at HJ hHeld ⊢
                refine pure_ (i := 0) (N := some 65) (v := ?_) (a' := ?_) #[true, false, false, false, false, false, false, false, false, false, false, false, false] rfl rfl (by kernel_rfl) (fun _ _ _ h => h) (Or.inl ⟨by rfl, ?_⟩) ?_ ?_
                rotate_left
                · intro w'
                  go_simp
                  with_reducible rfl
                rotate_left
                · simp only [Act.put, List.setIfInBounds_toArray, List.set_cons_zero, List.set_cons_succ, i64_w, i32_w]
                  rfl
                refine pure_ (i := 1) (N := some 66) (v := ?_) (a' := ?_) #[true, true, false, false, false, false, false, false, false, false, false, false, false] rfl rfl (by kernel_rfl) (fun _ _ _ h => h) (Or.inl ⟨by rfl, ?_⟩) ?_ ?_
                rotate_left
                · intro w'
                  go_simp
                  with_reducible rfl
                rotate_left
                · simp only [Act.put, List.setIfInBounds_toArray, List.set_cons_zero, List.set_cons_succ, i64_w, i32_w]
                  rfl
                refine pure_ (i := 2) (N := some 67) (v := ?_) (a' := ?_) #[true, true, true, false, false, false, false, false, false, false, false, false, false] rfl rfl (by kernel_rfl) (fun _ _ _ h => h) (Or.inl ⟨by rfl, ?_⟩) ?_ ?_
                rotate_left
                · intro w'
                  go_simp
                  with_reducible rfl
                rotate_left
                · simp only [Act.put, List.setIfInBounds_toArray, List.set_cons_zero, List.set_cons_succ, i64_w, i32_w]
                  rfl
                refine pure_ (i := 3) (N := some 68) (v := ?_) (a' := ?_) #[true, true, true, true, false, false, false, false, false, false, false, false, false] rfl rfl (by kernel_rfl) (fun _ _ _ h => h) (Or.inl ⟨by rfl, ?_⟩) ?_ ?_
                rotate_left
                · intro w'
                  go_simp
                  with_reducible rfl
                rotate_left
                · simp only [Act.put, List.setIfInBounds_toArray, List.set_cons_zero, List.set_cons_succ, i64_w, i32_w]
                  rfl
                refine pure_ (i := 5) (N := some 70) (v := ?_) (a' := ?_) #[true, true, true, true, false, true, false, false, false, false, false, false, false] rfl rfl (by kernel_rfl) (fun _ _ _ h => h) (Or.inl ⟨by rfl, ?_⟩) ?_ ?_
                rotate_left
                · intro w'
                  go_simp
                  with_reducible rfl
                rotate_left
                · simp only [Act.put, List.setIfInBounds_toArray, List.set_cons_zero, List.set_cons_succ, i64_w, i32_w]
                  rfl
                refine pure_ (i := 6) (N := some 71) (v := ?_) (a' := ?_) #[true, true, true, true, false, true, true, false, false, false, false, false, false] rfl rfl (by kernel_rfl) (fun _ _ _ h => h) (Or.inl ⟨by rfl, ?_⟩) ?_ ?_
                rotate_left
                · intro w'
                  go_simp
                  with_reducible rfl
                rotate_left
                · simp only [Act.put, List.setIfInBounds_toArray, List.set_cons_zero, List.set_cons_succ, i64_w, i32_w]
                  rfl
                refine pure_ (i := 7) (N := some 72) (v := ?_) (a' := ?_) #[true, true, true, true, false, true, true, true, false, false, false, false, false] rfl rfl (by kernel_rfl) (fun _ _ _ h => h) (Or.inl ⟨by rfl, ?_⟩) ?_ ?_
                rotate_left
                · intro w'
                  go_simp
                  with_reducible rfl
                rotate_left
                · simp only [Act.put, List.setIfInBounds_toArray, List.set_cons_zero, List.set_cons_succ, i64_w, i32_w]
                  rfl
                refine take_ (i := 4) (N := some 69) (v := ?_) (a' := ?_) #[true, true, true, true, true, true, true, true, false, false, false, false, false] rfl rfl (by kernel_rfl) (fun _ _ _ h => h) (Or.inl ⟨by rfl, ?_⟩) hHeld ?_ ?_
                rotate_left
                · rintro w' hw
                  have hc0 := blk_cell hw 0
                  go_simp
                  with_reducible rfl
                rotate_left
                · simp only [Act.put, List.setIfInBounds_toArray, List.set_cons_zero, List.set_cons_succ, i64_w, i32_w]
                  rfl
                refine one_ (i := 8) (N := some 73) #[true, true, true, true, true, true, true, true, true, false, false, false, false] rfl rfl (by kernel_rfl) (by decide) (fun K hK => ?_)
                refine goes_ Try.func56 (by kernel_rfl) rfl #[.int .i64 nx, .int .i64 0, .slice A5 ls.length c5] (by rfl) rfl rfl (by simp only [List.map_toArray, List.map_cons, List.map_nil]; rfl) ?_
                have hcl := HJ.out.lrow.reads (h1 := fun _ => rfl)
                obtain ⟨A5_, c5_, e5_, hle5, hC5⟩ := hcl
                injection e5_ with e5a _ e5c
                subst e5a e5c
                refine (chalklineref13_sums.calls KS nx 0 A5 c5 ls (sumsF nx 0 ls) W0 hC5 hle5 HSUM.out).mono ?_
                rintro e w3 ⟨v3, rfl, hN3, hb3⟩
                obtain ⟨A3, c3, e3⟩ := Kd.N_slice hN3
                obtain ⟨m3, hm3⟩ : ∃ m, m = (sumsF nx 0 ls).length := ⟨_, rfl⟩
                rw [← hm3] at e3
                subst e3
                refine ⟨_, rfl, ?_⟩
                have HJ3 := Aside0.mk (HJ.out.step hBw hb3)
                have HZ3 := Aside0.mk (fun k_ hk_ => (Kd.N_lt HJ.out.row k_ hk_ : k_ < W0.heap.size))
                have HN3 := Aside0.mk hN3
                have HWZ := Aside0.mk HJ.out.kept.1
                clear HJ hb3 hN3 hC5 hle5
                refine hK.out _ _ HJ3.out.blk (fun hHeld => ?_)
                clear hK K
                refine norm_ (a' := ?_) ?_ ?_
                rotate_left
                · show Act.put _ (some 73) _ = _
                  simp only [Act.put, List.setIfInBounds_toArray, List.set_cons_zero, List.set_cons_succ, i64_w, i32_w]
                  rfl
                refine one_ (i := 9) (N := some 74) #[true, true, true, true, true, true, true, true, true, true, false, false, false] rfl rfl (by kernel_rfl) (by decide) (fun K hK => ?_)
                have hNW : Kd.N k40 40 w3 B (fun k => ok k ∨ w.heap.size ≤ k) (.slice Av nv cv) (l ++ n1) := Kd.N_mono HJ3.out.row (fun k hk => hk.1)
                have hW0 : w.heap.size ≤ W0.heap.size := HWZ.out
                refine Kd.N_append_rows_step k40 (w0 := w) (W := w3) B ?hw_ (.tmp 69) (.tmp 73) 27 40 (.agg #[(.slice none 0 0), (.slice none 0 0), (.int .i64 0)]) 56 ?ho_ Try.underlying27 info40 ?hz_ ?hs0_ (by decide) (.slice Av nv cv) (l ++ n1) (sumsF nx 0 ls) A3 m3 c3 (fun k => ok k ∨ w.heap.size ≤ k) (fun k => W0.heap.size ≤ k) ?hs_ ?hx_ hNW (by have h := HN3.out; rw [hm3] at h ⊢; exact Kd.N_F h) ?hokp (fun k hk => .inr (Nat.le_trans HJ3.out.kept.1 hk)) HJ3.out.below (Nat.le_trans hBw HJ3.out.kept.1) (by have := HLL.out; have := (sumsF_length nx 0 ls).2; simp only [List.length_append]; omega) ?_
                case hw_ => rfl
                case ho_ => rfl
                case hz_ => rfl
                case hs0_ => show 0 < 3; decide
                case hs_ => rfl
                case hx_ => rfl
                case hokp => exact fun k hk => ⟨.inr (Nat.le_trans hW0 hk), fun e => by have := HZ3.out k e.symm; omega⟩
                intro v8 W8 hN8 hb8 hg8 ha8
                have hgne : some g ≠ (Value.slice Av nv cv).ownBlock := fun e => by
                  obtain ⟨cs, hc⟩ := Kd.N_typed HJ3.out.row g e.symm
                  exact blk_ne hc HJ3.out.blk (by decide) rfl
                have hg1 := blk_grown HJ3.out.blk hg8 hgne
                have hk8 : Kept w W8 (fun k => k = g ∨ some k = vl.ownBlock) := Kept.of_grown hg8 HJ3.out.kept (fun k hk => by
                  rcases HJ3.out.at_ with e | ⟨b, e, hb⟩
                  · rw [e] at hk; exact .inl (.inr hk.symm)
                  · rw [e] at hk; injection hk with hk; subst hk; exact .inr hb)
                refine hK.out _ _ hg1 (fun hHeld => ?_)
                clear hK K hNW
                refine norm_ (a' := ?_) ?_ ?_
                rotate_left
                · show Act.put _ (some 74) _ = _
                  simp only [Act.put, List.setIfInBounds_toArray, List.set_cons_zero, List.set_cons_succ, i64_w, i32_w]
                  rfl
                refine pure_ (i := 10) (N := some 75) (v := ?_) (a' := ?_) #[true, true, true, true, true, true, true, true, true, true, true, false, false] rfl rfl (by kernel_rfl) (fun _ _ _ h => h) (Or.inl ⟨by rfl, ?_⟩) ?_ ?_
                rotate_left
                · intro w'
                  go_simp
                  with_reducible rfl
                rotate_left
                · simp only [Act.put, List.setIfInBounds_toArray, List.set_cons_zero, List.set_cons_succ, i64_w, i32_w]
                  rfl
                refine pure_ (i := 11) (N := some 76) (v := ?_) (a' := ?_) #[true, true, true, true, true, true, true, true, true, true, true, true, false] rfl rfl (by kernel_rfl) (fun _ _ _ h => h) (Or.inl ⟨by rfl, ?_⟩) ?_ ?_
                rotate_left
                · intro w'
                  go_simp
                  with_reducible rfl
                rotate_left
                · simp only [Act.put, List.setIfInBounds_toArray, List.set_cons_zero, List.set_cons_succ, i64_w, i32_w]
                  rfl
                have hcz := blk_cell hg1 0
                have hfz := blk_frozen hg1 0
                obtain ⟨A8, c8, e8⟩ := Kd.N_slice hN8
                obtain ⟨n8, hn8⟩ : ∃ n, n = (l ++ n1 ++ sumsF nx 0 ls).length := ⟨_, rfl⟩
                rw [← hn8] at e8
                clear hn8
                subst e8
                refine last_ (i := 12) (N := none) #[true, true, true, true, true, true, true, true, true, true, true, true, true] rfl rfl (by kernel_rfl) (by decide) (fun K hK => ?_)
                refine skip_ (w1 := ?_) (by rfl) rfl ?_ ?_
                rotate_left
                · go_simp
                  rfl
                refine hK.out _ _ ?_
                clear hK K
                refine done_ (by kernel_rfl) ?_
                have hp : RPost B g ok vl l w (W8.setCell ⟨g, 0, none⟩ (.slice A8 n8 c8)) (.slice A8 n8 c8) (nx + 1) (n1 ++ sumsF nx 0 ls) :=
                  ⟨blk_put hg1 0 _ rfl, Kd.N_far (p := ⟨g, 0, none⟩) (by rw [← List.append_assoc]; exact hN8) (fun k hk => by
                      rcases hk with hk | hk
                      · exact HOK.out k hk
                      · have := blk_lt HG.out; show k ≠ g; omega) _, by
                      rcases ha8 with ha8 | ⟨b, ha8, hb⟩
                      · rw [ha8]; exact HJ3.out.at_
                      · exact .inr ⟨b, ha8, Nat.le_trans HJ3.out.kept.1 hb⟩, hb8.setCell hB _, hk8.setCell (.inl (.inl rfl)) _⟩
                have HP := Aside0.mk hp
                clear hp hcz hfz hg1 hk8 hb8 hg8 ha8 hN8 hHeld HJ3
                go_wp2_with fail
                go_ret
                exact ⟨by rw [HLIT.out]; rfl, .slice A8 n8 c8, by rw [HLIT.out]; exact HP.out⟩
            · obtain ⟨KS, hsum⟩ := sums_tells nx ls.length ls (by omega) (by omega) (by omega) (fun y hy => by have := hlb y hy; omega)
              have HSUM := Aside0.mk hsum
              replace HLIT : Aside0 (litF ⟨4, v, q, ts⟩ next = (nx, n1 ++ sumsF nx ls.length ls, nx + 1)) := ⟨by rw [HLIT.out, HLL2.out]; rfl⟩
              clear hsum hlb
              go_wp2_with fail
              refine start_ (n := 13) (S := fun W => W.heap[g]? = some (.cells #[.slice Av nv cv, .int .i64 (nx + 1)] 62 (0, 0))) (ds := [12]) #[false, false, false, false, false, false, false, false, false, false, false, false, false] (by kernel_rfl) rfl rfl HJ.out.blk (fun hHeld => ?_)
              replace HJ := Aside0.mk (HJ.out.step hBw (below_drew (Below.refl _ _)))
              generalize (wr.setCell ⟨g, 1, none⟩ (.int .i64 (nx + 1))).drew = W0 at HJ hHeld ⊢
              refine pure_ (i := 0) (N := some 65) (v := ?_) (a' := ?_) #[true, false, false, false, false, false, false, false, false, false, false, false, false] rfl rfl (by kernel_rfl) (fun _ _ _ h => h) (Or.inl ⟨by rfl, ?_⟩) ?_ ?_
              rotate_left
              · intro w'
                go_simp
                with_reducible rfl
              rotate_left
              · simp only [Act.put, List.setIfInBounds_toArray, List.set_cons_zero, List.set_cons_succ, i64_w, i32_w]
                rfl
              refine pure_ (i := 1) (N := some 66) (v := ?_) (a' := ?_) #[true, true, false, false, false, false, false, false, false, false, false, false, false] rfl rfl (by kernel_rfl) (fun _ _ _ h => h) (Or.inl ⟨by rfl, ?_⟩) ?_ ?_
              rotate_left
              · intro w'
                go_simp
                with_reducible rfl
              rotate_left
              · simp only [Act.put, List.setIfInBounds_toArray, List.set_cons_zero, List.set_cons_succ, i64_w, i32_w]
                rfl
              refine pure_ (i := 2) (N := some 67) (v := ?_) (a' := ?_) #[true, true, true, false, false, false, false, false, false, false, false, false, false] rfl rfl (by kernel_rfl) (fun _ _ _ h => h) (Or.inl ⟨by rfl, ?_⟩) ?_ ?_
              rotate_left
              · intro w'
                go_simp
                with_reducible rfl
              rotate_left
              · simp only [Act.put, List.setIfInBounds_toArray, List.set_cons_zero, List.set_cons_succ, i64_w, i32_w]
                rfl
              refine pure_ (i := 3) (N := some 68) (v := ?_) (a' := ?_) #[true, true, true, true, false, false, false, false, false, false, false, false, false] rfl rfl (by kernel_rfl) (fun _ _ _ h => h) (Or.inl ⟨by rfl, ?_⟩) ?_ ?_
              rotate_left
              · intro w'
                go_simp
                with_reducible rfl
              rotate_left
              · simp only [Act.put, List.setIfInBounds_toArray, List.set_cons_zero, List.set_cons_succ, i64_w, i32_w]
                rfl
              refine pure_ (i := 5) (N := some 70) (v := ?_) (a' := ?_) #[true, true, true, true, false, true, false, false, false, false, false, false, false] rfl rfl (by kernel_rfl) (fun _ _ _ h => h) (Or.inl ⟨by rfl, ?_⟩) ?_ ?_
              rotate_left
              · intro w'
                go_simp
                with_reducible rfl
              rotate_left
              · simp only [Act.put, List.setIfInBounds_toArray, List.set_cons_zero, List.set_cons_succ, i64_w, i32_w]
                rfl
              refine pure_ (i := 6) (N := some 71) (v := ?_) (a' := ?_) #[true, true, true, true, false, true, true, false, false, false, false, false, false] rfl rfl (by kernel_rfl) (fun _ _ _ h => h) (Or.inl ⟨by rfl, ?_⟩) ?_ ?_
              rotate_left
              · intro w'
                go_simp
                with_reducible rfl
              rotate_left
              · simp only [Act.put, List.setIfInBounds_toArray, List.set_cons_zero, List.set_cons_succ, i64_w, i32_w]
                rfl
              refine pure_ (i := 7) (N := some 72) (v := ?_) (a' := ?_) #[true, true, true, true, false, true, true, true, false, false, false, false, false] rfl rfl (by kernel_rfl) (fun _ _ _ h => h) (Or.inl ⟨by rfl, ?_⟩) ?_ ?_
              rotate_left
              · intro w'
                go_simp
                with_reducible rfl
              rotate_left
              · simp only [Act.put, List.setIfInBounds_toArray, List.set_cons_zero, List.set_cons_succ, i64_w, i32_w]
                rfl
              refine take_ (i := 4) (N := some 69) (v := ?_) (a' := ?_) #[true, true, true, true, true, true, true, true, false, false, false, false, false] rfl rfl (by kernel_rfl) (fun _ _ _ h => h) (Or.inl ⟨by rfl, ?_⟩) hHeld ?_ ?_
              rotate_left
              · rintro w' hw
                have hc0 := blk_cell hw 0
                go_simp
                with_reducible rfl
              rotate_left
              · simp only [Act.put, List.setIfInBounds_toArray, List.set_cons_zero, List.set_cons_succ, i64_w, i32_w]
                rfl
              refine one_ (i := 8) (N := some 73) #[true, true, true, true, true, true, true, true, true, false, false, false, false] rfl rfl (by kernel_rfl) (by decide) (fun K hK => ?_)
              refine goes_ Try.func56 (by kernel_rfl) rfl #[.int .i64 nx, .int .i64 ls.length, .slice A5 ls.length c5] (by rfl) rfl rfl (by simp only [List.map_toArray, List.map_cons, List.map_nil]; rfl) ?_
              have hcl := HJ.out.lrow.reads (h1 := fun _ => rfl)
              obtain ⟨A5_, c5_, e5_, hle5, hC5⟩ := hcl
              injection e5_ with e5a _ e5c
              subst e5a e5c
              refine (chalklineref13_sums.calls KS nx ls.length A5 c5 ls (sumsF nx ls.length ls) W0 hC5 hle5 HSUM.out).mono ?_
              rintro e w3 ⟨v3, rfl, hN3, hb3⟩
              obtain ⟨A3, c3, e3⟩ := Kd.N_slice hN3
              obtain ⟨m3, hm3⟩ : ∃ m, m = (sumsF nx ls.length ls).length := ⟨_, rfl⟩
              rw [← hm3] at e3
              subst e3
              refine ⟨_, rfl, ?_⟩
              have HJ3 := Aside0.mk (HJ.out.step hBw hb3)
              have HZ3 := Aside0.mk (fun k_ hk_ => (Kd.N_lt HJ.out.row k_ hk_ : k_ < W0.heap.size))
              have HN3 := Aside0.mk hN3
              have HWZ := Aside0.mk HJ.out.kept.1
              clear HJ hb3 hN3 hC5 hle5
              refine hK.out _ _ HJ3.out.blk (fun hHeld => ?_)
              clear hK K
              refine norm_ (a' := ?_) ?_ ?_
              rotate_left
              · show Act.put _ (some 73) _ = _
                simp only [Act.put, List.setIfInBounds_toArray, List.set_cons_zero, List.set_cons_succ, i64_w, i32_w]
                rfl
              refine one_ (i := 9) (N := some 74) #[true, true, true, true, true, true, true, true, true, true, false, false, false] rfl rfl (by kernel_rfl) (by decide) (fun K hK => ?_)
              have hNW : Kd.N k40 40 w3 B (fun k => ok k ∨ w.heap.size ≤ k) (.slice Av nv cv) (l ++ n1) := Kd.N_mono HJ3.out.row (fun k hk => hk.1)
              have hW0 : w.heap.size ≤ W0.heap.size := HWZ.out
              refine Kd.N_append_rows_step k40 (w0 := w) (W := w3) B ?hw_ (.tmp 69) (.tmp 73) 27 40 (.agg #[(.slice none 0 0), (.slice none 0 0), (.int .i64 0)]) 56 ?ho_ Try.underlying27 info40 ?hz_ ?hs0_ (by decide) (.slice Av nv cv) (l ++ n1) (sumsF nx ls.length ls) A3 m3 c3 (fun k => ok k ∨ w.heap.size ≤ k) (fun k => W0.heap.size ≤ k) ?hs_ ?hx_ hNW (by have h := HN3.out; rw [hm3] at h ⊢; exact Kd.N_F h) ?hokp (fun k hk => .inr (Nat.le_trans HJ3.out.kept.1 hk)) HJ3.out.below (Nat.le_trans hBw HJ3.out.kept.1) (by have := HLL.out; have := (sumsF_length nx ls.length ls).2; simp only [List.length_append]; omega) ?_
              case hw_ => rfl
              case ho_ => rfl
              case hz_ => rfl
              case hs0_ => show 0 < 3; decide
              case hs_ => rfl
              case hx_ => rfl
              case hokp => exact fun k hk => ⟨.inr (Nat.le_trans hW0 hk), fun e => by have := HZ3.out k e.symm; omega⟩
              intro v8 W8 hN8 hb8 hg8 ha8
              have hgne : some g ≠ (Value.slice Av nv cv).ownBlock := fun e => by
                obtain ⟨cs, hc⟩ := Kd.N_typed HJ3.out.row g e.symm
                exact blk_ne hc HJ3.out.blk (by decide) rfl
              have hg1 := blk_grown HJ3.out.blk hg8 hgne
              have hk8 : Kept w W8 (fun k => k = g ∨ some k = vl.ownBlock) := Kept.of_grown hg8 HJ3.out.kept (fun k hk => by
                rcases HJ3.out.at_ with e | ⟨b, e, hb⟩
                · rw [e] at hk; exact .inl (.inr hk.symm)
                · rw [e] at hk; injection hk with hk; subst hk; exact .inr hb)
              refine hK.out _ _ hg1 (fun hHeld => ?_)
              clear hK K hNW
              refine norm_ (a' := ?_) ?_ ?_
              rotate_left
              · show Act.put _ (some 74) _ = _
                simp only [Act.put, List.setIfInBounds_toArray, List.set_cons_zero, List.set_cons_succ, i64_w, i32_w]
                rfl
              refine pure_ (i := 10) (N := some 75) (v := ?_) (a' := ?_) #[true, true, true, true, true, true, true, true, true, true, true, false, false] rfl rfl (by kernel_rfl) (fun _ _ _ h => h) (Or.inl ⟨by rfl, ?_⟩) ?_ ?_
              rotate_left
              · intro w'
                go_simp
                with_reducible rfl
              rotate_left
              · simp only [Act.put, List.setIfInBounds_toArray, List.set_cons_zero, List.set_cons_succ, i64_w, i32_w]
                rfl
              refine pure_ (i := 11) (N := some 76) (v := ?_) (a' := ?_) #[true, true, true, true, true, true, true, true, true, true, true, true, false] rfl rfl (by kernel_rfl) (fun _ _ _ h => h) (Or.inl ⟨by rfl, ?_⟩) ?_ ?_
              rotate_left
              · intro w'
                go_simp
                with_reducible rfl
              rotate_left
              · simp only [Act.put, List.setIfInBounds_toArray, List.set_cons_zero, List.set_cons_succ, i64_w, i32_w]
                rfl
              have hcz := blk_cell hg1 0
              have hfz := blk_frozen hg1 0
              obtain ⟨A8, c8, e8⟩ := Kd.N_slice hN8
              obtain ⟨n8, hn8⟩ : ∃ n, n = (l ++ n1 ++ sumsF nx ls.length ls).length := ⟨_, rfl⟩
              rw [← hn8] at e8
              clear hn8
              subst e8
              refine last_ (i := 12) (N := none) #[true, true, true, true, true, true, true, true, true, true, true, true, true] rfl rfl (by kernel_rfl) (by decide) (fun K hK => ?_)
              refine skip_ (w1 := ?_) (by rfl) rfl ?_ ?_
              rotate_left
              · go_simp
                rfl
              refine hK.out _ _ ?_
              clear hK K
              refine done_ (by kernel_rfl) ?_
              have hp : RPost B g ok vl l w (W8.setCell ⟨g, 0, none⟩ (.slice A8 n8 c8)) (.slice A8 n8 c8) (nx + 1) (n1 ++ sumsF nx ls.length ls) :=
                ⟨blk_put hg1 0 _ rfl, Kd.N_far (p := ⟨g, 0, none⟩) (by rw [← List.append_assoc]; exact hN8) (fun k hk => by
                    rcases hk with hk | hk
                    · exact HOK.out k hk
                    · have := blk_lt HG.out; show k ≠ g; omega) _, by
                    rcases ha8 with ha8 | ⟨b, ha8, hb⟩
                    · rw [ha8]; exact HJ3.out.at_
                    · exact .inr ⟨b, ha8, Nat.le_trans HJ3.out.kept.1 hb⟩, hb8.setCell hB _, hk8.setCell (.inl (.inl rfl)) _⟩
              have HP := Aside0.mk hp
              clear hp hcz hfz hg1 hk8 hb8 hg8 ha8 hN8 hHeld HJ3
              go_wp2_with fail
              go_ret
              exact ⟨by rw [HLIT.out]; rfl, .slice A8 n8 c8, by rw [HLIT.out]; exact HP.out⟩
            · obtain ⟨KS, hsum⟩ := sums_tells nx 1 ls (by omega) (by omega) (by omega) (fun y hy => by have := hlb y hy; omega)
              have HSUM := Aside0.mk hsum
              replace HLIT : Aside0 (litF ⟨5, v, q, ts⟩ next = (nx, n1 ++ sumsF nx 1 ls, nx + 1)) := ⟨by rw [HLIT.out]; rfl⟩
              clear hsum hlb
              go_wp2_with fail
              refine start_ (n := 13) (S := fun W => W.heap[g]? = some (.cells #[.slice Av nv cv, .int .i64 (nx + 1)] 62 (0, 0))) (ds := [12]) #[false, false, false, false, false, false, false, false, false, false, false, false, false] (by kernel_rfl) rfl rfl HJ.out.blk (fun hHeld => ?_)
              replace HJ := Aside0.mk (HJ.out.step hBw (below_drew (Below.refl _ _)))
              generalize (wr.setCell ⟨g, 1, none⟩ (.int .i64 (nx + 1))).drew = W0 at HJ hHeld ⊢
              refine pure_ (i := 0) (N := some 65) (v := ?_) (a' := ?_) #[true, false, false, false, false, false, false, false, false, false, false, false, false] rfl rfl (by kernel_rfl) (fun _ _ _ h => h) (Or.inl ⟨by rfl, ?_⟩) ?_ ?_
              rotate_left
              · intro w'
                go_simp
                with_reducible rfl
              rotate_left
              · simp only [Act.put, List.setIfInBounds_toArray, List.set_cons_zero, List.set_cons_succ, i64_w, i32_w]
                rfl
              refine pure_ (i := 1) (N := some 66) (v := ?_) (a' := ?_) #[true, true, false, false, false, false, false, false, false, false, false, false, false] rfl rfl (by kernel_rfl) (fun _ _ _ h => h) (Or.inl ⟨by rfl, ?_⟩) ?_ ?_
              rotate_left
              · intro w'
                go_simp
                with_reducible rfl
              rotate_left
              · simp only [Act.put, List.setIfInBounds_toArray, List.set_cons_zero, List.set_cons_succ, i64_w, i32_w]
                rfl
              refine pure_ (i := 2) (N := some 67) (v := ?_) (a' := ?_) #[true, true, true, false, false, false, false, false, false, false, false, false, false] rfl rfl (by kernel_rfl) (fun _ _ _ h => h) (Or.inl ⟨by rfl, ?_⟩) ?_ ?_
              rotate_left
              · intro w'
                go_simp
                with_reducible rfl
              rotate_left
              · simp only [Act.put, List.setIfInBounds_toArray, List.set_cons_zero, List.set_cons_succ, i64_w, i32_w]
                rfl
              refine pure_ (i := 3) (N := some 68) (v := ?_) (a' := ?_) #[true, true, true, true, false, false, false, false, false, false, false, false, false] rfl rfl (by kernel_rfl) (fun _ _ _ h => h) (Or.inl ⟨by rfl, ?_⟩) ?_ ?_
              rotate_left
              · intro w'
                go_simp
                with_reducible rfl
              rotate_left
              · simp only [Act.put, List.setIfInBounds_toArray, List.set_cons_zero, List.set_cons_succ, i64_w, i32_w]
                rfl
              refine pure_ (i := 5) (N := some 70) (v := ?_) (a' := ?_) #[true, true, true, true, false, true, false, false, false, false, false, false, false] rfl rfl (by kernel_rfl) (fun _ _ _ h => h) (Or.inl ⟨by rfl, ?_⟩) ?_ ?_
              rotate_left
              · intro w'
                go_simp
                with_reducible rfl
              rotate_left
              · simp only [Act.put, List.setIfInBounds_toArray, List.set_cons_zero, List.set_cons_succ, i64_w, i32_w]
                rfl
              refine pure_ (i := 6) (N := some 71) (v := ?_) (a' := ?_) #[true, true, true, true, false, true, true, false, false, false, false, false, false] rfl rfl (by kernel_rfl) (fun _ _ _ h => h) (Or.inl ⟨by rfl, ?_⟩) ?_ ?_
              rotate_left
              · intro w'
                go_simp
                with_reducible rfl
              rotate_left
              · simp only [Act.put, List.setIfInBounds_toArray, List.set_cons_zero, List.set_cons_succ, i64_w, i32_w]
                rfl
              refine pure_ (i := 7) (N := some 72) (v := ?_) (a' := ?_) #[true, true, true, true, false, true, true, true, false, false, false, false, false] rfl rfl (by kernel_rfl) (fun _ _ _ h => h) (Or.inl ⟨by rfl, ?_⟩) ?_ ?_
              rotate_left
              · intro w'
                go_simp
                with_reducible rfl
              rotate_left
              · simp only [Act.put, List.setIfInBounds_toArray, List.set_cons_zero, List.set_cons_succ, i64_w, i32_w]
                rfl
              refine take_ (i := 4) (N := some 69) (v := ?_) (a' := ?_) #[true, true, true, true, true, true, true, true, false, false, false, false, false] rfl rfl (by kernel_rfl) (fun _ _ _ h => h) (Or.inl ⟨by rfl, ?_⟩) hHeld ?_ ?_
              rotate_left
              · rintro w' hw
                have hc0 := blk_cell hw 0
                go_simp
                with_reducible rfl
              rotate_left
              · simp only [Act.put, List.setIfInBounds_toArray, List.set_cons_zero, List.set_cons_succ, i64_w, i32_w]
                rfl
              refine one_ (i := 8) (N := some 73) #[true, true, true, true, true, true, true, true, true, false, false, false, false] rfl rfl (by kernel_rfl) (by decide) (fun K hK => ?_)
              refine goes_ Try.func56 (by kernel_rfl) rfl #[.int .i64 nx, .int .i64 1, .slice A5 ls.length c5] (by rfl) rfl rfl (by simp only [List.map_toArray, List.map_cons, List.map_nil]; rfl) ?_
              have hcl := HJ.out.lrow.reads (h1 := fun _ => rfl)
              obtain ⟨A5_, c5_, e5_, hle5, hC5⟩ := hcl
              injection e5_ with e5a _ e5c
              subst e5a e5c
              refine (chalklineref13_sums.calls KS nx 1 A5 c5 ls (sumsF nx 1 ls) W0 hC5 hle5 HSUM.out).mono ?_
              rintro e w3 ⟨v3, rfl, hN3, hb3⟩
              obtain ⟨A3, c3, e3⟩ := Kd.N_slice hN3
              obtain ⟨m3, hm3⟩ : ∃ m, m = (sumsF nx 1 ls).length := ⟨_, rfl⟩
              rw [← hm3] at e3
              subst e3
              refine ⟨_, rfl, ?_⟩
              have HJ3 := Aside0.mk (HJ.out.step hBw hb3)
              have HZ3 := Aside0.mk (fun k_ hk_ => (Kd.N_lt HJ.out.row k_ hk_ : k_ < W0.heap.size))
              have HN3 := Aside0.mk hN3
              have HWZ := Aside0.mk HJ.out.kept.1
              clear HJ hb3 hN3 hC5 hle5
              refine hK.out _ _ HJ3.out.blk (fun hHeld => ?_)
              clear hK K
              refine norm_ (a' := ?_) ?_ ?_
              rotate_left
              · show Act.put _ (some 73) _ = _
                simp only [Act.put, List.setIfInBounds_toArray, List.set_cons_zero, List.set_cons_succ, i64_w, i32_w]
                rfl
              refine one_ (i := 9) (N := some 74) #[true, true, true, true, true, true, true, true, true, true, false, false, false] rfl rfl (by kernel_rfl) (by decide) (fun K hK => ?_)
              have hNW : Kd.N k40 40 w3 B (fun k => ok k ∨ w.heap.size ≤ k) (.slice Av nv cv) (l ++ n1) := Kd.N_mono HJ3.out.row (fun k hk => hk.1)
              have hW0 : w.heap.size ≤ W0.heap.size := HWZ.out
              refine Kd.N_append_rows_step k40 (w0 := w) (W := w3) B ?hw_ (.tmp 69) (.tmp 73) 27 40 (.agg #[(.slice none 0 0), (.slice none 0 0), (.int .i64 0)]) 56 ?ho_ Try.underlying27 info40 ?hz_ ?hs0_ (by decide) (.slice Av nv cv) (l ++ n1) (sumsF nx 1 ls) A3 m3 c3 (fun k => ok k ∨ w.heap.size ≤ k) (fun k => W0.heap.size ≤ k) ?hs_ ?hx_ hNW (by have h := HN3.out; rw [hm3] at h ⊢; exact Kd.N_F h) ?hokp (fun k hk => .inr (Nat.le_trans HJ3.out.kept.1 hk)) HJ3.out.below (Nat.le_trans hBw HJ3.out.kept.1) (by have := HLL.out; have := (sumsF_length nx 1 ls).2; simp only [List.length_append]; omega) ?_
              case hw_ => rfl
              case ho_ => rfl
              case hz_ => rfl
              case hs0_ => show 0 < 3; decide
              case hs_ => rfl
              case hx_ => rfl
              case hokp => exact fun k hk => ⟨.inr (Nat.le_trans hW0 hk), fun e => by have := HZ3.out k e.symm; omega⟩
              intro v8 W8 hN8 hb8 hg8 ha8
              have hgne : some g ≠ (Value.slice Av nv cv).ownBlock := fun e => by
                obtain ⟨cs, hc⟩ := Kd.N_typed HJ3.out.row g e.symm
                exact blk_ne hc HJ3.out.blk (by decide) rfl
              have hg1 := blk_grown HJ3.out.blk hg8 hgne
              have hk8 : Kept w W8 (fun k => k = g ∨ some k = vl.ownBlock) := Kept.of_grown hg8 HJ3.out.kept (fun k hk => by
                rcases HJ3.out.at_ with e | ⟨b, e, hb⟩
                · rw [e] at hk; exact .inl (.inr hk.symm)
                · rw [e] at hk; injection hk with hk; subst hk; exact .inr hb)
              refine hK.out _ _ hg1 (fun hHeld => ?_)
              clear hK K hNW
              refine norm_ (a' := ?_) ?_ ?_
              rotate_left
              · show Act.put _ (some 74) _ = _
                simp only [Act.put, List.setIfInBounds_toArray, List.set_cons_zero, List.set_cons_succ, i64_w, i32_w]
                rfl
              refine pure_ (i := 10) (N := some 75) (v := ?_) (a' := ?_) #[true, true, true, true, true, true, true, true, true, true, true, false, false] rfl rfl (by kernel_rfl) (fun _ _ _ h => h) (Or.inl ⟨by rfl, ?_⟩) ?_ ?_
              rotate_left
              · intro w'
                go_simp
                with_reducible rfl
              rotate_left
              · simp only [Act.put, List.setIfInBounds_toArray, List.set_cons_zero, List.set_cons_succ, i64_w, i32_w]
                rfl
              refine pure_ (i := 11) (N := some 76) (v := ?_) (a' := ?_) #[true, true, true, true, true, true, true, true, true, true, true, true, false] rfl rfl (by kernel_rfl) (fun _ _ _ h => h) (Or.inl ⟨by rfl, ?_⟩) ?_ ?_
              rotate_left
              · intro w'
                go_simp
                with_reducible rfl
              rotate_left
              · simp only [Act.put, List.setIfInBounds_toArray, List.set_cons_zero, List.set_cons_succ, i64_w, i32_w]
                rfl
              have hcz := blk_cell hg1 0
              have hfz := blk_frozen hg1 0
              obtain ⟨A8, c8, e8⟩ := Kd.N_slice hN8
              obtain ⟨n8, hn8⟩ : ∃ n, n = (l ++ n1 ++ sumsF nx 1 ls).length := ⟨_, rfl⟩
              rw [← hn8] at e8
              clear hn8
              subst e8
              refine last_ (i := 12) (N := none) #[true, true, true, true, true, true, true, true, true, true, true, true, true] rfl rfl (by kernel_rfl) (by decide) (fun K hK => ?_)
              refine skip_ (w1 := ?_) (by rfl) rfl ?_ ?_
              rotate_left
              · go_simp
                rfl
              refine hK.out _ _ ?_
              clear hK K
              refine done_ (by kernel_rfl) ?_
              have hp : RPost B g ok vl l w (W8.setCell ⟨g, 0, none⟩ (.slice A8 n8 c8)) (.slice A8 n8 c8) (nx + 1) (n1 ++ sumsF nx 1 ls) :=
                ⟨blk_put hg1 0 _ rfl, Kd.N_far (p := ⟨g, 0, none⟩) (by rw [← List.append_assoc]; exact hN8) (fun k hk => by
                    rcases hk with hk | hk
                    · exact HOK.out k hk
                    · have := blk_lt HG.out; show k ≠ g; omega) _, by
                    rcases ha8 with ha8 | ⟨b, ha8, hb⟩
                    · rw [ha8]; exact HJ3.out.at_
                    · exact .inr ⟨b, ha8, Nat.le_trans HJ3.out.kept.1 hb⟩, hb8.setCell hB _, hk8.setCell (.inl (.inl rfl)) _⟩
              have HP := Aside0.mk hp
              clear hp hcz hfz hg1 hk8 hb8 hg8 ha8 hN8 hHeld HJ3
              go_wp2_with fail
              go_ret
              exact ⟨by rw [HLIT.out]; rfl, .slice A8 n8 c8, by rw [HLIT.out]; exact HP.out⟩
            · have hq : q ≤ 1099511627776 := by
                have h := HFK.out
                simp [formedF] at h
                omega
              obtain ⟨KS, hsum⟩ := sums_tells nx q ls (by omega) (by omega) (by omega) (fun y hy => by have := hlb y hy; omega)
              have HSUM := Aside0.mk hsum
              replace HLIT : Aside0 (litF ⟨6, v, q, ts⟩ next = (nx, n1 ++ sumsF nx q ls, nx + 1)) := ⟨by rw [HLIT.out]; rfl⟩
              clear hsum hlb
              go_wp2_with fail
              refine start_ (n := 13) (S := fun W => W.heap[g]? = some (.cells #[.slice Av nv cv, .int .i64 (nx + 1)] 62 (0, 0))) (ds := [12]) #[false, false, false, false, false, false, false, false, false, false, false, false, false] (by kernel_rfl) rfl rfl HJ.out.blk (fun hHeld => ?_)
              replace HJ := Aside0.mk (HJ.out.step hBw (below_drew (Below.refl _ _)))
              generalize (wr.setCell ⟨g, 1, none⟩ (.int .i64 (nx + 1))).drew = W0 at HJ hHeld ⊢
              refine pure_ (i := 0) (N := some 65) (v := ?_) (a' := ?_) #[true, false, false, false, false, false, false, false, false, false, false, false, false] rfl rfl (by kernel_rfl) (fun _ _ _ h => h) (Or.inl ⟨by rfl, ?_⟩) ?_ ?_
              rotate_left
              · intro w'
                go_simp
                with_reducible rfl
              rotate_left
              · simp only [Act.put, List.setIfInBounds_toArray, List.set_cons_zero, List.set_cons_succ, i64_w, i32_w]
                rfl
              refine pure_ (i := 1) (N := some 66) (v := ?_) (a' := ?_) #[true, true, false, false, false, false, false, false, false, false, false, false, false] rfl rfl (by kernel_rfl) (fun _ _ _ h => h) (Or.inl ⟨by rfl, ?_⟩) ?_ ?_
              rotate_left
              · intro w'
                go_simp
                with_reducible rfl
              rotate_left
              · simp only [Act.put, List.setIfInBounds_toArray, List.set_cons_zero, List.set_cons_succ, i64_w, i32_w]
                rfl
              refine pure_ (i := 2) (N := some 67) (v := ?_) (a' := ?_) #[true, true, true, false, false, false, false, false, false, false, false, false, false] rfl rfl (by kernel_rfl) (fun _ _ _ h => h) (Or.inl ⟨by rfl, ?_⟩) ?_ ?_
              rotate_left
              · intro w'
                go_simp
                with_reducible rfl
              rotate_left
              · simp only [Act.put, List.setIfInBounds_toArray, List.set_cons_zero, List.set_cons_succ, i64_w, i32_w]
                rfl
              refine pure_ (i := 3) (N := some 68) (v := ?_) (a' := ?_) #[true, true, true, true, false, false, false, false, false, false, false, false, false] rfl rfl (by kernel_rfl) (fun _ _ _ h => h) (Or.inl ⟨by rfl, ?_⟩) ?_ ?_
              rotate_left
              · intro w'
                go_simp
                with_reducible rfl
              rotate_left
              · simp only [Act.put, List.setIfInBounds_toArray, List.set_cons_zero, List.set_cons_succ, i64_w, i32_w]
                rfl
              refine pure_ (i := 5) (N := some 70) (v := ?_) (a' := ?_) #[true, true, true, true, false, true, false, false, false, false, false, false, false] rfl rfl (by kernel_rfl) (fun _ _ _ h => h) (Or.inl ⟨by rfl, ?_⟩) ?_ ?_
              rotate_left
              · intro w'
                go_simp
                with_reducible rfl
              rotate_left
              · simp only [Act.put, List.setIfInBounds_toArray, List.set_cons_zero, List.set_cons_succ, i64_w, i32_w]
                rfl
              refine pure_ (i := 6) (N := some 71) (v := ?_) (a' := ?_) #[true, true, true, true, false, true, true, false, false, false, false, false, false] rfl rfl (by kernel_rfl) (fun _ _ _ h => h) (Or.inl ⟨by rfl, ?_⟩) ?_ ?_
              rotate_left
              · intro w'
                go_simp
                with_reducible rfl
              rotate_left
              · simp only [Act.put, List.setIfInBounds_toArray, List.set_cons_zero, List.set_cons_succ, i64_w, i32_w]
                rfl
              refine pure_ (i := 7) (N := some 72) (v := ?_) (a' := ?_) #[true, true, true, true, false, true, true, true, false, false, false, false, false] rfl rfl (by kernel_rfl) (fun _ _ _ h => h) (Or.inl ⟨by rfl, ?_⟩) ?_ ?_
              rotate_left
              · intro w'
                go_simp
                with_reducible rfl
              rotate_left
              · simp only [Act.put, List.setIfInBounds_toArray, List.set_cons_zero, List.set_cons_succ, i64_w, i32_w]
                rfl
              refine take_ (i := 4) (N := some 69) (v := ?_) (a' := ?_) #[true, true, true, true, true, true, true, true, false, false, false, false, false] rfl rfl (by kernel_rfl) (fun _ _ _ h => h) (Or.inl ⟨by rfl, ?_⟩) hHeld ?_ ?_
              rotate_left
              · rintro w' hw
                have hc0 := blk_cell hw 0
                go_simp
                with_reducible rfl
              rotate_left
              · simp only [Act.put, List.setIfInBounds_toArray, List.set_cons_zero, List.set_cons_succ, i64_w, i32_w]
                rfl
              refine one_ (i := 8) (N := some 73) #[true, true, true, true, true, true, true, true, true, false, false, false, false] rfl rfl (by kernel_rfl) (by decide) (fun K hK => ?_)
              refine goes_ Try.func56 (by kernel_rfl) rfl #[.int .i64 nx, .int .i64 q, .slice A5 ls.length c5] (by rfl) rfl rfl (by simp only [List.map_toArray, List.map_cons, List.map_nil]; rfl) ?_
              have hcl := HJ.out.lrow.reads (h1 := fun _ => rfl)
              obtain ⟨A5_, c5_, e5_, hle5, hC5⟩ := hcl
              injection e5_ with e5a _ e5c
              subst e5a e5c
              refine (chalklineref13_sums.calls KS nx q A5 c5 ls (sumsF nx q ls) W0 hC5 hle5 HSUM.out).mono ?_
              rintro e w3 ⟨v3, rfl, hN3, hb3⟩
              obtain ⟨A3, c3, e3⟩ := Kd.N_slice hN3
              obtain ⟨m3, hm3⟩ : ∃ m, m = (sumsF nx q ls).length := ⟨_, rfl⟩
              rw [← hm3] at e3
              subst e3
              refine ⟨_, rfl, ?_⟩
              have HJ3 := Aside0.mk (HJ.out.step hBw hb3)
              have HZ3 := Aside0.mk (fun k_ hk_ => (Kd.N_lt HJ.out.row k_ hk_ : k_ < W0.heap.size))
              have HN3 := Aside0.mk hN3
              have HWZ := Aside0.mk HJ.out.kept.1
              clear HJ hb3 hN3 hC5 hle5
              refine hK.out _ _ HJ3.out.blk (fun hHeld => ?_)
              clear hK K
              refine norm_ (a' := ?_) ?_ ?_
              rotate_left
              · show Act.put _ (some 73) _ = _
                simp only [Act.put, List.setIfInBounds_toArray, List.set_cons_zero, List.set_cons_succ, i64_w, i32_w]
                rfl
              refine one_ (i := 9) (N := some 74) #[true, true, true, true, true, true, true, true, true, true, false, false, false] rfl rfl (by kernel_rfl) (by decide) (fun K hK => ?_)
              have hNW : Kd.N k40 40 w3 B (fun k => ok k ∨ w.heap.size ≤ k) (.slice Av nv cv) (l ++ n1) := Kd.N_mono HJ3.out.row (fun k hk => hk.1)
              have hW0 : w.heap.size ≤ W0.heap.size := HWZ.out
              refine Kd.N_append_rows_step k40 (w0 := w) (W := w3) B ?hw_ (.tmp 69) (.tmp 73) 27 40 (.agg #[(.slice none 0 0), (.slice none 0 0), (.int .i64 0)]) 56 ?ho_ Try.underlying27 info40 ?hz_ ?hs0_ (by decide) (.slice Av nv cv) (l ++ n1) (sumsF nx q ls) A3 m3 c3 (fun k => ok k ∨ w.heap.size ≤ k) (fun k => W0.heap.size ≤ k) ?hs_ ?hx_ hNW (by have h := HN3.out; rw [hm3] at h ⊢; exact Kd.N_F h) ?hokp (fun k hk => .inr (Nat.le_trans HJ3.out.kept.1 hk)) HJ3.out.below (Nat.le_trans hBw HJ3.out.kept.1) (by have := HLL.out; have := (sumsF_length nx q ls).2; simp only [List.length_append]; omega) ?_
              case hw_ => rfl
              case ho_ => rfl
              case hz_ => rfl
              case hs0_ => show 0 < 3; decide
              case hs_ => rfl
              case hx_ => rfl
              case hokp => exact fun k hk => ⟨.inr (Nat.le_trans hW0 hk), fun e => by have := HZ3.out k e.symm; omega⟩
              intro v8 W8 hN8 hb8 hg8 ha8
              have hgne : some g ≠ (Value.slice Av nv cv).ownBlock := fun e => by
                obtain ⟨cs, hc⟩ := Kd.N_typed HJ3.out.row g e.symm
                exact blk_ne hc HJ3.out.blk (by decide) rfl
              have hg1 := blk_grown HJ3.out.blk hg8 hgne
              have hk8 : Kept w W8 (fun k => k = g ∨ some k = vl.ownBlock) := Kept.of_grown hg8 HJ3.out.kept (fun k hk => by
                rcases HJ3.out.at_ with e | ⟨b, e, hb⟩
                · rw [e] at hk; exact .inl (.inr hk.symm)
                · rw [e] at hk; injection hk with hk; subst hk; exact .inr hb)
              refine hK.out _ _ hg1 (fun hHeld => ?_)
              clear hK K hNW
              refine norm_ (a' := ?_) ?_ ?_
              rotate_left
              · show Act.put _ (some 74) _ = _
                simp only [Act.put, List.setIfInBounds_toArray, List.set_cons_zero, List.set_cons_succ, i64_w, i32_w]
                rfl
              refine pure_ (i := 10) (N := some 75) (v := ?_) (a' := ?_) #[true, true, true, true, true, true, true, true, true, true, true, false, false] rfl rfl (by kernel_rfl) (fun _ _ _ h => h) (Or.inl ⟨by rfl, ?_⟩) ?_ ?_
              rotate_left
              · intro w'
                go_simp
                with_reducible rfl
              rotate_left
              · simp only [Act.put, List.setIfInBounds_toArray, List.set_cons_zero, List.set_cons_succ, i64_w, i32_w]
                rfl
              refine pure_ (i := 11) (N := some 76) (v := ?_) (a' := ?_) #[true, true, true, true, true, true, true, true, true, true, true, true, false] rfl rfl (by kernel_rfl) (fun _ _ _ h => h) (Or.inl ⟨by rfl, ?_⟩) ?_ ?_
              rotate_left
              · intro w'
                go_simp
                with_reducible rfl
              rotate_left
              · simp only [Act.put, List.setIfInBounds_toArray, List.set_cons_zero, List.set_cons_succ, i64_w, i32_w]
                rfl
              have hcz := blk_cell hg1 0
              have hfz := blk_frozen hg1 0
              obtain ⟨A8, c8, e8⟩ := Kd.N_slice hN8
              obtain ⟨n8, hn8⟩ : ∃ n, n = (l ++ n1 ++ sumsF nx q ls).length := ⟨_, rfl⟩
              rw [← hn8] at e8
              clear hn8
              subst e8
              refine last_ (i := 12) (N := none) #[true, true, true, true, true, true, true, true, true, true, true, true, true] rfl rfl (by kernel_rfl) (by decide) (fun K hK => ?_)
              refine skip_ (w1 := ?_) (by rfl) rfl ?_ ?_
              rotate_left
              · go_simp
                rfl
              refine hK.out _ _ ?_
              clear hK K
              refine done_ (by kernel_rfl) ?_
              have hp : RPost B g ok vl l w (W8.setCell ⟨g, 0, none⟩ (.slice A8 n8 c8)) (.slice A8 n8 c8) (nx + 1) (n1 ++ sumsF nx q ls) :=
                ⟨blk_put hg1 0 _ rfl, Kd.N_far (p := ⟨g, 0, none⟩) (by rw [← List.append_assoc]; exact hN8) (fun k hk => by
                    rcases hk with hk | hk
                    · exact HOK.out k hk
                    · have := blk_lt HG.out; show k ≠ g; omega) _, by
                    rcases ha8 with ha8 | ⟨b, ha8, hb⟩
                    · rw [ha8]; exact HJ3.out.at_
                    · exact .inr ⟨b, ha8, Nat.le_trans HJ3.out.kept.1 hb⟩, hb8.setCell hB _, hk8.setCell (.inl (.inl rfl)) _⟩
              have HP := Aside0.mk hp
              clear hp hcz hfz hg1 hk8 hb8 hg8 ha8 hN8 hHeld HJ3
              go_wp2_with fail
              go_ret
              exact ⟨by rw [HLIT.out]; rfl, .slice A8 n8 c8, by rw [HLIT.out]; exact HP.out⟩

end Go.Proofs.Ytkcmkoolcakfjaa.P

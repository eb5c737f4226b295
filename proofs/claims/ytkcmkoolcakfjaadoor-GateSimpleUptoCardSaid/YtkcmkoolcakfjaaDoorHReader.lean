/- The law's Reader: a formula's literal, and the assignment with the values of its new variables. -/
import Derived.Test.YtkcmkoolcakfjaaDoorHSem
namespace Go.Proofs.YtkcmkoolcakfjaaDoor.P
open Go.RowKit Go.Proofs.YtkcmkoolcakfjaaDoorW.PrintWords Go.Proofs.YtkcmkoolcakfjaaDoorW.PrintLast Go.Proofs.YtkcmkoolcakfjaaDoorW.PrintMore Go.Proofs.YtkcmkoolcakfjaaDoor.Aid
set_option linter.unusedVariables false
set_option linter.unusedSimpArgs false

theorem readsF_snoc (ts : List S24) (t : S24) : ∀ A, readsF (ts ++ [t]) A = ((readsF ts A).1 ++ [(readF t (readsF ts A).2.2).1], (readsF ts A).2.1 + (if trueF (readF t (readsF ts A).2.2).1 (readF t (readsF ts A).2.2).2 = true then 1 else 0), (readF t (readsF ts A).2.2).2) := by
  induction ts with
  | nil =>
    intro A
    by_cases h : trueF (readF t A).1 (readF t A).2 = true
    · simp [readsF, h]
    · simp [readsF, h]
  | cons a ts ih =>
    intro A
    simp only [List.cons_append, readsF, ih]
    by_cases h : trueF (readF t (readsF ts (readF a A).2).2.2).1 (readF t (readsF ts (readF a A).2).2.2).2 = true
    · simp [h, Int.add_assoc]
    · simp [h, Int.add_assoc]
theorem readsF_cnt (ts : List S24) : ∀ A, 0 ≤ (readsF ts A).2.1 ∧ (readsF ts A).2.1 ≤ ts.length := by
  induction ts with
  | nil => intro A; simp [readsF]
  | cons a ts ih =>
    intro A
    have := ih (readF a A).2
    simp only [readsF, List.length_cons]
    split <;> omega
mutual
theorem readF_bound : ∀ (t : S24) (n : Int) (A : List Bool), formedT t n = true → n ≤ 65536 → A.length + sizeT t ≤ 2000000 → -2000000 ≤ (readF t A).1 ∧ (readF t A).1 ≤ 2000000 ∧ (readF t A).2.length ≤ A.length + sizeT t
  | ⟨kind, v, q, ts⟩, n, A, hf, hn, hl => by
    simp only [formedT, Bool.and_eq_true] at hf
    simp only [sizeT] at hl ⊢
    have h := readsF_bound ts n A hf.2 hn (by omega)
    rw [readF]
    by_cases k2 : kind = 2
    · subst k2
      have hv := hf.1
      simp [formedF] at hv
      rw [if_pos rfl]
      simp only
      omega
    · rw [if_neg k2]
      by_cases k3 : kind = 3
      · rw [if_pos k3]
        simp only
        have h1 : -2000000 ≤ (readsF ts A).1.headD 0 ∧ (readsF ts A).1.headD 0 ≤ 2000000 := by
          cases hh : (readsF ts A).1 with
          | nil => simp
          | cons y r => simpa using h.1 y (by rw [hh]; exact List.mem_cons_self)
        omega
      · rw [if_neg k3]
        simp only [List.length_append, List.length_singleton]
        omega
theorem readsF_bound : ∀ (ts : List S24) (n : Int) (A : List Bool), formedTs ts n = true → n ≤ 65536 → A.length + sizeTs ts ≤ 2000000 → (∀ y ∈ (readsF ts A).1, -2000000 ≤ y ∧ y ≤ 2000000) ∧ (readsF ts A).2.2.length ≤ A.length + sizeTs ts
  | [], n, A, _, _, _ => by simp [readsF]
  | t :: ts, n, A, hf, hn, hl => by
    simp only [formedTs, Bool.and_eq_true] at hf
    simp only [sizeTs] at hl ⊢
    have h1 := readF_bound t n A hf.1 hn (by omega)
    have h2 := readsF_bound ts n (readF t A).2 hf.2 hn (by omega)
    simp only [readsF, List.mem_cons]
    refine ⟨fun y hy => ?_, by omega⟩
    rcases hy with rfl | hy
    · omega
    · exact h2.1 y hy
end
theorem sizeTs_take (ts : List S24) (i : Nat) : sizeTs (ts.take i) ≤ sizeTs ts := by
  induction ts generalizing i with
  | nil => simp [sizeTs]
  | cons t ts ih =>
    cases i with
    | zero => simp [sizeTs]
    | succ i => simp only [List.take_succ_cons, sizeTs]; have := ih i; omega
theorem formedTs_take {ts : List S24} {n : Int} (h : formedTs ts n = true) (i : Nat) : formedTs (ts.take i) n = true := by
  induction ts generalizing i with
  | nil => simp [formedTs]
  | cons t ts ih =>
    simp only [formedTs, Bool.and_eq_true] at h
    cases i with
    | zero => rfl
    | succ i => simp only [List.take_succ_cons, formedTs, Bool.and_eq_true]; exact ⟨h.1, ih h.2 i⟩
theorem sizeTs_take_at {ts : List S24} {i : Nat} (h : i < ts.length) : sizeTs (ts.take i) + sizeT (rd_T24 ts i) ≤ sizeTs ts := by
  induction ts generalizing i with
  | nil => simp at h
  | cons t ts ih =>
    cases i with
    | zero => simp [sizeTs, rd_T24]
    | succ i =>
      have h1 := ih (i := i) (by simpa using h)
      have e : rd_T24 (t :: ts) ((i + 1 : Nat) : Int) = rd_T24 ts i := by unfold rd_T24; simp
      rw [e]
      simp only [List.take_succ_cons, sizeTs]
      omega
theorem take_T24n {ts : List S24} {i : Nat} (h : i < ts.length) : ts.take (i + 1) = ts.take i ++ [rd_T24 ts i] := by
  rw [List.take_succ_eq_append_getElem h]
  unfold rd_T24
  rw [Int.toNat_natCast, List.getD_eq_getElem?_getD, List.getElem?_eq_getElem h]
  rfl

/-- What a call leaves: the reader's block holds v', a row of its own that reads as A'. -/
structure BPost (B g : Nat) (v : Value) (w w' : World) (v' : Value) (A' : List Bool) : Prop where
  blk : w'.heap[g]? = some (.cells #[v'] 35 (0, 0))
  row : Row Value.bool w' B 4 v' A'
  at_ : v'.ownBlock = v.ownBlock ∨ ∃ b, v'.ownBlock = some b ∧ w.heap.size ≤ b
  below : Below B w w'
  kept : Kept w w' (fun k => k = g ∨ some k = v.ownBlock)
section
variable {B g : Nat} {v v1 v2 : Value} {w w1 w2 : World} {A A1 A2 : List Bool}
theorem BPost.refl (hb : w.heap[g]? = some (.cells #[v] 35 (0, 0))) (hr : Row Value.bool w B 4 v A) : BPost B g v w w v A := ⟨hb, hr, .inl rfl, Below.refl _ _, Kept.refl _ _⟩
theorem BPost.step (h : BPost B g v w w1 v1 A1) (hB : B ≤ w.heap.size) (hb : Below w1.heap.size w1 w2) : BPost B g v w w2 v1 A1 :=
  ⟨blk_below h.blk hb, h.row.below hb, h.at_, h.below.trans (hb.mono (Nat.le_trans hB h.below.size)), h.kept.below hb⟩
theorem BPost.call (h : BPost B g v w w1 v1 A1) (k : BPost B g v1 w1 w2 v2 A2) : BPost B g v w w2 v2 A2 := by
  refine ⟨k.blk, k.row, ?_, h.below.trans k.below, h.kept.then_ k.kept (fun q hq => ?_)⟩
  · rcases k.at_ with h1 | ⟨b, h1, h2⟩
    · rw [h1]; exact h.at_
    · exact .inr ⟨b, h1, Nat.le_trans h.kept.1 h2⟩
  · rcases hq with rfl | hq
    · exact .inl (.inl rfl)
    · rcases h.at_ with h1 | ⟨b, h1, h2⟩
      · exact .inl (.inr (by rw [← h1]; exact hq))
      · rw [h1] at hq
        injection hq with hq
        subst hq
        exact .inr h2
/-- A block of another type is kept. -/
theorem BPost.other (h : BPost B g v w w1 v1 A1) (h0 : w.heap[g]? = some (.cells #[v] 35 (0, 0))) (hr : Row Value.bool w B 4 v A) {b t : Nat} {cs : Array Value} (hb : w.heap[b]? = some (.cells cs t (0, 0))) (h1 : t ≠ 35) (h2 : t ≠ 4) : w1.heap[b]? = some (.cells cs t (0, 0)) := by
  refine blk_kept hb h.kept ?_
  rintro (e | e)
  · exact blk_ne hb h0 h1 e
  · exact hr.ne_block hb (Ne.symm h2) b e.symm rfl
/-- An element appended, and the reader's field set. -/
theorem BPost.put (h : BPost B g v w w1 v1 A1) (hB : B ≤ w.heap.size) (hBg : B ≤ g) {W : World} {y : Bool} (hg : (w1.alloc (.cells #[.bool y] 4)).grownBy W v1.ownBlock) (hr : Row Value.bool W B 4 v2 (A1 ++ [y])) (hat : v2.ownBlock = v1.ownBlock ∨ v2.ownBlock = some (w1.alloc (.cells #[.bool y] 4)).heap.size) : BPost B g v w (W.setCell ⟨g, 0, none⟩ v2) v2 (A1 ++ [y]) := by
  have hgb : W.heap[g]? = some (.cells #[v1] 35 (0, 0)) := blk_grown (blk_alloc h.blk _) hg (fun e => h.row.ne_block h.blk (by decide) g e.symm rfl)
  have hlt : ∀ k, v1.ownBlock = some k → B ≤ k ∧ k < w1.heap.size := h.row.lt
  have hS : ∀ k, v1.ownBlock = some k → (k = g ∨ some k = v.ownBlock) ∨ w.heap.size ≤ k := fun k hk => by
    rcases h.at_ with h1 | ⟨b, h1, h2⟩
    · exact .inl (.inr (by rw [← hk, h1]))
    · rw [h1] at hk; injection hk with hk; subst hk; exact .inr h2
  refine ⟨?_, hr.far (fun k hk => hr.ne_block hgb (by decide) k hk) v2, ?_, ?_, ?_⟩
  · have := blk_set hgb 0 v2
    simpa using this
  · rcases hat with h1 | h1
    · rw [h1]; exact h.at_
    · exact .inr ⟨_, h1, by have := h.kept.1; rw [World.size_alloc]; omega⟩
  · exact ((h.below.alloc (Nat.le_trans hB h.below.size) _).grown hg (by have := h.below.size; rw [World.size_alloc]; omega) (fun k hk => (hlt k hk).1)).setCell hBg v2
  · exact ((h.kept.alloc _).of_grown hg hS).setCell (.inl (.inl rfl)) v2
end

/-- The relation of the loop over a node's operands. -/
structure BInv (B g : Nat) (v : Value) (w wr : World) (vi : Value) (Ai : List Bool) (bx : Array Value) : Prop where
  post : BPost B g v w wr vi Ai
  box : wr.heap[w.heap.size]? = some (.cells bx 24 (0, 0))
theorem info4_ : (Tryd.prog.info? 4).map (fun i => (i.zero, i.size, i.bytes)) = some (some (.bool false), 1, 1) := by kernel_rfl
set_option maxRecDepth 100000 in
set_option maxHeartbeats 4000000 in
theorem reader.calls (n : Int) (hn : n ≤ 65536) (w0 : World) (B g : Nat) (hB0 : w0.heap.size ≤ B) (hBg : B ≤ g) (N : Nat) (hN : N ≤ 1048576) : ∀ (T : S24) (At : Option Addr) (c : Nat) (u : Value) (A : List Bool) (w : World), sizeT T ≤ N → formedT T n = true → A.length + sizeT T ≤ 2000000 → Below w0.heap.size w0 w → B ≤ w.heap.size → Kd.C k24 w0 At T.f3.length T.f3 → T.f3.length ≤ c → w.heap[g]? = some (.cells #[u] 35 (0, 0)) → Row Value.bool w B 4 u A →
    Calls Tryd.prog 8 #[.pointer (some ⟨g, 0, none⟩), .agg #[.int .i64 T.f0, .int .i64 T.f1, .int .i64 T.f2, .slice At T.f3.length c]] w fun e w' => e = .returned (.int .i64 (readF T A).1) ∧ ∃ u', BPost B g u w w' u' (readF T A).2 := by
  induction N with
  | zero => intro T; intros; have : 1 ≤ sizeT T := by { cases T; simp [sizeT] }; omega
  | succ N ih =>
    rintro ⟨kind, v, q, ts⟩ At c u A w hsz hft hAl hW hBw hC hc hgu hru
    simp only at hC hc ⊢
    have hlen : ts.length ≤ 1048576 := by have := sizeTs_length ts; simp only [sizeT] at hsz; omega
    simp only [formedT, Bool.and_eq_true] at hft
    obtain ⟨hfk, hfs⟩ := hft
    simp only [sizeT] at hsz hAl
    have hb0 := below_alloc (Below.refl w.heap.size w) (.cells #[.int .i64 kind, .int .i64 v, .int .i64 q, .slice At ts.length c] 24)
    have hx0 := blk_new w (.cells #[.int .i64 kind, .int .i64 v, .int .i64 q, .slice At ts.length c] 24)
    have HX0 := Aside0.mk hx0
    have HP0 := Aside0.mk ((BPost.refl hgu hru).step hBw hb0)
    have HB0 := Aside0.mk hb0
    have HC := Aside0.mk hC
    have HW := Aside0.mk hW
    have HFK := Aside0.mk hfk
    have HFS := Aside0.mk hfs
    have HG := Aside0.mk hgu
    have HRU := Aside0.mk hru
    have IH := Aside0.mk (ih (by omega))
    clear hb0 hx0 hC hW hfk hfs hgu hru ih
    by_cases k2 : kind = 2
    · subst k2
      have HV : Aside0 (readF ⟨2, v, q, ts⟩ A = (v, A)) := ⟨by rw [readF]; rfl⟩
      clear IH HX0
      go_enter Tryd.func8, Tryd.ntmps8
      go_wp2_with fail
      go_ret
      exact ⟨by rw [HV.out]; rfl, u, by rw [HV.out]; exact HP0.out⟩
    · have k2b : (kind == 2) = false := by simpa using k2
      by_cases k3 : kind = 3
      · subst k3
        have h1 : ts.length = 1 := by
          have h := HFK.out
          simp [formedF] at h
          exact h.2.2
        obtain ⟨t, rfl⟩ := List.length_eq_one_iff.1 h1
        clear h1 hlen
        obtain ⟨ad, A3, c3, rfl, x0, x1, x2, x3, hl3, hi3⟩ := at_T24 HC.out 0 (by omega) (by simp)
        have ht : rd_T24 [t] 0 = t := rfl
        rw [ht] at x0 x1 x2 x3 hl3 hi3
        have HBW0 := Aside0.mk (below_step HW.out (below_alloc (Below.refl w.heap.size w) (.cells #[.int .i64 3, .int .i64 v, .int .i64 q, .slice (some ad) [t].length c] 24)))
        replace x0 := (HBW0.out.cell (World.block_lt_of_cell? w0 _ x0)).trans x0
        replace x1 := (HBW0.out.cell (World.block_lt_of_cell? w0 _ x1)).trans x1
        replace x2 := (HBW0.out.cell (World.block_lt_of_cell? w0 _ x2)).trans x2
        replace x3 := (HBW0.out.cell (World.block_lt_of_cell? w0 _ x3)).trans x3
        simp only [sizeTs] at hsz hAl
        have hft := formedTs_mem HFS.out t List.mem_cons_self
        have hrb := readF_bound t n A hft hn (by omega)
        have hsz2 := hB0
        have HCALL := Aside0.mk (IH.out t A3 c3 u A _ (by omega) hft (by omega) HBW0.out (by rw [World.size_alloc]; omega) hi3 hl3 HP0.out.blk HP0.out.row)
        have HV : Aside0 (readF ⟨3, v, q, [t]⟩ A = (-(readF t A).1, (readF t A).2)) := ⟨by rw [readF]; simp [readsF]⟩
        obtain ⟨⟨x, A2⟩, hr⟩ : ∃ z, readF t A = z := ⟨_, rfl⟩
        rw [hr] at HCALL HV hrb
        simp only at HCALL HV hrb
        clear hft hi3 hl3 HX0 hr
        simp only [List.length_cons, List.length_nil, Nat.zero_add] at hc HCALL HP0 ⊢
        simp [Addr.add] at x0 x1 x2 x3
        go_enter Tryd.func8, Tryd.ntmps8
        go_wp2_with (go_at_call 8; refine HCALL.out.mono ?_; rintro e w2 ⟨rfl, vl2, hp⟩; have HP := Aside0.mk (HP0.out.call hp); clear hp HCALL)
        go_ret
        exact ⟨by rw [HV.out]; rfl, vl2, by rw [HV.out]; exact HP.out⟩
      · have k3b : (kind == 3) = false := by simpa using k3
        go_enter Tryd.func8, Tryd.ntmps8
        go_wp2_with fail
        go_loopw [5, 28] (fun v5 v28 wr => ∃ (i : Nat) (ui : Value), i ≤ ts.length ∧ v28 = .int .i64 i ∧ v5 = .int .i64 (readsF (ts.take i) A).2.1 ∧ Aside0 (BInv B g u w wr ui (readsF (ts.take i) A).2.2 #[.int .i64 kind, .int .i64 v, .int .i64 q, .slice At ts.length c])) (fun _ v28 _ => (ts.length - intOf v28).toNat)
        case atStart => exact ⟨0, u, by omega, rfl, rfl, ⟨HP0.out, HX0.out⟩⟩
        case round =>
          clear HX0 HP0
          obtain ⟨i, ui, hi1, rfl, rfl, HI⟩ := hrel
          obtain ⟨cnt, hcnt⟩ : ∃ z, (readsF (ts.take i) A).2.1 = z := ⟨_, rfl⟩
          obtain ⟨Ai, hAi⟩ : ∃ z, (readsF (ts.take i) A).2.2 = z := ⟨_, rfl⟩
          have hc0 := readsF_cnt (ts.take i) A
          have hlt0 := List.length_take_le i ts
          have hst := sizeTs_take ts i
          have hAib := (readsF_bound (ts.take i) n A (formedTs_take HFS.out i) hn (by omega)).2
          rw [hcnt] at hc0
          rw [hAi] at hAib HI
          have HCNT := Aside0.mk hcnt
          have HAI := Aside0.mk hAi
          rw [hcnt]
          clear hcnt hAi
          by_cases hlt : i < ts.length
          · obtain ⟨ad, A3, c3, rfl, x0, x1, x2, x3, hl3, hi3⟩ := at_T24 HC.out i (by omega) (by omega)
            have HBW0 := Aside0.mk (HW.out.trans (HI.out.post.below.mono hB0))
            replace x0 := (HBW0.out.cell (World.block_lt_of_cell? w0 _ x0)).trans x0
            replace x1 := (HBW0.out.cell (World.block_lt_of_cell? w0 _ x1)).trans x1
            replace x2 := (HBW0.out.cell (World.block_lt_of_cell? w0 _ x2)).trans x2
            replace x3 := (HBW0.out.cell (World.block_lt_of_cell? w0 _ x3)).trans x3
            simp only [Int.toNat_natCast] at x0 x1 x2 x3
            have hmem := rd_T24_mem ts i (by omega) (by omega)
            have hfm := formedTs_mem HFS.out _ hmem
            have hsa := sizeTs_take_at hlt
            have hrb := readF_bound (rd_T24 ts i) n Ai hfm hn (by omega)
            have hBwr : B ≤ wr.heap.size := Nat.le_trans hBw HI.out.post.kept.1
            have HP1 := Aside0.mk (HI.out.post.step hBw (below_alloc (Below.refl wr.heap.size wr) (.cells #[.int .i64 (rd_T24 ts i).f0, .int .i64 (rd_T24 ts i).f1, .int .i64 (rd_T24 ts i).f2, .slice A3 (rd_T24 ts i).f3.length c3] 24)))
            have HX1 := Aside0.mk (blk_alloc HI.out.box (.cells #[.int .i64 (rd_T24 ts i).f0, .int .i64 (rd_T24 ts i).f1, .int .i64 (rd_T24 ts i).f2, .slice A3 (rd_T24 ts i).f3.length c3] 24))
            have HCALL := Aside0.mk (IH.out (rd_T24 ts i) A3 c3 ui Ai _ (by omega) hfm (by omega) (below_step HBW0.out (below_alloc (Below.refl wr.heap.size wr) (.cells #[.int .i64 (rd_T24 ts i).f0, .int .i64 (rd_T24 ts i).f1, .int .i64 (rd_T24 ts i).f2, .slice A3 (rd_T24 ts i).f3.length c3] 24))) (by rw [World.size_alloc]; omega) hi3 hl3 HP1.out.blk HP1.out.row)
            have HSN : Aside0 (readsF (ts.take (i + 1)) A = ((readsF (ts.take i) A).1 ++ [(readF (rd_T24 ts i) Ai).1], cnt + (if trueF (readF (rd_T24 ts i) Ai).1 (readF (rd_T24 ts i) Ai).2 = true then 1 else 0), (readF (rd_T24 ts i) Ai).2)) := ⟨by rw [take_T24n hlt, readsF_snoc, HCNT.out, HAI.out]⟩
            obtain ⟨⟨x, A2⟩, hr⟩ : ∃ z, readF (rd_T24 ts i) Ai = z := ⟨_, rfl⟩
            rw [hr] at HCALL HSN hrb
            simp only at HCALL HSN hrb
            obtain ⟨b, hbt⟩ : ∃ z, trueF x A2 = z := ⟨_, rfl⟩
            rw [hbt] at HSN
            have HTRU : Aside0 (∀ A' c' n' W, n' = A2.length → A2.length ≤ c' → Kd.C Kd.bool W A' A2.length A2 → Calls Tryd.prog 10 #[.int .i64 x, .slice A' n' c'] W fun e w' => e = .returned (.bool b) ∧ Below W.heap.size W w') := ⟨fun A' c' n' W h1 h2 h3 => by
              subst h1
              exact (chalklineref13_Truth.calls 2 x A' c' A2 b W h3 h2 (by rw [Truth_tells x A2 (by omega) (by omega), hbt])).mono (fun e w' hh => ⟨hh.1, hh.2.below⟩)⟩
            clear hmem hfm hi3 hl3 hr hbt
            cases b
            all_goals
              go_wp2_with (first | (go_at_call 8; refine HCALL.out.mono ?_; rintro e w2 ⟨rfl, u2, hp⟩; have hp2 := HP1.out.call hp; obtain ⟨Aa, ca, eu, hca, hCa⟩ := hp2.row.reads (h1 := fun _ => rfl); obtain ⟨na, hna⟩ : ∃ z, z = A2.length := ⟨_, rfl⟩; rw [← hna] at eu; have HNA := Aside0.mk hna; clear hna; subst eu; have z0 : w2.cell? ⟨g, 0, none⟩ = some (.slice Aa na ca) := (blk_cell hp2.blk 0).trans rfl; have HP2 := Aside0.mk hp2; have HX2 := Aside0.mk (hp.other HP1.out.blk HP1.out.row HX1.out (by decide) (by decide)); have HCA := Aside0.mk hCa; have HCC := Aside0.mk hca; clear hp hp2 hCa hca) | (go_at_call 10; refine (HTRU.out Aa ca na _ HNA.out HCC.out HCA.out).mono ?_; rintro e w3 ⟨rfl, hb3⟩; have HP3 := Aside0.mk (HP2.out.step hBw hb3); have HX3 := Aside0.mk (blk_below HX2.out hb3); clear hb3))
              go_roundw
              case rel => exact ⟨i + 1, _, by omega, by go_num, by rw [HSN.out]; first | rfl | (simp; done), ⟨by rw [HSN.out]; exact HP3.out, HX3.out⟩⟩
              case measure => simp [intOf]; omega
          · have hi : i = ts.length := by omega
            subst hi
            have HV : Aside0 (readF ⟨kind, v, q, ts⟩ A = ((Ai.length : Int), Ai ++ [isF kind v q ts.length cnt])) := ⟨by
              have h1 := HCNT.out
              have h2 := HAI.out
              rw [List.take_length] at h1 h2
              rw [readF, if_neg k2, if_neg k3, h1, h2]⟩
            clear HCNT HAI IH HFS
            have HRW := HI.out.post.row
            obtain ⟨Ag, ng, cg, eg⟩ := HRW.form
            have HNI := Aside0.mk (show ng = Ai.length by have h := HRW; rw [eg] at h; obtain ⟨_, _, e, _, _⟩ := h.reads (h1 := fun _ => rfl); injection e)
            subst eg
            replace HRW := Aside0.mk HRW
            have HBW := Aside0.mk (Nat.le_trans hBw HI.out.post.kept.1)
            have HAL := Aside0.mk (show Ai.length ≤ 2000000 by omega)
            have y0 : wr.cell? ⟨w.heap.size, 0, none⟩ = some (.int .i64 kind) := (blk_cell HI.out.box 0).trans rfl
            have y1 : wr.cell? ⟨w.heap.size, 1, none⟩ = some (.int .i64 v) := (blk_cell HI.out.box 1).trans rfl
            have y2 : wr.cell? ⟨w.heap.size, 2, none⟩ = some (.int .i64 q) := (blk_cell HI.out.box 2).trans rfl
            have y3 : wr.cell? ⟨w.heap.size, 3, none⟩ = some (.slice At ts.length c) := (blk_cell HI.out.box 3).trans rfl
            have z0 : wr.cell? ⟨g, 0, none⟩ = some (.slice Ag ng cg) := (blk_cell HI.out.post.blk 0).trans rfl
            have hgsz : g < wr.heap.size := blk_lt HI.out.post.blk
            have hngb : ng ≤ 2000000 := by have := HNI.out; omega
            by_cases k4 : kind = 4
            · subst k4
              have HIS : Aside0 (isF 4 v q ts.length cnt = (cnt == (ts.length : Int))) := ⟨rfl⟩
              go_wp2_with (at_builtin; (refine app1_list (enc := Value.bool) B rfl (.tmp 70) (.tmp 72) 25 4 (.bool false) 1 rfl Tryd.underlying25 info4_ rfl (by omega) (fun _ => rfl) rfl rfl (HRW.out.below (below_alloc (Below.refl wr.heap.size wr) _)) (blk_new wr _) (by rw [World.size_alloc]; have := HBW.out; omega) (by have := HNI.out; have := HAL.out; omega) ?_; intro v9 w9 hr9 hg9 hat9 _; have HP9 := Aside0.mk (HI.out.post.put hBw hBg hg9 hr9 hat9); obtain ⟨A9, n9, c9, e9⟩ := hr9.form; have HN9 := Aside0.mk (show n9 = Ai.length + 1 by have h := hr9; rw [e9] at h; obtain ⟨_, _, e, _, _⟩ := h.reads (h1 := fun _ => rfl); injection e with _ e _; rw [e]; simp); subst e9; have hn9 : 1 ≤ n9 ∧ n9 ≤ 2000001 := (by have h1 := HN9.out; have h2 := HAL.out; omega); have z9 : w9.cell? ⟨g, 0, none⟩ = some (.slice Ag ng cg) := (blk_cell (blk_grown (blk_alloc HI.out.post.blk _) hg9 (fun e => HRW.out.ne_block HI.out.post.blk (by decide) g e.symm rfl)) 0).trans rfl; have f9 := (blk_frozen (blk_grown (blk_alloc HI.out.post.blk _) hg9 (fun e => HRW.out.ne_block HI.out.post.blk (by decide) g e.symm rfl)) 0); clear hr9 hg9 hat9))
              go_ret
              exact ⟨by rw [HV.out]; exact congrArg (fun z => Ending.returned (.int .i64 z)) (by have := HN9.out; simp only; omega), _, by rw [HV.out, HIS.out]; exact HP9.out⟩
            · have k4b : (kind == 4) = false := by simpa using k4
              by_cases k5 : kind = 5
              · subst k5
                have HIS : Aside0 (isF 5 v q ts.length cnt = decide (0 < cnt)) := ⟨rfl⟩
                go_wp2_with (at_builtin; (refine app1_list (enc := Value.bool) B rfl (.tmp 70) (.tmp 72) 25 4 (.bool false) 1 rfl Tryd.underlying25 info4_ rfl (by omega) (fun _ => rfl) rfl rfl (HRW.out.below (below_alloc (Below.refl wr.heap.size wr) _)) (blk_new wr _) (by rw [World.size_alloc]; have := HBW.out; omega) (by have := HNI.out; have := HAL.out; omega) ?_; intro v9 w9 hr9 hg9 hat9 _; have HP9 := Aside0.mk (HI.out.post.put hBw hBg hg9 hr9 hat9); obtain ⟨A9, n9, c9, e9⟩ := hr9.form; have HN9 := Aside0.mk (show n9 = Ai.length + 1 by have h := hr9; rw [e9] at h; obtain ⟨_, _, e, _, _⟩ := h.reads (h1 := fun _ => rfl); injection e with _ e _; rw [e]; simp); subst e9; have hn9 : 1 ≤ n9 ∧ n9 ≤ 2000001 := (by have h1 := HN9.out; have h2 := HAL.out; omega); have z9 : w9.cell? ⟨g, 0, none⟩ = some (.slice Ag ng cg) := (blk_cell (blk_grown (blk_alloc HI.out.post.blk _) hg9 (fun e => HRW.out.ne_block HI.out.post.blk (by decide) g e.symm rfl)) 0).trans rfl; have f9 := (blk_frozen (blk_grown (blk_alloc HI.out.post.blk _) hg9 (fun e => HRW.out.ne_block HI.out.post.blk (by decide) g e.symm rfl)) 0); clear hr9 hg9 hat9))
                go_ret
                exact ⟨by rw [HV.out]; exact congrArg (fun z => Ending.returned (.int .i64 z)) (by have := HN9.out; simp only; omega), _, by rw [HV.out, HIS.out]; exact HP9.out⟩
              · have k5b : (kind == 5) = false := by simpa using k5
                by_cases k6 : kind = 6
                · subst k6
                  have HIS : Aside0 (isF 6 v q ts.length cnt = decide (q ≤ cnt)) := ⟨rfl⟩
                  go_wp2_with (at_builtin; (refine app1_list (enc := Value.bool) B rfl (.tmp 70) (.tmp 72) 25 4 (.bool false) 1 rfl Tryd.underlying25 info4_ rfl (by omega) (fun _ => rfl) rfl rfl (HRW.out.below (below_alloc (Below.refl wr.heap.size wr) _)) (blk_new wr _) (by rw [World.size_alloc]; have := HBW.out; omega) (by have := HNI.out; have := HAL.out; omega) ?_; intro v9 w9 hr9 hg9 hat9 _; have HP9 := Aside0.mk (HI.out.post.put hBw hBg hg9 hr9 hat9); obtain ⟨A9, n9, c9, e9⟩ := hr9.form; have HN9 := Aside0.mk (show n9 = Ai.length + 1 by have h := hr9; rw [e9] at h; obtain ⟨_, _, e, _, _⟩ := h.reads (h1 := fun _ => rfl); injection e with _ e _; rw [e]; simp); subst e9; have hn9 : 1 ≤ n9 ∧ n9 ≤ 2000001 := (by have h1 := HN9.out; have h2 := HAL.out; omega); have z9 : w9.cell? ⟨g, 0, none⟩ = some (.slice Ag ng cg) := (blk_cell (blk_grown (blk_alloc HI.out.post.blk _) hg9 (fun e => HRW.out.ne_block HI.out.post.blk (by decide) g e.symm rfl)) 0).trans rfl; have f9 := (blk_frozen (blk_grown (blk_alloc HI.out.post.blk _) hg9 (fun e => HRW.out.ne_block HI.out.post.blk (by decide) g e.symm rfl)) 0); clear hr9 hg9 hat9))
                  go_ret
                  exact ⟨by rw [HV.out]; exact congrArg (fun z => Ending.returned (.int .i64 z)) (by have := HN9.out; simp only; omega), _, by rw [HV.out, HIS.out]; exact HP9.out⟩
                · have k6b : (kind == 6) = false := by simpa using k6
                  have HIS : Aside0 (isF kind v q ts.length cnt = (v == 1)) := ⟨by unfold isF; rw [if_neg k4, if_neg k5, if_neg k6]⟩
                  go_wp2_with (at_builtin; (refine app1_list (enc := Value.bool) B rfl (.tmp 70) (.tmp 72) 25 4 (.bool false) 1 rfl Tryd.underlying25 info4_ rfl (by omega) (fun _ => rfl) rfl rfl (HRW.out.below (below_alloc (Below.refl wr.heap.size wr) _)) (blk_new wr _) (by rw [World.size_alloc]; have := HBW.out; omega) (by have := HNI.out; have := HAL.out; omega) ?_; intro v9 w9 hr9 hg9 hat9 _; have HP9 := Aside0.mk (HI.out.post.put hBw hBg hg9 hr9 hat9); obtain ⟨A9, n9, c9, e9⟩ := hr9.form; have HN9 := Aside0.mk (show n9 = Ai.length + 1 by have h := hr9; rw [e9] at h; obtain ⟨_, _, e, _, _⟩ := h.reads (h1 := fun _ => rfl); injection e with _ e _; rw [e]; simp); subst e9; have hn9 : 1 ≤ n9 ∧ n9 ≤ 2000001 := (by have h1 := HN9.out; have h2 := HAL.out; omega); have z9 : w9.cell? ⟨g, 0, none⟩ = some (.slice Ag ng cg) := (blk_cell (blk_grown (blk_alloc HI.out.post.blk _) hg9 (fun e => HRW.out.ne_block HI.out.post.blk (by decide) g e.symm rfl)) 0).trans rfl; have f9 := (blk_frozen (blk_grown (blk_alloc HI.out.post.blk _) hg9 (fun e => HRW.out.ne_block HI.out.post.blk (by decide) g e.symm rfl)) 0); clear hr9 hg9 hat9))
                  go_ret
                  exact ⟨by rw [HV.out]; exact congrArg (fun z => Ending.returned (.int .i64 z)) (by have := HN9.out; simp only; omega), _, by rw [HV.out, HIS.out]; exact HP9.out⟩
end Go.Proofs.YtkcmkoolcakfjaaDoor.P

/- (*maker).put: it appends one constraint; the maker's row grows by it, nothing else that lay is turned. -/
import Derived.Test.YtkcmkoolcakfjaaPx0
import Derived.Test.YtkcmkoolcakfjaaHAid
namespace Go.Proofs.Ytkcmkoolcakfjaa.P
open Go.RowKit Go.Proofs.YtkcmkoolcakfjaaW.PrintWords Go.Proofs.YtkcmkoolcakfjaaW.PrintLast Go.Proofs.YtkcmkoolcakfjaaW.PrintMore Go.Proofs.Ytkcmkoolcakfjaa.Aid
set_option linter.unusedVariables false
set_option linter.unusedSimpArgs false

abbrev IRow (W : World) (B : Nat) (v : Value) (xs : List Int) : Prop := Row (Value.int .i64) W B 3 v xs

/-- What holds of the constraint under construction: its variable in block bs, whose first cells are bc and bL; the rows vc and vL. -/
structure PJ (w wr : World) (bs : Nat) (least : Int) (vc vL : Value) (cs ls : List Int) (bc bL : Value) : Prop where
  below : Below w.heap.size w wr
  box : wr.heap[bs]? = some (.cells #[bc, bL, .int .i64 least] 40 (0, 0))
  ge : w.heap.size ≤ bs
  hc : IRow wr w.heap.size vc cs
  hL : IRow wr w.heap.size vL ls
  ne : ∀ k, vc.ownBlock = some k → vL.ownBlock ≠ some k
section
variable {w W W1 : World} {bs : Nat} {least : Int} {vc vL v1 bc bL : Value} {cs ls cs' : List Int}
theorem PJ.step (h : PJ w W bs least vc vL cs ls bc bL) (hb : Below W.heap.size W W1) : PJ w W1 bs least vc vL cs ls bc bL :=
  ⟨below_step h.below hb, blk_below h.box hb, h.ge, h.hc.below hb, h.hL.below hb, h.ne⟩
theorem PJ.appc (h : PJ w W bs least vc vL cs ls bc bL) (hg : W.grownBy W1 vc.ownBlock) (hr : IRow W1 w.heap.size v1 cs') (hat : v1.ownBlock = vc.ownBlock ∨ v1.ownBlock = some W.heap.size) : PJ w W1 bs least v1 vL cs' ls bc bL :=
  ⟨h.below.grown hg h.below.size (fun k hk => (h.hc.lt k hk).1), blk_grown h.box hg (fun e => (h.hc.ne_block h.box (by decide) _ e.symm) rfl), h.ge, hr, h.hL.grown hg (fun k hk e => h.ne k e.symm hk), fun k hk e => by
    rcases hat with hat | hat
    · rw [hat] at hk; exact h.ne k hk e
    · rw [hat] at hk; injection hk with hk; subst hk; exact absurd (h.hL.lt _ e).2 (Nat.lt_irrefl _)⟩
theorem PJ.appL (h : PJ w W bs least vc vL cs ls bc bL) (hg : W.grownBy W1 vL.ownBlock) (hr : IRow W1 w.heap.size v1 cs') (hat : v1.ownBlock = vL.ownBlock ∨ v1.ownBlock = some W.heap.size) : PJ w W1 bs least vc v1 cs cs' bc bL :=
  ⟨h.below.grown hg h.below.size (fun k hk => (h.hL.lt k hk).1), blk_grown h.box hg (fun e => (h.hL.ne_block h.box (by decide) _ e.symm) rfl), h.ge, h.hc.grown hg (fun k hk e => h.ne k hk e.symm), hr, fun k hk e => by
    rcases hat with hat | hat
    · rw [hat] at e; exact h.ne k hk e
    · rw [hat] at e; injection e with e; subst e; exact absurd (h.hc.lt _ hk).2 (Nat.lt_irrefl _)⟩
theorem PJ.set0 (h : PJ w W bs least vc vL cs ls bc bL) (u : Value) : PJ w (W.setCell ⟨bs, 0, none⟩ u) bs least vc vL cs ls u bL :=
  ⟨h.below.setCell h.ge u, blk_put h.box 0 u rfl, h.ge, h.hc.far (h.hc.ne_block h.box (by decide)) u, h.hL.far (h.hL.ne_block h.box (by decide)) u, h.ne⟩
theorem PJ.set1 (h : PJ w W bs least vc vL cs ls bc bL) (u : Value) : PJ w (W.setCell ⟨bs, 1, none⟩ u) bs least vc vL cs ls bc u :=
  ⟨h.below.setCell h.ge u, blk_put h.box 1 u rfl, h.ge, h.hc.far (h.hc.ne_block h.box (by decide)) u, h.hL.far (h.hL.ne_block h.box (by decide)) u, h.ne⟩
theorem PJ.mk0 (w : World) (c x least : Int) : PJ w (((w.alloc (.cells #[.int .i64 c] 3)).alloc (.cells #[.int .i64 x] 3)).alloc (.cells #[.slice (some ⟨w.heap.size, 0, none⟩) 1 1, .slice (some ⟨w.heap.size + 1, 0, none⟩) 1 1, .int .i64 least] 40)) (w.heap.size + 1 + 1) least
    (.slice (some ⟨w.heap.size, 0, none⟩) 1 1) (.slice (some ⟨w.heap.size + 1, 0, none⟩) 1 1) [c] [x] (.slice (some ⟨w.heap.size, 0, none⟩) 1 1) (.slice (some ⟨w.heap.size + 1, 0, none⟩) 1 1) := by
  have h1 : IRow (w.alloc (.cells #[.int .i64 c] 3)) w.heap.size (.slice (some ⟨w.heap.size, 0, none⟩) 1 1) [c] := Row.lit w w.heap.size 3 c (Nat.le_refl _)
  have h2 : IRow ((w.alloc (.cells #[.int .i64 c] 3)).alloc (.cells #[.int .i64 x] 3)) w.heap.size (.slice (some ⟨w.heap.size + 1, 0, none⟩) 1 1) [x] := by
    have h := Row.lit (enc := Value.int .i64) (w.alloc (.cells #[.int .i64 c] 3)) w.heap.size 3 x (by simp)
    simpa using h
  refine ⟨(((Below.refl _ _).alloc (Nat.le_refl _) _).alloc (by simp) _).alloc (by simp; omega) _, ?_, by omega, (h1.below (below_alloc (Below.refl _ _) _)).below (below_alloc (Below.refl _ _) _), h2.below (below_alloc (Below.refl _ _) _), ?_⟩
  · have h := blk_new ((w.alloc (.cells #[.int .i64 c] 3)).alloc (.cells #[.int .i64 x] 3)) (.cells #[.slice (some ⟨w.heap.size, 0, none⟩) 1 1, .slice (some ⟨w.heap.size + 1, 0, none⟩) 1 1, .int .i64 least] 40)
    simpa using h
  · intro k hk e
    simp [Value.ownBlock] at hk e
    omega
theorem rd_take (l : List Int) (i : Int) (h0 : 0 ≤ i) (h1 : i < l.length) : l.take (i + 1).toNat = l.take i.toNat ++ [rd l i] := by
  have e : (i + 1).toNat = i.toNat + 1 := by omega
  rw [e, List.take_succ_eq_append_getElem (by omega)]
  simp [rd, List.getD_eq_getElem?_getD, List.getElem?_eq_getElem (show i.toNat < l.length by omega)]
theorem rep_snoc (i : Int) (h0 : 0 ≤ i) : List.replicate (i + 1).toNat (1 : Int) = List.replicate i.toNat 1 ++ [1] := by
  have e : (i + 1).toNat = i.toNat + 1 := by omega
  rw [e, List.replicate_succ']
end

/-- What a call leaves of the maker in block g: its row has some constraints more; nothing else that lay is turned. -/
structure MPost (B g : Nat) (ok : Nat → Prop) (vl : Value) (l : List S40) (mp : Nat) (w w' : World) (vl' : Value) (next' : Int) (news : List S40) : Prop where
  blk : w'.heap[g]? = some (.cells #[vl', .int .i64 next', .map (some mp)] 85 (0, 0))
  row : Kd.N k40 40 w' B (fun k => ok k ∨ w.heap.size ≤ k) vl' (l ++ news)
  at_ : vl'.ownBlock = vl.ownBlock ∨ ∃ b, vl'.ownBlock = some b ∧ w.heap.size ≤ b
  below : Below B w w'
  kept : Kept w w' (fun k => k = g ∨ some k = vl.ownBlock)
section
variable {B g mp : Nat} {ok ok1 : Nat → Prop} {vl vl1 vl2 : Value} {l n1 n2 : List S40} {w w1 w1' w2 : World} {next1 next2 : Int}
theorem MPost.refl (hg : w.heap[g]? = some (.cells #[vl, .int .i64 next1, .map (some mp)] 85 (0, 0))) (hN : Kd.N k40 40 w B ok vl l) : MPost B g ok vl l mp w w vl next1 [] :=
  ⟨hg, by rw [List.append_nil]; exact Kd.N_mono hN (fun k hk => .inl hk), .inl rfl, Below.refl _ _, Kept.refl _ _⟩
/-- New blocks behind the call. -/
theorem MPost.step (h : MPost B g ok vl l mp w w1 vl1 next1 n1) (hB : B ≤ w.heap.size) (hb : Below w1.heap.size w1 w2) : MPost B g ok vl l mp w w2 vl1 next1 n1 :=
  ⟨blk_below h.blk hb, Kd.N_below h.row hb, h.at_, h.below.trans (hb.mono (Nat.le_trans hB h.below.size)), h.kept.below hb⟩
theorem MPost.trans (h : MPost B g ok vl l mp w w1 vl1 next1 n1) (k : MPost B g (fun k => ok k ∨ w.heap.size ≤ k) vl1 (l ++ n1) mp w1 w2 vl2 next2 n2) : MPost B g ok vl l mp w w2 vl2 next2 (n1 ++ n2) :=
  ⟨k.blk, by
    have hr := k.row
    rw [List.append_assoc] at hr
    exact Kd.N_mono hr (fun q hq => by
      rcases hq with hq | hq
      · exact hq
      · exact .inr (Nat.le_trans h.below.size hq)), by
    rcases k.at_ with e | ⟨b, e, hb⟩
    · rw [e]; exact h.at_
    · exact .inr ⟨b, e, Nat.le_trans h.below.size hb⟩, h.below.trans k.below, h.kept.then_ k.kept (fun q hq => by
    rcases hq with hq | hq
    · exact .inl (.inl hq)
    · rcases h.at_ with e | ⟨b, e, hb⟩
      · rw [e] at hq; exact .inl (.inr hq)
      · rw [e] at hq; injection hq with hq; subst hq; exact .inr hb)⟩
/-- What the call was told of may be told in fewer words. -/
theorem MPost.mono (h : MPost B g ok1 vl l mp w w1 vl1 next1 n1) (hok : ∀ k, ok1 k → ok k) : MPost B g ok vl l mp w w1 vl1 next1 n1 :=
  ⟨h.blk, Kd.N_mono h.row (fun k hk => hk.imp (hok k) id), h.at_, h.below, h.kept⟩
end

set_option maxRecDepth 100000 in
set_option maxHeartbeats 4000000 in
theorem put.calls (B g : Nat) (ok : Nat → Prop) (vl : Value) (l : List S40) (next : Int) (mp : Nat) (x c least : Int) (A : Option Addr) (cap : Nat) (lits : List Int) (w : World)
    (hg : w.heap[g]? = some (.cells #[vl, .int .i64 next, .map (some mp)] 85 (0, 0))) (hB : B ≤ g) (hN : Kd.N k40 40 w B ok vl l) (hok : ∀ k, ok k → k ≠ g)
    (hr : Kd.C (Kd.int .i64) w A lits.length lits) (hc : lits.length ≤ cap) (hl : lits.length ≤ 1048576) (hll : l.length ≤ 1048576) :
    Calls Try.prog 80 #[.pointer (some ⟨g, 0, none⟩), .int .i64 x, .int .i64 c, .slice A lits.length cap, .int .i64 least] w fun e w' => e = .returned (.tuple #[]) ∧ ∃ vl', MPost B g ok vl l mp w w' vl' next [⟨c :: List.replicate lits.length 1, x :: lits, least⟩] := by
  have HR := Aside0.mk (Kd.reads_of_C (d := 0) hr)
  have HL := Aside0.mk hl
  have HG := Aside0.mk hg
  have HN := Aside0.mk hN
  have HOK := Aside0.mk hok
  have HLL := Aside0.mk hll
  clear hr hg hN hok hll
  go_enter Try.func80, Try.ntmps80
  go_wp2_with fail
  go_loopw [21] (fun v21 wr => ∃ i : Int, 0 ≤ i ∧ i ≤ lits.length ∧ v21 = .int .i64 i ∧ ∃ vc vL, PJ w wr (w.heap.size + 1 + 1) least vc vL (c :: List.replicate i.toNat 1) (x :: lits.take i.toNat) vc vL) (fun v21 _ => (lits.length - intOf v21).toNat)
  case atStart => exact ⟨0, by omega, by omega, rfl, _, _, PJ.mk0 w c x least⟩
  case round =>
    obtain ⟨i, hi0, hi1, rfl, vc, vL, I⟩ := hrel
    by_cases hlt : i < lits.length
    · obtain ⟨ad, rfl, hcell⟩ := HR.out.2.2 (by omega)
      have hx : wr.cell? (ad.add i.toNat) = some (.int .i64 (rd lits i)) := (I.below.cell (World.block_lt_of_cell? w _ (hcell i.toNat (by omega)))).trans (hcell i.toNat (by omega))
      go_wp2_with fail
      refine start_ (n := 13) (S := fun W => W.heap[w.heap.size + 1 + 1]? = some (.cells #[vc, vL, .int .i64 least] 40 (0, 0))) (ds := [10, 12]) #[false, false, false, false, false, false, false, false, false, false, false, false, false] (by kernel_rfl) rfl rfl I.box (fun hHeld => ?_)
      have J : PJ w wr.drew (w.heap.size + 1 + 1) least vc vL (c :: List.replicate i.toNat 1) (x :: lits.take i.toNat) vc vL := ⟨I.below.drew, I.box, I.ge, I.hc, I.hL, I.ne⟩
      clear I hx
      generalize wr.drew = W0 at J hHeld ⊢
      refine pure_ (i := 0) (N := some 25) (v := ?_) (a' := ?_) #[true, false, false, false, false, false, false, false, false, false, false, false, false] rfl rfl (by kernel_rfl) (fun _ _ _ h => h) (Or.inl ⟨by rfl, ?_⟩) ?_ ?_
      rotate_left
      · intro w'
        go_simp
        with_reducible rfl
      rotate_left
      · simp only [Act.put, List.setIfInBounds_toArray, List.set_cons_zero, List.set_cons_succ, i64_w, i32_w]
        rfl
      refine pure_ (i := 4) (N := some 29) (v := ?_) (a' := ?_) #[true, false, false, false, true, false, false, false, false, false, false, false, false] rfl rfl (by kernel_rfl) (fun _ _ _ h => h) (Or.inl ⟨by rfl, ?_⟩) ?_ ?_
      rotate_left
      · intro w'
        go_simp
        with_reducible rfl
      rotate_left
      · simp only [Act.put, List.setIfInBounds_toArray, List.set_cons_zero, List.set_cons_succ, i64_w, i32_w]
        rfl
      refine pure_ (i := 6) (N := some 31) (v := ?_) (a' := ?_) #[true, false, false, false, true, false, true, false, false, false, false, false, false] rfl rfl (by kernel_rfl) (fun _ _ _ h => h) (Or.inl ⟨by rfl, ?_⟩) ?_ ?_
      rotate_left
      · intro w'
        go_simp
        with_reducible rfl
      rotate_left
      · simp only [Act.put, List.setIfInBounds_toArray, List.set_cons_zero, List.set_cons_succ, i64_w, i32_w]
        rfl
      refine take_ (i := 1) (N := some 26) (v := ?_) (a' := ?_) #[true, true, false, false, true, false, true, false, false, false, false, false, false] rfl rfl (by kernel_rfl) (fun _ _ _ h => h) (Or.inl ⟨by rfl, ?_⟩) hHeld ?_ ?_
      rotate_left
      · rintro w' hw
        have hc0 := blk_cell hw 0
        go_simp
        with_reducible rfl
      rotate_left
      · simp only [Act.put, List.setIfInBounds_toArray, List.set_cons_zero, List.set_cons_succ, i64_w, i32_w]
        rfl
      refine take_ (i := 5) (N := some 30) (v := ?_) (a' := ?_) #[true, true, false, false, true, true, true, false, false, false, false, false, false] rfl rfl (by kernel_rfl) (fun _ _ _ h => h) (Or.inl ⟨by rfl, ?_⟩) hHeld ?_ ?_
      rotate_left
      · rintro w' hw
        have hc0 := blk_cell hw 1
        go_simp
        with_reducible rfl
      rotate_left
      · simp only [Act.put, List.setIfInBounds_toArray, List.set_cons_zero, List.set_cons_succ, i64_w, i32_w]
        rfl
      refine join_ (σ := Value × Value × Value) 4 #[true, true, true, true, true, true, true, true, false, true, false, false, false] (fun s => [(27, s.1), (28, s.2.1), (32, s.2.2), (34, .pointer (some ⟨w.heap.size + 1 + 1, 0, none⟩))]) (fun s W => PJ w W (w.heap.size + 1 + 1) least s.2.1 vL ((c :: List.replicate i.toNat 1) ++ [1]) (x :: lits.take i.toNat) vc vL ∧ ∃ b, s.2.2 = .slice (some ⟨b, 0, none⟩) 1 1 ∧ W.heap[b]? = some (.cells #[.int .i64 (rd lits i)] 3 (0, 0))) ?jcont ?jall
      case jall =>
        intro jc
        refine two_ (i := 2) (j := 7) (Ni := some 27) (Nj := some 32) #[true, true, true, false, true, true, true, false, false, false, false, false, false] #[true, true, false, false, true, true, true, true, false, false, false, false, false] rfl rfl rfl rfl (by kernel_rfl) (by decide) (by decide) (fun K hK => ?_) (fun K hK => ?_)
        · refine lit1_step (y := .int .i64 1) (e := 3) (by rfl) ?hr_ ?_
          case hr_ => first | (go_simp; done) | (go_simp; rfl)
          intro b2 hb2 Wb2 cb2 lb2
          have J := J.step lb2
          refine hK.out _ _ J.box (fun hHeld => ?_)
          clear hK K
          refine norm_ (a' := ?_) ?_ ?_
          rotate_left
          · show Act.put _ (some 27) _ = _
            simp only [Act.put, List.setIfInBounds_toArray, List.set_cons_zero, List.set_cons_succ, i64_w, i32_w]
            rfl
          refine two_ (i := 3) (j := 7) (Ni := some 28) (Nj := some 32) #[true, true, true, true, true, true, true, false, false, false, false, false, false] #[true, true, true, false, true, true, true, true, false, false, false, false, false] rfl rfl rfl rfl (by kernel_rfl) (by decide) (by decide) (fun K hK => ?_) (fun K hK => ?_)
          · refine app1_step (enc := Value.int .i64) w.heap.size (.tmp 26) (.tmp 27) 34 3 (.int .i64 0) 8 (by rfl) (by rfl) Try.underlying34 info3 rfl (by decide) (fun _ => rfl) (v := vc) (y := 1) (b := b2) (by rfl) (by rfl) J.hc cb2 J.below.size (by have := HL.out; simp; omega) ?_
            intro v3 W3 hr3 hg3 ha3 hn3
            have J3 := J.appc hg3 hr3 ha3
            refine hK.out _ _ J3.box (fun hHeld => ?_)
            clear hK K
            refine norm_ (a' := ?_) ?_ ?_
            rotate_left
            · show Act.put _ (some 28) _ = _
              simp only [Act.put, List.setIfInBounds_toArray, List.set_cons_zero, List.set_cons_succ, i64_w, i32_w]
              rfl
            refine pure_ (i := 9) (N := some 34) (v := ?_) (a' := ?_) #[true, true, true, true, true, true, true, false, false, true, false, false, false] rfl rfl (by kernel_rfl) (fun _ _ _ h => h) (Or.inl ⟨by rfl, ?_⟩) ?_ ?_
            rotate_left
            · intro w'
              go_simp
              with_reducible rfl
            rotate_left
            · simp only [Act.put, List.setIfInBounds_toArray, List.set_cons_zero, List.set_cons_succ, i64_w, i32_w]
              rfl
            refine one_ (i := 7) (N := some 32) #[true, true, true, true, true, true, true, true, false, true, false, false, false] rfl rfl (by kernel_rfl) (by decide) (fun K hK => ?_)
            refine lit1_step (y := .int .i64 (rd lits i)) (e := 3) (by rfl) ?hr_ ?_
            case hr_ => first | (go_simp; done) | (go_simp; rfl)
            intro b7 hb7 W7 c7 l7
            have J7 := J3.step l7
            refine hK.out _ _ J7.box (fun hHeld => ?_)
            clear hK K
            refine norm_ (a' := ?_) ?_ ?_
            rotate_left
            · show Act.put _ (some 32) _ = _
              simp only [Act.put, List.setIfInBounds_toArray, List.set_cons_zero, List.set_cons_succ, i64_w, i32_w]
              rfl
            exact jc (_, v3, _) W7 ⟨J7, b7, rfl, c7⟩
          · have JJ := J
            refine lit1_step (y := .int .i64 (rd lits i)) (e := 3) (by rfl) ?hr_ ?_
            case hr_ => first | (go_simp; done) | (go_simp; rfl)
            intro b7 hb7 W7 c7 l7
            have J := J.step l7
            have cb2 := blk_below cb2 l7
            refine hK.out _ _ J.box (fun hHeld => ?_)
            clear hK K
            refine norm_ (a' := ?_) ?_ ?_
            rotate_left
            · show Act.put _ (some 32) _ = _
              simp only [Act.put, List.setIfInBounds_toArray, List.set_cons_zero, List.set_cons_succ, i64_w, i32_w]
              rfl
            refine one_ (i := 3) (N := some 28) #[true, true, true, true, true, true, true, true, false, false, false, false, false] rfl rfl (by kernel_rfl) (by decide) (fun K hK => ?_)
            refine app1_step (enc := Value.int .i64) w.heap.size (.tmp 26) (.tmp 27) 34 3 (.int .i64 0) 8 (by rfl) (by rfl) Try.underlying34 info3 rfl (by decide) (fun _ => rfl) (v := vc) (y := 1) (b := b2) (by rfl) (by rfl) J.hc cb2 J.below.size (by have := HL.out; simp; omega) ?_
            intro v3 W3 hr3 hg3 ha3 hn3
            have J3 := J.appc hg3 hr3 ha3
            have c7' := blk_grown c7 hg3 (fun e => by have := JJ.hc.lt _ e.symm; omega)
            refine hK.out _ _ J3.box (fun hHeld => ?_)
            clear hK K
            refine norm_ (a' := ?_) ?_ ?_
            rotate_left
            · show Act.put _ (some 28) _ = _
              simp only [Act.put, List.setIfInBounds_toArray, List.set_cons_zero, List.set_cons_succ, i64_w, i32_w]
              rfl
            refine pure_ (i := 9) (N := some 34) (v := ?_) (a' := ?_) #[true, true, true, true, true, true, true, true, false, true, false, false, false] rfl rfl (by kernel_rfl) (fun _ _ _ h => h) (Or.inl ⟨by rfl, ?_⟩) ?_ ?_
            rotate_left
            · intro w'
              go_simp
              with_reducible rfl
            rotate_left
            · simp only [Act.put, List.setIfInBounds_toArray, List.set_cons_zero, List.set_cons_succ, i64_w, i32_w]
              rfl
            exact jc (_, v3, _) W3 ⟨J3, b7, rfl, c7'⟩
        · have JJ := J
          refine lit1_step (y := .int .i64 (rd lits i)) (e := 3) (by rfl) ?hr_ ?_
          case hr_ => first | (go_simp; done) | (go_simp; rfl)
          intro b7 hb7 W7 c7 l7
          have J := J.step l7
          refine hK.out _ _ J.box (fun hHeld => ?_)
          clear hK K
          refine norm_ (a' := ?_) ?_ ?_
          rotate_left
          · show Act.put _ (some 32) _ = _
            simp only [Act.put, List.setIfInBounds_toArray, List.set_cons_zero, List.set_cons_succ, i64_w, i32_w]
            rfl
          refine one_ (i := 2) (N := some 27) #[true, true, true, false, true, true, true, true, false, false, false, false, false] rfl rfl (by kernel_rfl) (by decide) (fun K hK => ?_)
          refine lit1_step (y := .int .i64 1) (e := 3) (by rfl) ?hr_ ?_
          case hr_ => first | (go_simp; done) | (go_simp; rfl)
          intro b2 hb2 Wb2 cb2 lb2
          have J := J.step lb2
          refine hK.out _ _ J.box (fun hHeld => ?_)
          clear hK K
          refine norm_ (a' := ?_) ?_ ?_
          rotate_left
          · show Act.put _ (some 27) _ = _
            simp only [Act.put, List.setIfInBounds_toArray, List.set_cons_zero, List.set_cons_succ, i64_w, i32_w]
            rfl
          have c7 := blk_below c7 lb2
          refine one_ (i := 3) (N := some 28) #[true, true, true, true, true, true, true, true, false, false, false, false, false] rfl rfl (by kernel_rfl) (by decide) (fun K hK => ?_)
          refine app1_step (enc := Value.int .i64) w.heap.size (.tmp 26) (.tmp 27) 34 3 (.int .i64 0) 8 (by rfl) (by rfl) Try.underlying34 info3 rfl (by decide) (fun _ => rfl) (v := vc) (y := 1) (b := b2) (by rfl) (by rfl) J.hc cb2 J.below.size (by have := HL.out; simp; omega) ?_
          intro v3 W3 hr3 hg3 ha3 hn3
          have J3 := J.appc hg3 hr3 ha3
          have c7' := blk_grown c7 hg3 (fun e => by have := JJ.hc.lt _ e.symm; omega)
          refine hK.out _ _ J3.box (fun hHeld => ?_)
          clear hK K
          refine norm_ (a' := ?_) ?_ ?_
          rotate_left
          · show Act.put _ (some 28) _ = _
            simp only [Act.put, List.setIfInBounds_toArray, List.set_cons_zero, List.set_cons_succ, i64_w, i32_w]
            rfl
          refine pure_ (i := 9) (N := some 34) (v := ?_) (a' := ?_) #[true, true, true, true, true, true, true, true, false, true, false, false, false] rfl rfl (by kernel_rfl) (fun _ _ _ h => h) (Or.inl ⟨by rfl, ?_⟩) ?_ ?_
          rotate_left
          · intro w'
            go_simp
            with_reducible rfl
          rotate_left
          · simp only [Act.put, List.setIfInBounds_toArray, List.set_cons_zero, List.set_cons_succ, i64_w, i32_w]
            rfl
          exact jc (_, v3, _) W3 ⟨J3, b7, rfl, c7'⟩
      case jcont =>
        rintro ⟨v27, v28, v32⟩ W ⟨J, b7, h32, c7⟩
        dsimp only at h32 J
        subst h32
        have hHeld := J.box
        clear hcell HR
        obtain ⟨A28, n28, c28, e28⟩ := J.hc.form
        subst e28
        dsimp only [putAll]
        refine norm_ (a' := ?_) ?_ ?_
        rotate_left
        · simp only [Act.put, List.setIfInBounds_toArray, List.set_cons_zero, List.set_cons_succ, i64_w, i32_w]
          rfl
        refine one_ (i := 8) (N := some 33) #[true, true, true, true, true, true, true, true, true, true, false, false, false] rfl rfl (by kernel_rfl) (by decide) (fun K hK => ?_)
        refine app1_step (enc := Value.int .i64) w.heap.size (.tmp 30) (.tmp 32) 34 3 (.int .i64 0) 8 (by rfl) (by rfl) Try.underlying34 info3 rfl (by decide) (fun _ => rfl) (v := vL) (y := rd lits i) (b := b7) (by rfl) (by rfl) J.hL c7 J.below.size (by have := HL.out; simp; omega) ?_
        intro v8 W8 hr8 hg8 ha8 hn8
        have J8 := J.appL hg8 hr8 ha8
        obtain ⟨A33, n33, c33, e33⟩ := J8.hL.form
        subst e33
        clear J hr8 hg8 ha8 hn8 c7
        refine hK.out _ _ J8.box (fun hHeld => ?_)
        clear hK K
        refine norm_ (a' := ?_) ?_ ?_
        rotate_left
        · show Act.put _ (some 33) _ = _
          simp only [Act.put, List.setIfInBounds_toArray, List.set_cons_zero, List.set_cons_succ, i64_w, i32_w]
          rfl
        have hcz := blk_cell J8.box 0
        have hfz := blk_frozen J8.box 0
        refine last_ (i := 10) (N := none) #[true, true, true, true, true, true, true, true, true, true, true, false, false] rfl rfl (by kernel_rfl) (by decide) (fun K hK => ?_)
        refine skip_ (w1 := ?_) (by rfl) rfl ?_ ?_
        rotate_left
        · go_simp
          rfl
        refine hK.out _ _ ?_
        clear hK K
        have J10 := J8.set0 (.slice A28 n28 c28)
        clear J8 hcz hfz
        revert J10
        generalize W8.setCell _ _ = W10
        intro J10
        refine pure_ (i := 11) (N := some 35) (v := ?_) (a' := ?_) #[true, true, true, true, true, true, true, true, true, true, true, true, false] rfl rfl (by kernel_rfl) (fun _ _ _ h => h) (Or.inl ⟨by rfl, ?_⟩) ?_ ?_
        rotate_left
        · intro w'
          go_simp
          with_reducible rfl
        rotate_left
        · simp only [Act.put, List.setIfInBounds_toArray, List.set_cons_zero, List.set_cons_succ, i64_w, i32_w]
          rfl
        have hcz := blk_cell J10.box 1
        have hfz := blk_frozen J10.box 1
        refine last_ (i := 12) (N := none) #[true, true, true, true, true, true, true, true, true, true, true, true, true] rfl rfl (by kernel_rfl) (by decide) (fun K hK => ?_)
        refine skip_ (w1 := ?_) (by rfl) rfl ?_ ?_
        rotate_left
        · go_simp
          rfl
        refine hK.out _ _ ?_
        clear hK K
        have J12 := J10.set1 (.slice A33 n33 c33)
        clear J10 hcz hfz
        revert J12
        generalize W10.setCell _ _ = W12
        intro J12
        refine done_ (by kernel_rfl) ?_
        go_wp2_with fail
        go_roundw
        case rel => exact ⟨i + 1, by omega, by omega, by go_num, _, _, by rw [rd_take _ _ hi0 hlt, rep_snoc _ hi0]; exact J12⟩
        case measure => simp [intOf]; omega
    · have hi : i = lits.length := by omega
      have hi' : ¬ i < lits.length := hlt
      go_wp2_with fail
      have hcs : c :: List.replicate i.toNat 1 = c :: List.replicate lits.length 1 := by rw [hi, Int.toNat_natCast]
      have hls : x :: lits.take i.toNat = x :: lits := by rw [hi, Int.toNat_natCast, List.take_length]
      rw [hcs, hls] at I
      clear hcs hls hi HR
      obtain ⟨Ac, nc, cc, ec⟩ := I.hc.form
      obtain ⟨AL, nL, cL, eL⟩ := I.hL.form
      obtain ⟨Av, cv, ev⟩ := Kd.N_slice HN.out
      obtain ⟨nv, hnv⟩ : ∃ n, n = l.length := ⟨_, rfl⟩
      rw [← hnv] at ev
      clear hnv
      subst ec eL ev
      refine start_ (n := 13) (S := fun W => W.heap[w.heap.size + 1 + 1]? = some (.cells #[.slice Ac nc cc, .slice AL nL cL, .int .i64 least] 40 (0, 0)) ∧ W.heap[g]? = some (.cells #[.slice Av nv cv, .int .i64 next, .map (some mp)] 85 (0, 0))) (ds := [12]) #[false, false, false, false, false, false, false, false, false, false, false, false, false] (by kernel_rfl) rfl rfl ⟨I.box, blk_below HG.out I.below.drew⟩ (fun hHeld => ?_)
      have J : PJ w wr.drew (w.heap.size + 1 + 1) least (.slice Ac nc cc) (.slice AL nL cL) (c :: List.replicate lits.length 1) (x :: lits) (.slice Ac nc cc) (.slice AL nL cL) := ⟨I.below.drew, I.box, I.ge, I.hc, I.hL, I.ne⟩
      clear I
      generalize wr.drew = W0 at J hHeld ⊢
      refine pure_ (i := 0) (N := some 37) (v := ?_) (a' := ?_) #[true, false, false, false, false, false, false, false, false, false, false, false, false] rfl rfl (by kernel_rfl) (fun _ _ _ h => h) (Or.inl ⟨by rfl, ?_⟩) ?_ ?_
      rotate_left
      · intro w'
        go_simp
        with_reducible rfl
      rotate_left
      · simp only [Act.put, List.setIfInBounds_toArray, List.set_cons_zero, List.set_cons_succ, i64_w, i32_w]
        rfl
      refine pure_ (i := 1) (N := some 38) (v := ?_) (a' := ?_) #[true, true, false, false, false, false, false, false, false, false, false, false, false] rfl rfl (by kernel_rfl) (fun _ _ _ h => h) (Or.inl ⟨by rfl, ?_⟩) ?_ ?_
      rotate_left
      · intro w'
        go_simp
        with_reducible rfl
      rotate_left
      · simp only [Act.put, List.setIfInBounds_toArray, List.set_cons_zero, List.set_cons_succ, i64_w, i32_w]
        rfl
      refine pure_ (i := 2) (N := some 39) (v := ?_) (a' := ?_) #[true, true, true, false, false, false, false, false, false, false, false, false, false] rfl rfl (by kernel_rfl) (fun _ _ _ h => h) (Or.inl ⟨by rfl, ?_⟩) ?_ ?_
      rotate_left
      · intro w'
        go_simp
        with_reducible rfl
      rotate_left
      · simp only [Act.put, List.setIfInBounds_toArray, List.set_cons_zero, List.set_cons_succ, i64_w, i32_w]
        rfl
      refine pure_ (i := 3) (N := some 40) (v := ?_) (a' := ?_) #[true, true, true, true, false, false, false, false, false, false, false, false, false] rfl rfl (by kernel_rfl) (fun _ _ _ h => h) (Or.inl ⟨by rfl, ?_⟩) ?_ ?_
      rotate_left
      · intro w'
        go_simp
        with_reducible rfl
      rotate_left
      · simp only [Act.put, List.setIfInBounds_toArray, List.set_cons_zero, List.set_cons_succ, i64_w, i32_w]
        rfl
      refine pure_ (i := 4) (N := some 41) (v := ?_) (a' := ?_) #[true, true, true, true, true, false, false, false, false, false, false, false, false] rfl rfl (by kernel_rfl) (fun _ _ _ h => h) (Or.inl ⟨by rfl, ?_⟩) ?_ ?_
      rotate_left
      · intro w'
        go_simp
        with_reducible rfl
      rotate_left
      · simp only [Act.put, List.setIfInBounds_toArray, List.set_cons_zero, List.set_cons_succ, i64_w, i32_w]
        rfl
      refine take_ (i := 5) (N := some 42) (v := ?_) (a' := ?_) #[true, true, true, true, true, true, false, false, false, false, false, false, false] rfl rfl (by kernel_rfl) (fun _ _ _ h => h) (Or.inl ⟨by rfl, ?_⟩) hHeld ?_ ?_
      rotate_left
      · rintro w' ⟨hw0, hw1⟩
        have hc0 := blk_cell hw1 0
        go_simp
        with_reducible rfl
      rotate_left
      · simp only [Act.put, List.setIfInBounds_toArray, List.set_cons_zero, List.set_cons_succ, i64_w, i32_w]
        rfl
      refine take_ (i := 6) (N := some 43) (v := ?_) (a' := ?_) #[true, true, true, true, true, true, true, false, false, false, false, false, false] rfl rfl (by kernel_rfl) (fun _ _ _ h => h) (Or.inl ⟨by rfl, ?_⟩) hHeld ?_ ?_
      rotate_left
      · rintro w' ⟨hw0, hw1⟩
        have hc0 := blk_cell hw0 0; have hc1 := blk_cell hw0 1; have hc2 := blk_cell hw0 2
        go_simp
        with_reducible rfl
      rotate_left
      · simp only [Act.put, List.setIfInBounds_toArray, List.set_cons_zero, List.set_cons_succ, i64_w, i32_w]
        rfl
      refine one_ (i := 7) (N := some 44) #[true, true, true, true, true, true, true, true, false, false, false, false, false] rfl rfl (by kernel_rfl) (by decide) (fun K hK => ?_)
      refine event_step (w1 := W0.alloc (.cells #[.slice Ac nc cc, .slice AL nL cL, .int .i64 least] 40)) (v := .slice (some ⟨W0.heap.size, 0, none⟩) 1 1) (by rfl) ?hr_ ?_
      case hr_ => first | (go_simp; done) | (go_simp; rfl)
      refine hK.out _ _ ⟨blk_alloc hHeld.1 _, blk_alloc hHeld.2 _⟩ (fun hHeld => ?_)
      clear hK K
      refine norm_ (a' := ?_) ?_ ?_
      rotate_left
      · show Act.put _ (some 44) _ = _
        simp only [Act.put, List.setIfInBounds_toArray, List.set_cons_zero, List.set_cons_succ, i64_w, i32_w]
        rfl
      refine one_ (i := 8) (N := some 45) #[true, true, true, true, true, true, true, true, true, false, false, false, false] rfl rfl (by kernel_rfl) (by decide) (fun K hK => ?_)
      have hNW : Kd.N k40 40 W0 B (fun k => ok k ∨ w.heap.size ≤ k) (.slice Av nv cv) l := Kd.N_mono (Kd.N_below HN.out J.below) (fun k hk => .inl hk)
      have hBW : Below B w W0 := J.below.mono (by have := blk_lt HG.out; omega)
      have hM : k40.M W0 w.heap.size (fun k => some k = (Value.slice Ac nc cc).ownBlock ∨ some k = (Value.slice AL nL cL).ownBlock) ⟨c :: List.replicate lits.length 1, x :: lits, least⟩ [.slice Ac nc cc, .slice AL nL cL, .int .i64 least] :=
        k40_mkM W0 w.heap.size _ ⟨c :: List.replicate lits.length 1, x :: lits, least⟩ (J.hc.toR _ (fun k hk => .inl hk.symm)) (J.hL.toR _ (fun k hk => .inr hk.symm))
      refine Kd.N_append_step k40 (w0 := w) (W := W0) B ?hw_ (.tmp 42) (.tmp 44) 27 40 (.agg #[(.slice none 0 0), (.slice none 0 0), (.int .i64 0)]) 56 ?ho_ Try.underlying27 info40 ?hz_ ?hs0_ (by decide) (.slice Av nv cv) l ⟨c :: List.replicate lits.length 1, x :: lits, least⟩ [.slice Ac nc cc, .slice AL nL cL, .int .i64 least] (fun k => ok k ∨ w.heap.size ≤ k) (fun k => some k = (Value.slice Ac nc cc).ownBlock ∨ some k = (Value.slice AL nL cL).ownBlock) ?hs_ ?hx_ (Kd.FK_of_M hM) ?hokp (fun k hk => .inr (Nat.le_trans J.below.size hk)) hNW hBW (by have := blk_lt HG.out; have := J.below.size; omega) (by have := HLL.out; simp; omega) ?_
      case hw_ => rfl
      case ho_ => rfl
      case hz_ => rfl
      case hs0_ => show 0 < 3; decide
      case hs_ => rfl
      case hx_ => rfl
      case hokp =>
        intro k hk
        have hge : w.heap.size ≤ k := by
          rcases hk with hk | hk
          · exact (J.hc.lt k hk.symm).1
          · exact (J.hL.lt k hk.symm).1
        exact ⟨.inr hge, fun e => by have := Kd.N_lt HN.out k e.symm; omega⟩
      intro v8 W8 hN8 hb8 hg8 ha8
      clear hNW hM
      have hgne : some g ≠ (Value.slice Av nv cv).ownBlock := Kd.N_away HN.out HOK.out
      have hg1 : W8.heap[g]? = some (.cells #[.slice Av nv cv, .int .i64 next, .map (some mp)] 85 (0, 0)) := blk_grown (blk_below HG.out J.below) hg8 hgne
      have hk8 : Kept w W8 (fun k => k = g ∨ some k = (Value.slice Av nv cv).ownBlock) := Kept.of_grown hg8 (Kept.of_below J.below _) (fun k hk => .inl (.inr hk.symm))
      have hbx : W8.heap[w.heap.size + 1 + 1]? = some (.cells #[.slice Ac nc cc, .slice AL nL cL, .int .i64 least] 40 (0, 0)) := blk_grown J.box hg8 (fun e => by have := Kd.N_lt HN.out _ e.symm; omega)
      refine hK.out _ _ ⟨hbx, hg1⟩ (fun hHeld => ?_)
      clear hK K hbx
      refine norm_ (a' := ?_) ?_ ?_
      rotate_left
      · show Act.put _ (some 45) _ = _
        simp only [Act.put, List.setIfInBounds_toArray, List.set_cons_zero, List.set_cons_succ, i64_w, i32_w]
        rfl
      refine pure_ (i := 9) (N := some 46) (v := ?_) (a' := ?_) #[true, true, true, true, true, true, true, true, true, true, false, false, false] rfl rfl (by kernel_rfl) (fun _ _ _ h => h) (Or.inl ⟨by rfl, ?_⟩) ?_ ?_
      rotate_left
      · intro w'
        go_simp
        with_reducible rfl
      rotate_left
      · simp only [Act.put, List.setIfInBounds_toArray, List.set_cons_zero, List.set_cons_succ, i64_w, i32_w]
        rfl
      refine pure_ (i := 10) (N := some 47) (v := ?_) (a' := ?_) #[true, true, true, true, true, true, true, true, true, true, true, false, false] rfl rfl (by kernel_rfl) (fun _ _ _ h => h) (Or.inl ⟨by rfl, ?_⟩) ?_ ?_
      rotate_left
      · intro w'
        go_simp
        with_reducible rfl
      rotate_left
      · simp only [Act.put, List.setIfInBounds_toArray, List.set_cons_zero, List.set_cons_succ, i64_w, i32_w]
        rfl
      refine pure_ (i := 11) (N := some 48) (v := ?_) (a' := ?_) #[true, true, true, true, true, true, true, true, true, true, true, true, false] rfl rfl (by kernel_rfl) (fun _ _ _ h => h) (Or.inl ⟨by rfl, ?_⟩) ?_ ?_
      rotate_left
      · intro w'
        go_simp
        with_reducible rfl
      rotate_left
      · simp only [Act.put, List.setIfInBounds_toArray, List.set_cons_zero, List.set_cons_succ, i64_w, i32_w]
        rfl
      have hcz := blk_cell hg1 0
      have hfz := blk_frozen hg1 0
      obtain ⟨A8, c8, e8⟩ := Kd.N_slice hN8
      obtain ⟨n8, hn8⟩ : ∃ n, n = (l ++ [(⟨c :: List.replicate lits.length 1, x :: lits, least⟩ : S40)]).length := ⟨_, rfl⟩
      rw [← hn8] at e8
      clear hn8
      subst e8
      refine last_ (i := 12) (N := none) #[true, true, true, true, true, true, true, true, true, true, true, true, true] rfl rfl (by kernel_rfl) (by decide) (fun K hK => ?_)
      refine skip_ (w1 := ?_) (by rfl) rfl ?_ ?_
      rotate_left
      · go_simp
        rfl
      refine hK.out _ _ ?_
      clear hK K
      refine done_ (by kernel_rfl) ?_
      have hp : MPost B g ok (.slice Av nv cv) l mp w (W8.setCell ⟨g, 0, none⟩ (.slice A8 n8 c8)) (.slice A8 n8 c8) next [⟨c :: List.replicate lits.length 1, x :: lits, least⟩] :=
        ⟨blk_put hg1 0 _ rfl, Kd.N_far (p := ⟨g, 0, none⟩) hN8 (fun k hk => by
            rcases hk with hk | hk
            · exact HOK.out k hk
            · have := blk_lt HG.out; show k ≠ g; omega) _, by
            rcases ha8 with ha8 | ⟨b, ha8, hb⟩
            · exact .inl ha8
            · exact .inr ⟨b, ha8, Nat.le_trans J.below.size hb⟩, hb8.setCell hB _, hk8.setCell (.inl (.inl rfl)) _⟩
      have HP := Aside0.mk hp
      clear hp hcz hfz hg1 hk8 hb8 hg8 ha8 hN8 J hHeld
      go_wp2_with fail
      go_end0
      exact ⟨rfl, _, HP.out⟩
end Go.Proofs.Ytkcmkoolcakfjaa.P

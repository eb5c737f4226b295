/- chalklinelaw13.GateSimple: the walk. -/
import Derived.Test.YtkcmkoolcakfjaaDoorHMadeS
import Derived.Test.YtkcmkoolcakfjaaDoorHReader
import Derived.Test.YtkcmkoolcakfjaaDoorPx3L
namespace Go.Proofs.YtkcmkoolcakfjaaDoor.P
open Go.RowKit Go.Proofs.YtkcmkoolcakfjaaDoorW.PrintWords Go.Proofs.YtkcmkoolcakfjaaDoorW.PrintLast Go.Proofs.YtkcmkoolcakfjaaDoorW.PrintMore Go.Proofs.YtkcmkoolcakfjaaDoor.Aid
set_option linter.unusedVariables false
set_option linter.unusedSimpArgs false

theorem formedF_mono {kind v q : Int} {len : Nat} {n m : Int} (h : formedF kind v q len n = true) (hnm : n ≤ m) : formedF kind v q len m = true := by
  unfold formedF at h ⊢
  by_cases k2 : kind = 2
  · subst k2
    simp at h ⊢
    omega
  · split at h <;> simp_all <;> omega
mutual
theorem formedT_mono : ∀ (t : S24) (n m : Int), formedT t n = true → n ≤ m → formedT t m = true
  | ⟨kind, v, q, l⟩, n, m, h, hnm => by
    simp only [formedT, Bool.and_eq_true] at h ⊢
    exact ⟨formedF_mono h.1 hnm, formedTs_mono l n m h.2 hnm⟩
theorem formedTs_mono : ∀ (ts : List S24) (n m : Int), formedTs ts n = true → n ≤ m → formedTs ts m = true
  | [], _, _, _, _ => rfl
  | t :: ts, n, m, h, hnm => by
    simp only [formedTs, Bool.and_eq_true] at h ⊢
    exact ⟨formedT_mono t n m h.1 hnm, formedTs_mono ts n m h.2 hnm⟩
end
theorem rowb_reads {W W1 : World} {B n c : Nat} {A : Option Addr} {xs : List Bool} (h : Row Value.bool W B 4 (.slice A n c) xs) (hn : n = xs.length) (hb : Below W.heap.size W W1) : n = xs.length ∧ n ≤ c ∧ Kd.bool.C W1 A xs.length xs := by
  obtain ⟨A', c', e, h1, h2⟩ := h.reads (h1 := fun _ => rfl)
  subst hn
  injection e with e1 _ e3
  subst e1 e3
  exact ⟨rfl, h1, Kd.C_below h2 hb⟩
theorem at_ge {v : Value} {n m : Nat} (h : v.ownBlock = some n ∨ ∃ b, v.ownBlock = some b ∧ m ≤ b) (hnm : n ≤ m) : ∀ k, v.ownBlock = some k → n ≤ k := by
  intro k hk
  rcases h with h | ⟨b, h, h2⟩
  · rw [h] at hk; injection hk with hk; omega
  · rw [h] at hk; injection hk with hk; omega
/-- From here on another thing is held. -/
theorem switch_ {P : Program} {md : Region.Mode} {ops : Array Oper} {Q : Exit → Act → World → Prop} {S1 S2 : World → Prop} {ds1 ds2 : List Nat} (h1 : ∀ w, S1 w) : ∀ (fuel : Nat) (l : Array Bool) (a : Act) (w : World), wpAnyLast P md ops Q S2 ds2 fuel l a w → wpAnyLast P md ops Q S1 ds1 fuel l a w
  | 0, _, _, _, h => h
  | fuel + 1, l, a, w, h => ⟨h.1, fun i hi => wpOp_mono (fun a' w' h' => ⟨fun _ _ => h1 w', switch_ h1 fuel _ a' w' h'.2⟩) (h.2 i hi)⟩
/-- Small trees: the answer of Gates. -/
theorem refF_small (T : S24) (next : Int) (h0 : 1 ≤ next) (h1 : next + sizeT T ≤ 4000) : (checkF T (next - 1) ≠ 0 ∧ refF T next = (0, [], 0, checkF T (next - 1))) ∨
    (formedT T (next - 1) = true ∧ checkF T (next - 1) = 0 ∧ wideT T = false ∧ (litF T next).2.2 = next + newsF T ∧ (litF T next).2.2 ≤ 65537 ∧ refF T next = ((litF T next).1, (litF T next).2.1, (litF T next).2.2, 0)) := by
  by_cases h3 : checkF T (next - 1) = 0
  · right
    have hf := checkF_zero h3
    have hw : wideT T = false := by
      by_cases hw : wideT T = true
      · have := wide_size T hw; omega
      · simpa using hw
    have ha := litF_after T (next - 1) next hf
    have hb := newsF_bound T
    have hn := (litF_grows T next).1
    refine ⟨hf, h3, hw, ha, by omega, ?_⟩
    unfold refF
    rw [if_neg (by omega), if_neg (by omega), if_neg (by simpa using h3), if_neg (by simp [hw]), if_neg (by omega)]
  · left
    refine ⟨h3, ?_⟩
    unfold refF
    rw [if_neg (by omega), if_neg (by omega), if_pos h3]
set_option maxRecDepth 100000 in
set_option maxHeartbeats 2000000 in
theorem simple.calls (n : Int) (hn0 : 0 ≤ n) (hn : n ≤ 65536) (T : S24) (A : Option Addr) (c : Nat) (w : World) (hsz : sizeT T ≤ 60000) (hft : formedT T n = true) (hC : Kd.C k24 w A T.f3.length T.f3) (hc : T.f3.length ≤ c) (hI : IdleAt w) :
    Calls Tryd.prog 7 #[.agg #[.int .i64 T.f0, .int .i64 T.f1, .int .i64 T.f2, .slice A T.f3.length c]] w fun e w' => ∃ u, e = .returned u ∧ TreeR w' (fun _ => True) (simpF T) u ∧ Below w.heap.size w w' := by
  have hb0 := below_alloc (below_alloc (Below.refl w.heap.size w) (.cells #[.int .i64 T.f0, .int .i64 T.f1, .int .i64 T.f2, .slice A T.f3.length c] 24)) (.cells #[.int .i64 0, .int .i64 0, .int .i64 0, .slice none 0 0] 24)
  have hx0 := blk_alloc (blk_new w (.cells #[.int .i64 T.f0, .int .i64 T.f1, .int .i64 T.f2, .slice A T.f3.length c] 24)) (.cells #[.int .i64 0, .int .i64 0, .int .i64 0, .slice none 0 0] 24)
  have hg0 : ((w.alloc (.cells #[.int .i64 T.f0, .int .i64 T.f1, .int .i64 T.f2, .slice A T.f3.length c] 24)).alloc (.cells #[.int .i64 0, .int .i64 0, .int .i64 0, .slice none 0 0] 24)).heap[w.heap.size + 1]? = some (.cells #[.int .i64 0, .int .i64 0, .int .i64 0, .slice none 0 0] 24 (0, 0)) := by
    have h := blk_new (w.alloc (.cells #[.int .i64 T.f0, .int .i64 T.f1, .int .i64 T.f2, .slice A T.f3.length c] 24)) (.cells #[.int .i64 0, .int .i64 0, .int .i64 0, .slice none 0 0] 24)
    rwa [World.size_alloc] at h
  have hz0 : ((w.alloc (.cells #[.int .i64 T.f0, .int .i64 T.f1, .int .i64 T.f2, .slice A T.f3.length c] 24)).alloc (.cells #[.int .i64 0, .int .i64 0, .int .i64 0, .slice none 0 0] 24)).heap.size = w.heap.size + 2 := by rw [World.size_alloc, World.size_alloc]
  have hchk : checkF T 65536 = 0 := by
    unfold checkF
    rw [if_neg (by omega), if_neg (by omega), if_neg (by rw [formedT_mono T n 65536 hft hn]; simp), if_neg (by omega)]
  have hk : flat_Check.f T.f0 T.f1 T.f2 T.f3 65536 = some 0 := by unfold flat_Check.f; rw [eta24, if_pos (by omega), hchk]
  have HCHK : Aside0 (∀ W, Below w.heap.size w W → Calls Tryd.prog 14 #[.agg #[.int .i64 T.f0, .int .i64 T.f1, .int .i64 T.f2, .slice A T.f3.length c], .int .i64 65536] W fun e w' => e = .returned (.int .i64 0) ∧ Below W.heap.size W w') := ⟨fun W hW => flat_Check.calls T.f0 T.f1 T.f2 A c T.f3 65536 0 W (Kd.C_below hC hW) hc hk⟩
  have HMADE : Aside0 (∀ W, Below w.heap.size w W → Calls Tryd.prog 15 #[.agg #[.int .i64 T.f0, .int .i64 T.f1, .int .i64 T.f2, .slice A T.f3.length c]] W fun e w' => ∃ u, e = .returned u ∧ TreeR w' (fun k => k < w.heap.size ∨ W.heap.size ≤ k) (simpF T) u ∧ Below W.heap.size W w') := ⟨fun W hW => madeS.calls n 60000 (by omega) T A c w W hsz hft hW hC hc hI⟩
  have HB0 := Aside0.mk hb0
  have HX0 := Aside0.mk hx0
  have HG0 := Aside0.mk hg0
  have HZ0 := Aside0.mk hz0
  clear hb0 hx0 hg0 hz0 hchk hk hC hI hft
  go_enter Tryd.func7, Tryd.ntmps7
  go_wp2_with (first | (go_at_call 14; refine (HCHK.out _ HB0.out).mono ?_; rintro e w1 ⟨rfl, hb⟩; have HB1 := Aside0.mk (below_step HB0.out hb); have HX1 := Aside0.mk (blk_below HX0.out hb); have HG1 := Aside0.mk (blk_below HG0.out hb); have HZ1 := Aside0.mk (show w.heap.size + 2 ≤ w1.heap.size by have h := hb.size; rw [HZ0.out] at h; exact h); clear hb; obtain ⟨z0, z1, z2, z3⟩ := cells4_of HX1.out) | (go_at_call 15; refine (HMADE.out _ HB1.out).mono ?_; rintro e w2 ⟨u, rfl, hT, hb⟩; obtain ⟨AT, cT, eT, hlT, hFT⟩ := hT; subst eT; have HFT := Aside0.mk hFT; have HB2 := Aside0.mk (below_step HB1.out hb); have HG2 := Aside0.mk (blk_below HG1.out hb); obtain ⟨g0, g1, g2, g3⟩ := cells4_of HG2.out; have f0 := blk_frozen HG2.out 0; have f1 := blk_frozen HG2.out 1; have f2 := blk_frozen HG2.out 2; have f3 := blk_frozen HG2.out 3; clear hb hFT))
  refine bodyPost_ret (results_cell4 rfl rfl (blk_store4 HG2.out)) rfl ?_
  exact ⟨_, rfl, treeR_store ⟨AT, cT, rfl, hlT, HFT.out⟩ (fun k hk => by have h := HZ1.out; exact ⟨by omega, trivial⟩), below_store4 HB2.out (by omega)⟩
set_option maxRecDepth 100000 in
set_option maxHeartbeats 8000000 in
theorem GateSimple.calls (kind v q : Int) (At : Option Addr) (c : Nat) (ts : List S24) (A1 : Option Addr) (c1 : Nat) (a : List Bool) (w : World) (hC : Kd.C k24 w At ts.length ts) (hc : ts.length ≤ c) (hC1 : Kd.C Kd.bool w A1 a.length a) (hc1 : a.length ≤ c1) (hs : sizeT ⟨kind, v, q, ts⟩ ≤ 1048576) (hla : a.length ≤ 1048576) (hI : IdleAt w) :
    Calls Tryd.prog 3 #[.agg #[.int .i64 kind, .int .i64 v, .int .i64 q, .slice At ts.length c], .slice A1 a.length c1] w fun e w' => e = .returned (.bool true) ∧ Below w.heap.size w w' := by
  obtain ⟨K1, h1⟩ := live_tells
  obtain ⟨K2, h2⟩ := Size_tells 1048576 (Nat.le_refl _) kind v q ts hs
  have HLIVE := Aside0.mk (fun W => chalklinelaw13_live.calls K1 true W h1)
  have HSIZE : Aside0 (∀ W, Below w.heap.size w W → Calls Tryd.prog 5 #[.agg #[.int .i64 kind, .int .i64 v, .int .i64 q, .slice At ts.length c]] W fun e w' => e = .returned (.int .i64 (sizeT ⟨kind, v, q, ts⟩ : Nat)) ∧ Below W.heap.size W w') := ⟨fun W hW => chalklineref11_Size.calls K2 kind v q At c ts _ W (Kd.C_below hC hW) hc h2⟩
  have hb0 := below_alloc (Below.refl w.heap.size w) (.cells #[.int .i64 kind, .int .i64 v, .int .i64 q, .slice At ts.length c] 24)
  have hx0 := blk_new w (.cells #[.int .i64 kind, .int .i64 v, .int .i64 q, .slice At ts.length c] 24)
  have HB0 := Aside0.mk hb0
  have HX0 := Aside0.mk hx0
  have HC := Aside0.mk hC
  have HC1 := Aside0.mk hC1
  have HI := Aside0.mk hI
  obtain ⟨sz, hsz⟩ : ∃ z, sizeT ⟨kind, v, q, ts⟩ = z := ⟨_, rfl⟩
  rw [hsz] at HSIZE hs
  have HSZ := Aside0.mk hsz
  clear h1 h2 hb0 hx0 hC hC1 hsz hI
  by_cases c1_ : (100 : Int) < sz
  · have c1b : decide ((100 : Int) < sz) = true := decide_eq_true c1_
    go_enter Tryd.func3, Tryd.ntmps3
    go_wp2_with (first | (go_at_call 4; with_reducible refine (HLIVE.out _).mono ?_; rintro e w1 ⟨rfl, hb⟩; have HB1 := Aside0.mk (below_step HB0.out hb); have HX1 := Aside0.mk (blk_below HX0.out hb); clear hb; obtain ⟨z0, z1, z2, z3⟩ := cells4_of HX1.out) | (go_at_call 5; with_reducible refine (HSIZE.out _ HB1.out).mono ?_; rintro e w2 ⟨rfl, hb⟩; have HB2 := Aside0.mk (below_step HB1.out hb); have HX2 := Aside0.mk (blk_below HX1.out hb); clear hb; clear z0 z1 z2 z3; obtain ⟨z0, z1, z2, z3⟩ := cells4_of HX2.out))
    go_ret
    exact ⟨rfl, HB2.out⟩
  · have c1b : decide ((100 : Int) < sz) = false := decide_eq_false c1_
    by_cases c2_ : (20 : Int) < a.length
    · have c2b : decide ((20 : Int) < a.length) = true := decide_eq_true c2_
      go_enter Tryd.func3, Tryd.ntmps3
      go_wp2_with (first | (go_at_call 4; with_reducible refine (HLIVE.out _).mono ?_; rintro e w1 ⟨rfl, hb⟩; have HB1 := Aside0.mk (below_step HB0.out hb); have HX1 := Aside0.mk (blk_below HX0.out hb); clear hb; obtain ⟨z0, z1, z2, z3⟩ := cells4_of HX1.out) | (go_at_call 5; with_reducible refine (HSIZE.out _ HB1.out).mono ?_; rintro e w2 ⟨rfl, hb⟩; have HB2 := Aside0.mk (below_step HB1.out hb); have HX2 := Aside0.mk (blk_below HX1.out hb); clear hb; clear z0 z1 z2 z3; obtain ⟨z0, z1, z2, z3⟩ := cells4_of HX2.out))
      go_ret
      exact ⟨rfl, HB2.out⟩
    · have c2b : decide ((20 : Int) < a.length) = false := decide_eq_false c2_
      have hsmall := refF_small ⟨kind, v, q, ts⟩ (a.length + 1) (by omega) (by rw [HSZ.out]; omega)
      have hG := Gates_tells (kind := kind) (v := v) (q := q) (l := ts) (next := a.length + 1) (by rw [HSZ.out]; exact hs)
      rw [show (a.length : Int) + 1 - 1 = a.length by omega] at hsmall
      rcases hsmall with ⟨g1, g2⟩ | ⟨g1, g2, g3, g4, g5, g6⟩
      · rw [g2] at hG
        have HGATES : Aside0 (∀ W, Below w.heap.size w W → Calls Tryd.prog 6 #[.agg #[.int .i64 kind, .int .i64 v, .int .i64 q, .slice At ts.length c], .int .i64 (a.length + 1)] W fun e w' => ∃ v1, e = .returned (.tuple #[.int .i64 0, v1, .int .i64 0, .int .i64 (checkF ⟨kind, v, q, ts⟩ a.length)]) ∧ Kd.N k42 42 w' W.heap.size (fun k_ => W.heap.size ≤ k_) v1 [] ∧ Below W.heap.size W w') := ⟨fun W hW => gate_Gates.calls kind v q At c ts _ _ _ _ _ W (Kd.C_below HC.out hW) hc hG⟩
        obtain ⟨e, he⟩ : ∃ e, checkF ⟨kind, v, q, ts⟩ a.length = e := ⟨_, rfl⟩
        rw [he] at HGATES g1
        have g1b : (e != 0) = true := by simpa using g1
        clear g1 g2 hG he
        go_enter Tryd.func3, Tryd.ntmps3
        go_wp2_with (first | (go_at_call 4; with_reducible refine (HLIVE.out _).mono ?_; rintro e w1 ⟨rfl, hb⟩; have HB1 := Aside0.mk (below_step HB0.out hb); have HX1 := Aside0.mk (blk_below HX0.out hb); clear hb; obtain ⟨z0, z1, z2, z3⟩ := cells4_of HX1.out) | (go_at_call 5; with_reducible refine (HSIZE.out _ HB1.out).mono ?_; rintro e w2 ⟨rfl, hb⟩; have HB2 := Aside0.mk (below_step HB1.out hb); have HX2 := Aside0.mk (blk_below HX1.out hb); clear hb; clear z0 z1 z2 z3; obtain ⟨z0, z1, z2, z3⟩ := cells4_of HX2.out) | (go_at_call 6; with_reducible refine (HGATES.out _ HB2.out).mono ?_; rintro e w3 ⟨vl, rfl, hN, hb⟩; obtain ⟨Al, cl, el⟩ := Kd.N_slice hN; obtain ⟨nl, hnl⟩ : ∃ z, z = ([] : List S42).length := ⟨_, rfl⟩; rw [← hnl] at el; have HNLL := Aside0.mk hnl; clear hnl; subst el; have HNL := Aside0.mk (Kd.N_reads' hN); have HB3 := Aside0.mk (below_step HB2.out hb); have HX3 := Aside0.mk (blk_below HX2.out hb); clear hb hN; clear z0 z1 z2 z3; obtain ⟨z0, z1, z2, z3⟩ := cells4_of HX3.out))
        go_ret
        exact ⟨rfl, HB3.out⟩
      · obtain ⟨s1, s2, s3⟩ := simp_ok ⟨kind, v, q, ts⟩ a.length g1
        obtain ⟨r1, r2, r3⟩ := read_ok ⟨kind, v, q, ts⟩ a.length (a.length + 1) (false :: a) (false :: a) g1 g3 (by omega) (by omega) g5 (by simp) (by rw [List.length_cons]; omega) List.take_length
        have hHA : holdsF (litF ⟨kind, v, q, ts⟩ (a.length + 1)).2.1 (readF ⟨kind, v, q, ts⟩ (false :: a)).2 = true := (r2.only _ r2.pre (Nat.le_refl _)).2 List.take_length
        have hbnd := readF_bound ⟨kind, v, q, ts⟩ a.length (false :: a) g1 (by omega) (by rw [HSZ.out, List.length_cons]; omega)
        have hokc := litF_okC ⟨kind, v, q, ts⟩ a.length (a.length + 1) g1 g3 (by omega) (by omega)
        have hgr := litF_grows ⟨kind, v, q, ts⟩ (a.length + 1)
        -- the simplified tree
        rw [HSZ.out] at s2
        have HSIMPLE0 : Aside0 (∀ W, Below w.heap.size w W → Calls Tryd.prog 7 #[.agg #[.int .i64 kind, .int .i64 v, .int .i64 q, .slice At ts.length c]] W fun e w' => ∃ u, e = .returned u ∧ TreeR w' (fun _ => True) (simpF ⟨kind, v, q, ts⟩) u ∧ Below W.heap.size W w') := ⟨fun W hW => simple.calls a.length (by omega) (by omega) ⟨kind, v, q, ts⟩ At c W (by rw [HSZ.out]; omega) g1 (Kd.C_below HC.out hW) hc (HI.out.below hW)⟩
        obtain ⟨S, hS⟩ : ∃ S, simpF ⟨kind, v, q, ts⟩ = S := ⟨_, rfl⟩
        rw [hS] at s1 s2 s3 HSIMPLE0
        clear hS
        obtain ⟨nS, hnS⟩ : ∃ z, z = S.f3.length := ⟨_, rfl⟩
        have HNS := Aside0.mk hnS
        have HSIMPLE : Aside0 (∀ W, Below w.heap.size w W → Calls Tryd.prog 7 #[.agg #[.int .i64 kind, .int .i64 v, .int .i64 q, .slice At ts.length c]] W fun e w' => ∃ A c, e = .returned (.agg #[.int .i64 S.f0, .int .i64 S.f1, .int .i64 S.f2, .slice A nS c]) ∧ nS ≤ c ∧ Kd.F k24 w' (fun _ => True) A nS S.f3 ∧ Below W.heap.size W w') := ⟨fun W hW => (HSIMPLE0.out W hW).mono fun e w' ⟨u, he, ⟨A, c, hu, h1, h2⟩, hb⟩ => ⟨A, c, by rw [he, hu, HNS.out], by rw [HNS.out]; exact h1, by rw [HNS.out]; exact h2, hb⟩⟩
        clear HSIMPLE0 hnS
        have hsm2 := refF_small S (a.length + 1) (by omega) (by omega)
        rw [show (a.length : Int) + 1 - 1 = a.length by omega] at hsm2
        have hSchk : checkF S a.length = 0 := by unfold checkF; rw [if_neg (by omega), if_neg (by omega), if_neg (by rw [s1]; simp), if_neg (by omega)]
        rcases hsm2 with ⟨k1, _⟩ | ⟨k1, k2, k3, k4, k5, k6⟩
        · exact absurd hSchk k1
        obtain ⟨t1, t2, t3⟩ := read_ok S a.length (a.length + 1) (false :: a) (false :: a) k1 k3 (by omega) (by omega) k5 (by simp) (by rw [List.length_cons]; omega) List.take_length
        have hHB : holdsF (litF S (a.length + 1)).2.1 (readF S (false :: a)).2 = true := (t2.only _ t2.pre (Nat.le_refl _)).2 List.take_length
        have hbndS := readF_bound S a.length (false :: a) k1 (by omega) (by rw [List.length_cons]; omega)
        have hokS := litF_okC S a.length (a.length + 1) k1 k3 (by omega) (by omega)
        have hgrS := litF_grows S (a.length + 1)
        have hnbS := newsF_bound S
        have hnbT := newsF_bound ⟨kind, v, q, ts⟩
        rw [HSZ.out] at hnbT
        rw [s3, ← r3] at t3
        have hGS := Gates_tells (kind := S.f0) (v := S.f1) (q := S.f2) (l := S.f3) (next := a.length + 1) (by rw [eta24]; omega)
        rw [eta24, k6] at hGS
        rw [g6] at hG
        obtain ⟨⟨x, A'⟩, hrd⟩ : ∃ z, readF ⟨kind, v, q, ts⟩ (false :: a) = z := ⟨_, rfl⟩
        obtain ⟨⟨y, B'⟩, hrs⟩ : ∃ z, readF S (false :: a) = z := ⟨_, rfl⟩
        rw [hrd] at r1 t3 hHA hbnd
        rw [hrs] at t1 t3 hHB hbndS
        simp only at r1 t1 t3 hHA hbnd hHB hbndS
        rw [← r1] at hG
        rw [← t1] at hGS
        generalize hcs : (litF ⟨kind, v, q, ts⟩ (a.length + 1)).2.1 = cs at hokc hgr hG hHA
        generalize hms : (litF S (a.length + 1)).2.1 = ms at hokS hgrS hGS hHB
        generalize haf : (litF ⟨kind, v, q, ts⟩ (a.length + 1)).2.2 = af at hokc hgr hG g4
        generalize hbf : (litF S (a.length + 1)).2.2 = bf at hokS hgrS hGS k4
        obtain ⟨K3, h3⟩ := holds_tells cs A' (by omega) (by rw [HSZ.out] at hbnd; simp at hbnd; omega) (fun s hs' => by
          have := hokc s hs'
          have e1 := this.1
          have e2 := this.2.1
          omega)
        obtain ⟨K4, h4⟩ := holds_tells ms B' (by omega) (by simp at hbndS; omega) (fun s hs' => by
          have := hokS s hs'
          have e1 := this.1
          have e2 := this.2.1
          omega)
        rw [hHA] at h3
        rw [hHB] at h4
        have HGATES : Aside0 (∀ W, Below w.heap.size w W → Calls Tryd.prog 6 #[.agg #[.int .i64 kind, .int .i64 v, .int .i64 q, .slice At ts.length c], .int .i64 (a.length + 1)] W fun e w' => ∃ v1, e = .returned (.tuple #[.int .i64 x, v1, .int .i64 af, .int .i64 0]) ∧ Kd.N k42 42 w' W.heap.size (fun k_ => W.heap.size ≤ k_) v1 cs ∧ Below W.heap.size W w') := ⟨fun W hW => gate_Gates.calls kind v q At c ts _ _ _ _ _ W (Kd.C_below HC.out hW) hc hG⟩
        have HGATES2 : Aside0 (∀ (A : Option Addr) (c : Nat) (W : World), Kd.C k24 W A nS S.f3 → nS ≤ c → Calls Tryd.prog 6 #[.agg #[.int .i64 S.f0, .int .i64 S.f1, .int .i64 S.f2, .slice A nS c], .int .i64 (a.length + 1)] W fun e w' => ∃ v1, e = .returned (.tuple #[.int .i64 y, v1, .int .i64 bf, .int .i64 0]) ∧ Kd.N k42 42 w' W.heap.size (fun k_ => W.heap.size ≤ k_) v1 ms ∧ Below W.heap.size W w') := ⟨fun A c W h1 h2 => by
          rw [HNS.out] at h1 h2 ⊢
          exact gate_Gates.calls S.f0 S.f1 S.f2 A c S.f3 _ _ _ _ _ W h1 h2 hGS⟩
        have HREADA : Aside0 (∀ (w0 : World) (g : Nat) (u : Value) (W : World), Below w.heap.size w w0 → w0.heap.size ≤ g → Below w0.heap.size w0 W → W.heap[g]? = some (.cells #[u] 35 (0, 0)) → Row Value.bool W w0.heap.size 4 u (false :: a) → Calls Tryd.prog 8 #[.pointer (some ⟨g, 0, none⟩), .agg #[.int .i64 kind, .int .i64 v, .int .i64 q, .slice At ts.length c]] W fun e w' => e = .returned (.int .i64 x) ∧ ∃ u', BPost w0.heap.size g u W w' u' A') := ⟨fun w0 g u W hw0 hg hW hb hr => by
          have h := reader.calls a.length (by omega) w0 w0.heap.size g (Nat.le_refl _) hg 1048576 (Nat.le_refl _) ⟨kind, v, q, ts⟩ At c u (false :: a) W (by rw [HSZ.out]; exact hs) g1 (by rw [HSZ.out, List.length_cons]; omega) hW hW.size (Kd.C_below HC.out hw0) hc hb hr
          rw [hrd] at h
          exact h⟩
        have HREADB : Aside0 (∀ (A : Option Addr) (c : Nat) (w0 : World) (g : Nat) (u : Value) (W : World), Kd.C k24 w0 A nS S.f3 → nS ≤ c → w0.heap.size ≤ g → Below w0.heap.size w0 W → W.heap[g]? = some (.cells #[u] 35 (0, 0)) → Row Value.bool W w0.heap.size 4 u (false :: a) → Calls Tryd.prog 8 #[.pointer (some ⟨g, 0, none⟩), .agg #[.int .i64 S.f0, .int .i64 S.f1, .int .i64 S.f2, .slice A nS c]] W fun e w' => e = .returned (.int .i64 y) ∧ ∃ u', BPost w0.heap.size g u W w' u' B') := ⟨fun A c w0 g u W h1 h2 hg hW hb hr => by
          rw [HNS.out] at h1 h2 ⊢
          have h := reader.calls a.length (by omega) w0 w0.heap.size g (Nat.le_refl _) hg 1048576 (Nat.le_refl _) S A c u (false :: a) W (by omega) k1 (by rw [List.length_cons]; omega) hW hW.size h1 h2 hb hr
          rw [hrs] at h
          exact h⟩
        have HT3 := Aside0.mk t3
        have HH3 := Aside0.mk h3
        have HH4 := Aside0.mk h4
        have hx0 := hbnd.1
        have hx1 := hbnd.2.1
        have hy0 := hbndS.1
        have hy1 := hbndS.2.1
        clear hG hGS hrd hrs g1 g2 g3 g4 g5 g6 k1 k2 k3 k4 k5 k6 r1 r2 r3 t1 t2 t3 s1 s2 s3 hHA hHB hbnd hbndS hokc hokS hgr hgrS hnbS hnbT hcs hms haf hbf h3 h4 hSchk
        go_enter Tryd.func3, Tryd.ntmps3
        go_wp2_with (first | (go_at_call 4; with_reducible refine (HLIVE.out _).mono ?_; rintro e w1 ⟨rfl, hb⟩; have HB1 := Aside0.mk (below_step HB0.out hb); have HX1 := Aside0.mk (blk_below HX0.out hb); clear hb; obtain ⟨z0, z1, z2, z3⟩ := cells4_of HX1.out) | (go_at_call 5; with_reducible refine (HSIZE.out _ HB1.out).mono ?_; rintro e w2 ⟨rfl, hb⟩; have HB2 := Aside0.mk (below_step HB1.out hb); have HX2 := Aside0.mk (blk_below HX1.out hb); clear hb; clear z0 z1 z2 z3; obtain ⟨z0, z1, z2, z3⟩ := cells4_of HX2.out) | (go_at_call 6; with_reducible refine (HGATES.out _ HB2.out).mono ?_; rintro e w3 ⟨vl, rfl, hN, hb⟩; obtain ⟨Al, cl, el⟩ := Kd.N_slice hN; obtain ⟨nl, hnl⟩ : ∃ z, z = cs.length := ⟨_, rfl⟩; rw [← hnl] at el; have HNLL := Aside0.mk hnl; clear hnl; subst el; have HNL := Aside0.mk (Kd.N_reads' hN); have HB3 := Aside0.mk (below_step HB2.out hb); have HX3 := Aside0.mk (blk_below HX2.out hb); clear hb hN; clear z0 z1 z2 z3; obtain ⟨z0, z1, z2, z3⟩ := cells4_of HX3.out) | (go_at_call 7; with_reducible refine (HSIMPLE.out _ HB3.out).mono ?_; rintro e w4 ⟨AS, cS, rfl, hlS, hFS, hb⟩; have HCS := Aside0.mk (Kd.F_now hFS); have HLS := Aside0.mk hlS; have HB34 := Aside0.mk hb; have HB4 := Aside0.mk (below_step HB3.out hb); have HX4 := Aside0.mk (blk_below HX3.out hb); have HY4 := Aside0.mk (blk_new w4 (.cells #[.int .i64 S.f0, .int .i64 S.f1, .int .i64 S.f2, .slice AS nS cS] 24)); clear hb hFS hlS; clear z0 z1 z2 z3) | (go_at_call 6; with_reducible refine (HGATES2.out AS cS _ (Kd.C_below HCS.out (below_alloc (Below.refl w4.heap.size w4) _)) HLS.out).mono ?_; rintro e w5 ⟨vm, rfl, hN, hb⟩; obtain ⟨Am, cm, em⟩ := Kd.N_slice hN; obtain ⟨nm, hnm⟩ : ∃ z, z = ms.length := ⟨_, rfl⟩; rw [← hnm] at em; have HNMM := Aside0.mk hnm; clear hnm; subst em; have HNM := Aside0.mk (Kd.N_reads' hN); have HB45 := Aside0.mk (below_step (below_alloc (Below.refl w4.heap.size w4) _) hb); have HB5 := Aside0.mk (below_step HB4.out HB45.out); have HX5 := Aside0.mk (blk_below HX4.out HB45.out); have HY5 := Aside0.mk (blk_below HY4.out hb); have hz5 : w.heap.size < w5.heap.size := blk_lt HX5.out; have hy5 : w4.heap.size < w5.heap.size := blk_lt HY5.out; clear hb hN) | (at_builtin; refine Kd.R_append_rows Kd.bool (w0 := w5) w5.heap.size rfl (.tmp 54) (.tmp 55) 25 4 (.bool false) 1 rfl Tryd.underlying25 info4_ rfl (by decide) (by omega) (.slice (some ⟨(w5).heap.size, 0, none⟩) 1 1) [false] a A1 a.length c1 (fun _ => True) (fun _ => False) (by first | rfl | (rw [World.size_alloc]; rfl)) rfl (Row.toR (Row.lit (w5) w5.heap.size 4 false ((Below.refl w5.heap.size w5)).size) _ (fun _ _ => trivial)) (Kd.C_below HC1.out (below_step HB5.out (below_alloc ((Below.refl w5.heap.size w5)) _))) (fun _ _ h => h) (fun _ h => h.elim) (fun _ _ => trivial) (below_alloc ((Below.refl w5.heap.size w5)) _) (by have := ((Below.refl w5.heap.size w5)).size; simp only [World.size_alloc] at this ⊢; omega) (by simp only [List.length_singleton]; omega) ?_; intro v6 w6 hR hb hg hat; obtain ⟨A6, n6, c6, e6⟩ := (Row.ofR hR).form; subst e6; have HR6 : Aside0 (Row Value.bool w6 w5.heap.size 4 (.slice A6 n6 c6) (false :: a)) := ⟨Row.ofR hR⟩; have HAT6 := Aside0.mk (at_ge (n := (w5).heap.size) hat (by simp only [World.size_alloc]; omega)); have HBA6 := Aside0.mk hb; have HG6 := Aside0.mk hg; clear hR hb hg hat) | (at_builtin; refine Kd.R_append_rows Kd.bool (w0 := w5) w5.heap.size rfl (.tmp 59) (.tmp 60) 25 4 (.bool false) 1 rfl Tryd.underlying25 info4_ rfl (by decide) (by omega) (.slice (some ⟨(w6.alloc (.cells #[.slice A6 n6 c6] 35)).heap.size, 0, none⟩) 1 1) [false] a A1 a.length c1 (fun _ => True) (fun _ => False) (by first | rfl | (rw [World.size_alloc]; rfl)) rfl (Row.toR (Row.lit (w6.alloc (.cells #[.slice A6 n6 c6] 35)) w5.heap.size 4 false (below_alloc HBA6.out (.cells #[.slice A6 n6 c6] 35)).size) _ (fun _ _ => trivial)) (Kd.C_below HC1.out (below_step HB5.out (below_alloc (below_alloc HBA6.out (.cells #[.slice A6 n6 c6] 35)) _))) (fun _ _ h => h) (fun _ h => h.elim) (fun _ _ => trivial) (below_alloc (below_alloc HBA6.out (.cells #[.slice A6 n6 c6] 35)) _) (by have := (below_alloc HBA6.out (.cells #[.slice A6 n6 c6] 35)).size; simp only [World.size_alloc] at this ⊢; omega) (by simp only [List.length_singleton]; omega) ?_; intro v7 w7 hR hb hg hat; obtain ⟨A7, n7, c7, e7⟩ := (Row.ofR hR).form; subst e7; have HR7 : Aside0 (Row Value.bool w7 w5.heap.size 4 (.slice A7 n7 c7) (false :: a)) := ⟨Row.ofR hR⟩; have HAT7 := Aside0.mk (at_ge (n := (w6.alloc (.cells #[.slice A6 n6 c6] 35)).heap.size) hat (by simp only [World.size_alloc]; omega)); have HBA7 := Aside0.mk hb; have HG7 := Aside0.mk hg; clear hR hb hg hat))
        obtain ⟨ga, hga⟩ : ∃ g, w6.heap.size = g := ⟨_, rfl⟩
        obtain ⟨gb, hgb⟩ : ∃ g, w7.heap.size = g := ⟨_, rfl⟩
        have hva : ∀ k, (Value.slice A6 n6 c6).ownBlock = some k → k < ga := fun k hk => by rw [← hga]; exact (HR6.out.lt k hk).2
        have hvb : ∀ k, (Value.slice A7 n7 c7).ownBlock = some k → ga < k ∧ k < gb := fun k hk => by
          have h1 := HAT7.out k hk
          rw [World.size_alloc] at h1
          exact ⟨by omega, by rw [← hgb]; exact (HR7.out.lt k hk).2⟩
        have hG7 := HG7.out
        have hgab : ga < gb := by have h := hG7.size; simp only [World.size_alloc] at h; omega
        have hga7 : w7.heap[ga]? = some (.cells #[.slice A6 n6 c6] 35 (0, 0)) := by
          refine blk_grown (blk_alloc (by rw [← hga]; exact blk_new w6 _) _) hG7 (fun e => ?_)
          simp [Value.ownBlock, World.size_alloc] at e
          omega
        have hra7 : Row Value.bool w7 w5.heap.size 4 (.slice A6 n6 c6) (false :: a) := by
          refine ((HR6.out.below (below_alloc (Below.refl w6.heap.size w6) _)).below (below_alloc (Below.refl _ _) _)).grown hG7 (fun k hk e => ?_)
          have h1 := hva k hk
          simp [Value.ownBlock, World.size_alloc] at e
          omega
        obtain ⟨W8, hW8⟩ : ∃ W8, W8 = (w7.alloc (.cells #[.slice A7 n7 c7] 35)).drew := ⟨_, rfl⟩
        have hB8 : Below w5.heap.size w5 W8 := by rw [hW8]; exact below_drew (below_alloc HBA7.out _)
        have hga8 : W8.heap[ga]? = some (.cells #[.slice A6 n6 c6] 35 (0, 0)) := by rw [hW8]; exact blk_alloc hga7 _
        have hgb8 : W8.heap[gb]? = some (.cells #[.slice A7 n7 c7] 35 (0, 0)) := by rw [hW8, ← hgb]; exact blk_new w7 _
        have hra8 : Row Value.bool W8 w5.heap.size 4 (.slice A6 n6 c6) (false :: a) := by rw [hW8]; exact hra7.below (below_drew (below_alloc (Below.refl w7.heap.size w7) _))
        have hrb8 : Row Value.bool W8 w5.heap.size 4 (.slice A7 n7 c7) (false :: a) := by rw [hW8]; exact HR7.out.below (below_drew (below_alloc (Below.refl w7.heap.size w7) _))
        have hs8 : W8.heap.size = gb + 1 := by rw [hW8, ← hgb]; exact World.size_alloc _ _
        have hg5 : w5.heap.size ≤ ga := by rw [← hga]; exact HBA6.out.size
        have hX8 := blk_below HX5.out hB8
        have hY8 := blk_below HY5.out hB8
        have HVA := Aside0.mk hva
        have HVB := Aside0.mk hvb
        have HB8 := Aside0.mk hB8
        have HGA8 := Aside0.mk hga8
        have HGB8 := Aside0.mk hgb8
        have HRA8 := Aside0.mk hra8
        have HRB8 := Aside0.mk hrb8
        have HS8 := Aside0.mk hs8
        have HX8 := Aside0.mk hX8
        have HY8 := Aside0.mk hY8
        rw [hga, hgb]
        clear hva hvb hG7 hga7 hra7 hB8 hga8 hgb8 hra8 hrb8 hs8 hX8 hY8 hga HR6 HR7 HAT6 HAT7 HG6 HG7 HBA6 HX0 HX1 HX2 HX3 HX4 HX5 HY4 HY5 hz5 hy5
        refine start_ (n := 44) (S := fun _ => True) (ds := []) #[false, false, false, false, false, false, false, false, false, false, false, false, false, false, false, false, false, false, false, false, false, false, false, false, false, false, false, false, false, false, false, false, false, false, false, false, false, false, false, false, false, false, false, false] (by kernel_rfl) rfl rfl trivial (fun hHeld => ?_)
        rw [← hgb, ← hW8]
        clear hW8 hHeld
        refine pure_ (i := 0) (N := some 64) (v := ?_) (a' := ?_) #[true, false, false, false, false, false, false, false, false, false, false, false, false, false, false, false, false, false, false, false, false, false, false, false, false, false, false, false, false, false, false, false, false, false, false, false, false, false, false, false, false, false, false, false] rfl rfl (by kernel_rfl) (fun _ _ _ h => h) (Or.inl ⟨by rfl, ?_⟩) ?_ ?_
        rotate_left
        · intro w'
          go_simp
          with_reducible rfl
        rotate_left
        · simp only [Act.put, List.setIfInBounds_toArray, List.set_cons_zero, List.set_cons_succ, i64_w, i32_w]
          rfl
        refine pure_ (i := 3) (N := some 67) (v := ?_) (a' := ?_) #[true, false, false, true, false, false, false, false, false, false, false, false, false, false, false, false, false, false, false, false, false, false, false, false, false, false, false, false, false, false, false, false, false, false, false, false, false, false, false, false, false, false, false, false] rfl rfl (by kernel_rfl) (fun _ _ _ h => h) (Or.inl ⟨by rfl, ?_⟩) ?_ ?_
        rotate_left
        · intro w'
          go_simp
          with_reducible rfl
        rotate_left
        · simp only [Act.put, List.setIfInBounds_toArray, List.set_cons_zero, List.set_cons_succ, i64_w, i32_w]
          rfl
        refine one_ (i := 1) (N := some 65) #[true, true, false, true, false, false, false, false, false, false, false, false, false, false, false, false, false, false, false, false, false, false, false, false, false, false, false, false, false, false, false, false, false, false, false, false, false, false, false, false, false, false, false, false] rfl rfl (by kernel_rfl) (by decide) (fun K hK => ?_)
        refine event_step (v := .agg #[.int .i64 kind, .int .i64 v, .int .i64 q, .slice At ts.length c]) (w1 := W8) (by rfl) ?hr_ (hK.out _ _ trivial (fun _ => ?_))
        case hr_ =>
          obtain ⟨hc0, hc1, hc2, hc3⟩ := cells4_of HX8.out
          go_simp
          try rfl
        clear hK K
        refine norm_ (a' := ?_) ?_ ?_
        rotate_left
        · show Act.put _ (some 65) _ = _
          simp only [Act.put, List.setIfInBounds_toArray, List.set_cons_zero, List.set_cons_succ, i64_w, i32_w]
          rfl
        refine one_ (i := 2) (N := some 66) #[true, true, true, true, false, false, false, false, false, false, false, false, false, false, false, false, false, false, false, false, false, false, false, false, false, false, false, false, false, false, false, false, false, false, false, false, false, false, false, false, false, false, false, false] rfl rfl (by kernel_rfl) (by decide) (fun K hK => ?_)
        refine goes_ Tryd.func8 (by kernel_rfl) rfl #[.pointer (some ⟨ga, 0, none⟩), .agg #[.int .i64 kind, .int .i64 v, .int .i64 q, .slice At ts.length c]] (by rfl) rfl rfl (by simp only [List.map_toArray, List.map_cons, List.map_nil]; rfl) ?_
        refine (HREADA.out w5 ga _ W8 HB5.out hg5 HB8.out HGA8.out HRA8.out).mono ?_
        rintro e W2 ⟨rfl, ua, hpa⟩
        refine ⟨_, rfl, ?_⟩
        have hgb2 : W2.heap[gb]? = some (.cells #[.slice A7 n7 c7] 35 (0, 0)) := blk_kept HGB8.out hpa.kept (by rintro (e | e); omega; have := HVA.out gb e.symm; omega)
        have hrb2 : Row Value.bool W2 w5.heap.size 4 (.slice A7 n7 c7) (false :: a) := HRB8.out.move (fun k hk => hpa.kept.2 k (HRB8.out.lt k hk).2 (by rintro (e | e); have := HVB.out k hk; omega; have h1 := HVB.out k hk; have h2 := HVA.out k e.symm; omega))
        have hY2 := hpa.other HGA8.out HRA8.out HY8.out (by decide) (by decide)
        have hB2 : Below w5.heap.size w5 W2 := HB8.out.trans hpa.below
        have HPA := Aside0.mk hpa
        have HGB2 := Aside0.mk hgb2
        have HRB2 := Aside0.mk hrb2
        have HY2 := Aside0.mk hY2
        have HB2W := Aside0.mk hB2
        clear hpa hgb2 hrb2 hY2 hB2
        refine hK.out _ _ trivial (fun _ => ?_)
        clear hK K
        refine norm_ (a' := ?_) ?_ ?_
        rotate_left
        · show Act.put _ (some 66) _ = _
          simp only [Act.put, List.setIfInBounds_toArray, List.set_cons_zero, List.set_cons_succ, i64_w, i32_w]
          rfl
        refine pure_ (i := 4) (N := some 68) (v := ?_) (a' := ?_) #[true, true, true, true, true, false, false, false, false, false, false, false, false, false, false, false, false, false, false, false, false, false, false, false, false, false, false, false, false, false, false, false, false, false, false, false, false, false, false, false, false, false, false, false] rfl rfl (by kernel_rfl) (fun _ _ _ h => h) (Or.inl ⟨by rfl, ?_⟩) ?_ ?_
        rotate_left
        · intro w'
          go_simp
          rfl
        rotate_left
        · simp only [Act.put, List.setIfInBounds_toArray, List.set_cons_zero, List.set_cons_succ, i64_w, i32_w]
          rfl
        refine pure_ (i := 5) (N := some 69) (v := ?_) (a' := ?_) #[true, true, true, true, true, true, false, false, false, false, false, false, false, false, false, false, false, false, false, false, false, false, false, false, false, false, false, false, false, false, false, false, false, false, false, false, false, false, false, false, false, false, false, false] rfl rfl (by kernel_rfl) (fun _ _ _ h => h) (Or.inl ⟨by rfl, ?_⟩) ?_ ?_
        rotate_left
        · intro w'
          go_simp
          with_reducible rfl
        rotate_left
        · simp only [Act.put, List.setIfInBounds_toArray, List.set_cons_zero, List.set_cons_succ, i64_w, i32_w]
          rfl
        refine pure_ (i := 6) (N := some 70) (v := ?_) (a' := ?_) #[true, true, true, true, true, true, true, false, false, false, false, false, false, false, false, false, false, false, false, false, false, false, false, false, false, false, false, false, false, false, false, false, false, false, false, false, false, false, false, false, false, false, false, false] rfl rfl (by kernel_rfl) (fun _ _ _ h => h) (Or.inl ⟨by rfl, ?_⟩) ?_ ?_
        rotate_left
        · intro w'
          go_simp
          with_reducible rfl
        rotate_left
        · simp only [Act.put, List.setIfInBounds_toArray, List.set_cons_zero, List.set_cons_succ, i64_w, i32_w]
          rfl
        refine pure_ (i := 9) (N := some 73) (v := ?_) (a' := ?_) #[true, true, true, true, true, true, true, false, false, true, false, false, false, false, false, false, false, false, false, false, false, false, false, false, false, false, false, false, false, false, false, false, false, false, false, false, false, false, false, false, false, false, false, false] rfl rfl (by kernel_rfl) (fun _ _ _ h => h) (Or.inl ⟨by rfl, ?_⟩) ?_ ?_
        rotate_left
        · intro w'
          go_simp
          with_reducible rfl
        rotate_left
        · simp only [Act.put, List.setIfInBounds_toArray, List.set_cons_zero, List.set_cons_succ, i64_w, i32_w]
          rfl
        refine one_ (i := 7) (N := some 71) #[true, true, true, true, true, true, true, true, false, true, false, false, false, false, false, false, false, false, false, false, false, false, false, false, false, false, false, false, false, false, false, false, false, false, false, false, false, false, false, false, false, false, false, false] rfl rfl (by kernel_rfl) (by decide) (fun K hK => ?_)
        refine event_step (v := .agg #[.int .i64 S.f0, .int .i64 S.f1, .int .i64 S.f2, .slice AS nS cS]) (w1 := W2) (by rfl) ?hr_ (hK.out _ _ trivial (fun _ => ?_))
        case hr_ =>
          obtain ⟨hc0, hc1, hc2, hc3⟩ := cells4_of HY2.out
          go_simp
          try rfl
        clear hK K
        refine norm_ (a' := ?_) ?_ ?_
        rotate_left
        · show Act.put _ (some 71) _ = _
          simp only [Act.put, List.setIfInBounds_toArray, List.set_cons_zero, List.set_cons_succ, i64_w, i32_w]
          rfl
        refine one_ (i := 8) (N := some 72) #[true, true, true, true, true, true, true, true, true, true, false, false, false, false, false, false, false, false, false, false, false, false, false, false, false, false, false, false, false, false, false, false, false, false, false, false, false, false, false, false, false, false, false, false] rfl rfl (by kernel_rfl) (by decide) (fun K hK => ?_)
        refine goes_ Tryd.func8 (by kernel_rfl) rfl #[.pointer (some ⟨gb, 0, none⟩), .agg #[.int .i64 S.f0, .int .i64 S.f1, .int .i64 S.f2, .slice AS nS cS]] (by rfl) rfl rfl (by simp only [List.map_toArray, List.map_cons, List.map_nil]; rfl) ?_
        refine (HREADB.out AS cS w5 gb _ W2 (Kd.C_below HCS.out HB45.out) HLS.out (by omega) HB2W.out HGB2.out HRB2.out).mono ?_
        rintro e W3 ⟨rfl, ub, hpb⟩
        refine ⟨_, rfl, ?_⟩
        have hga3 : W3.heap[ga]? = some (.cells #[ua] 35 (0, 0)) := blk_kept HPA.out.blk hpb.kept (by rintro (e | e); omega; have := HVB.out ga e.symm; omega)
        have hra3 : Row Value.bool W3 w5.heap.size 4 ua A' := HPA.out.row.move (fun k hk => hpb.kept.2 k (HPA.out.row.lt k hk).2 (by
          rintro (e | e)
          · exact HPA.out.row.ne_block HGB2.out (by decide) k hk e
          · have h1 := HVB.out k e.symm
            rcases HPA.out.at_ with h2 | ⟨b, h2, h3⟩
            · rw [h2] at hk; have := HVA.out k hk; omega
            · rw [h2] at hk; injection hk with hk; have := HS8.out; omega))
        have hB3 : Below w5.heap.size w5 W3 := HB2W.out.trans hpb.below
        obtain ⟨Aa, ca, ea, _, _⟩ := hra3.reads (h1 := fun _ => rfl)
        obtain ⟨na, hna⟩ : ∃ z, z = A'.length := ⟨_, rfl⟩
        rw [← hna] at ea
        subst ea
        obtain ⟨Ab, cb, eb, _, _⟩ := hpb.row.reads (h1 := fun _ => rfl)
        obtain ⟨nb, hnb⟩ : ∃ z, z = B'.length := ⟨_, rfl⟩
        rw [← hnb] at eb
        subst eb
        have HNA := Aside0.mk hna
        have HNB := Aside0.mk hnb
        have HGA3 := Aside0.mk hga3
        have HGB3 := Aside0.mk hpb.blk
        have HRA3 := Aside0.mk hra3
        have HRB3 := Aside0.mk hpb.row
        have HB3W := Aside0.mk hB3
        clear hna hnb hga3 hra3 hB3 hpb
        obtain ⟨tv, htv⟩ : ∃ z, trueF x A' = z := ⟨_, rfl⟩
        have htv2 : trueF y B' = tv := by rw [HT3.out, htv]
        have HHA : Aside0 (∀ W, Below W3.heap.size W3 W → Calls Tryd.prog 9 #[.slice Al nl cl, .slice Aa na ca] W fun e w' => e = .returned (.bool true) ∧ Below W.heap.size W w') := ⟨fun W hW => by
          obtain ⟨h1, h2, h3⟩ := rowb_reads HRA3.out HNA.out hW
          have h4 := HNL.out
          rw [h1, HNLL.out]
          exact chalklinelaw13_holds.calls K3 Al cl cs Aa ca A' true W (Kd.C_below h4.2.2 ((HB34.out.trans (HB45.out.mono HB34.out.size)).trans ((HB3W.out.trans (hW.mono HB3W.out.size)).mono (by have e1 := HB34.out.size; have e2 := HB45.out.size; omega)))) (by have h5 := h4.2.1; have h6 := HNLL.out; omega) h3 (by omega) HH3.out⟩
        have HHB : Aside0 (∀ W, Below W3.heap.size W3 W → Calls Tryd.prog 9 #[.slice Am nm cm, .slice Ab nb cb] W fun e w' => e = .returned (.bool true) ∧ Below W.heap.size W w') := ⟨fun W hW => by
          obtain ⟨h1, h2, h3⟩ := rowb_reads HRB3.out HNB.out hW
          have h4 := HNM.out
          rw [h1, HNMM.out]
          exact chalklinelaw13_holds.calls K4 Am cm ms Ab cb B' true W (Kd.C_below h4.2.2 (HB3W.out.trans (hW.mono HB3W.out.size))) (by have h5 := h4.2.1; have h6 := HNMM.out; omega) h3 (by omega) HH4.out⟩
        have HTA : Aside0 (∀ W, Below W3.heap.size W3 W → Calls Tryd.prog 10 #[.int .i64 x, .slice Aa na ca] W fun e w' => e = .returned (.bool tv) ∧ Below W.heap.size W w') := ⟨fun W hW => by
          obtain ⟨h1, h2, h3⟩ := rowb_reads HRA3.out HNA.out hW
          rw [h1]
          exact (chalklineref13_Truth.calls 2 x Aa ca A' tv W h3 (by omega) (by rw [Truth_tells x A' (by omega) (by omega), htv])).mono (fun e w' hh => ⟨hh.1, hh.2.below⟩)⟩
        have HTB : Aside0 (∀ W, Below W3.heap.size W3 W → Calls Tryd.prog 10 #[.int .i64 y, .slice Ab nb cb] W fun e w' => e = .returned (.bool tv) ∧ Below W.heap.size W w') := ⟨fun W hW => by
          obtain ⟨h1, h2, h3⟩ := rowb_reads HRB3.out HNB.out hW
          rw [h1]
          exact (chalklineref13_Truth.calls 2 y Ab cb B' tv W h3 (by omega) (by rw [Truth_tells y B' (by omega) (by omega), htv2])).mono (fun e w' hh => ⟨hh.1, hh.2.below⟩)⟩
        clear htv htv2
        refine hK.out _ _ trivial (fun _ => ?_)
        clear hK K
        refine switch_ (S2 := fun V => Below W3.heap.size W3 V) (ds2 := []) (fun _ => trivial) _ _ _ _ ?_
        have hHeld : Below W3.heap.size W3 W3 := Below.refl _ _
        refine norm_ (a' := ?_) ?_ ?_
        rotate_left
        · show Act.put _ (some 72) _ = _
          simp only [Act.put, List.setIfInBounds_toArray, List.set_cons_zero, List.set_cons_succ, i64_w, i32_w]
          rfl
        refine pure_ (i := 10) (N := some 74) (v := ?_) (a' := ?_) #[true, true, true, true, true, true, true, true, true, true, true, false, false, false, false, false, false, false, false, false, false, false, false, false, false, false, false, false, false, false, false, false, false, false, false, false, false, false, false, false, false, false, false, false] rfl rfl (by kernel_rfl) (fun _ _ _ h => h) (Or.inl ⟨by rfl, ?_⟩) ?_ ?_
        rotate_left
        · intro w'
          go_simp
          rfl
        rotate_left
        · simp only [Act.put, List.setIfInBounds_toArray, List.set_cons_zero, List.set_cons_succ, i64_w, i32_w]
          rfl
        refine pure_ (i := 11) (N := some 75) (v := ?_) (a' := ?_) #[true, true, true, true, true, true, true, true, true, true, true, true, false, false, false, false, false, false, false, false, false, false, false, false, false, false, false, false, false, false, false, false, false, false, false, false, false, false, false, false, false, false, false, false] rfl rfl (by kernel_rfl) (fun _ _ _ h => h) (Or.inl ⟨by rfl, ?_⟩) ?_ ?_
        rotate_left
        · intro w'
          go_simp
          with_reducible rfl
        rotate_left
        · simp only [Act.put, List.setIfInBounds_toArray, List.set_cons_zero, List.set_cons_succ, i64_w, i32_w]
          rfl
        refine pure_ (i := 12) (N := some 76) (v := ?_) (a' := ?_) #[true, true, true, true, true, true, true, true, true, true, true, true, true, false, false, false, false, false, false, false, false, false, false, false, false, false, false, false, false, false, false, false, false, false, false, false, false, false, false, false, false, false, false, false] rfl rfl (by kernel_rfl) (fun _ _ _ h => h) (Or.inl ⟨by rfl, ?_⟩) ?_ ?_
        rotate_left
        · intro w'
          go_simp
          with_reducible rfl
        rotate_left
        · simp only [Act.put, List.setIfInBounds_toArray, List.set_cons_zero, List.set_cons_succ, i64_w, i32_w]
          rfl
        refine pure_ (i := 13) (N := some 77) (v := ?_) (a' := ?_) #[true, true, true, true, true, true, true, true, true, true, true, true, true, true, false, false, false, false, false, false, false, false, false, false, false, false, false, false, false, false, false, false, false, false, false, false, false, false, false, false, false, false, false, false] rfl rfl (by kernel_rfl) (fun _ _ _ h => h) (Or.inl ⟨by rfl, ?_⟩) ?_ ?_
        rotate_left
        · intro w'
          go_simp
          with_reducible rfl
        rotate_left
        · simp only [Act.put, List.setIfInBounds_toArray, List.set_cons_zero, List.set_cons_succ, i64_w, i32_w]
          rfl
        refine pure_ (i := 14) (N := some 78) (v := ?_) (a' := ?_) #[true, true, true, true, true, true, true, true, true, true, true, true, true, true, true, false, false, false, false, false, false, false, false, false, false, false, false, false, false, false, false, false, false, false, false, false, false, false, false, false, false, false, false, false] rfl rfl (by kernel_rfl) (fun _ _ _ h => h) (Or.inl ⟨by rfl, ?_⟩) ?_ ?_
        rotate_left
        · intro w'
          go_simp
          with_reducible rfl
        rotate_left
        · simp only [Act.put, List.setIfInBounds_toArray, List.set_cons_zero, List.set_cons_succ, i64_w, i32_w]
          rfl
        refine pure_ (i := 15) (N := some 79) (v := ?_) (a' := ?_) #[true, true, true, true, true, true, true, true, true, true, true, true, true, true, true, true, false, false, false, false, false, false, false, false, false, false, false, false, false, false, false, false, false, false, false, false, false, false, false, false, false, false, false, false] rfl rfl (by kernel_rfl) (fun _ _ _ h => h) (Or.inl ⟨by rfl, ?_⟩) ?_ ?_
        rotate_left
        · intro w'
          go_simp
          with_reducible rfl
        rotate_left
        · simp only [Act.put, List.setIfInBounds_toArray, List.set_cons_zero, List.set_cons_succ, i64_w, i32_w]
          rfl
        refine pure_ (i := 16) (N := some 80) (v := ?_) (a' := ?_) #[true, true, true, true, true, true, true, true, true, true, true, true, true, true, true, true, true, false, false, false, false, false, false, false, false, false, false, false, false, false, false, false, false, false, false, false, false, false, false, false, false, false, false, false] rfl rfl (by kernel_rfl) (fun _ _ _ h => h) (Or.inl ⟨by rfl, ?_⟩) ?_ ?_
        rotate_left
        · intro w'
          go_simp
          with_reducible rfl
        rotate_left
        · simp only [Act.put, List.setIfInBounds_toArray, List.set_cons_zero, List.set_cons_succ, i64_w, i32_w]
          rfl
        refine take_ (i := 17) (N := some 81) (v := ?_) (a' := ?_) #[true, true, true, true, true, true, true, true, true, true, true, true, true, true, true, true, true, true, false, false, false, false, false, false, false, false, false, false, false, false, false, false, false, false, false, false, false, false, false, false, false, false, false, false] rfl rfl (by kernel_rfl) (fun _ _ _ h => h) (Or.inl ⟨by rfl, ?_⟩) hHeld ?_ ?_
        rotate_left
        · rintro w' hw
          have hc0 := blk_cell (blk_below HGA3.out hw) 0
          go_simp
          with_reducible rfl
        rotate_left
        · simp only [Act.put, List.setIfInBounds_toArray, List.set_cons_zero, List.set_cons_succ, i64_w, i32_w]
          rfl
        refine one_ (i := 18) (N := some 82) #[true, true, true, true, true, true, true, true, true, true, true, true, true, true, true, true, true, true, true, false, false, false, false, false, false, false, false, false, false, false, false, false, false, false, false, false, false, false, false, false, false, false, false, false] rfl rfl (by kernel_rfl) (by decide) (fun K hK => ?_)
        refine goes_ Tryd.func9 (by kernel_rfl) rfl #[.slice Al nl cl, .slice Aa na ca] (by rfl) rfl rfl (by simp only [List.map_toArray, List.map_cons, List.map_nil]; rfl) ?_
        refine (HHA.out _ hHeld).mono ?_
        rintro e W4 ⟨rfl, hb⟩
        refine ⟨_, rfl, ?_⟩
        refine hK.out _ _ (below_step hHeld hb) (fun hHeld => ?_)
        clear hK K hb
        refine norm_ (a' := ?_) ?_ ?_
        rotate_left
        · show Act.put _ (some 82) _ = _
          simp only [Act.put, List.setIfInBounds_toArray, List.set_cons_zero, List.set_cons_succ, i64_w, i32_w]
          rfl
        refine pure_ (i := 19) (N := some 83) (v := ?_) (a' := ?_) #[true, true, true, true, true, true, true, true, true, true, true, true, true, true, true, true, true, true, true, true, false, false, false, false, false, false, false, false, false, false, false, false, false, false, false, false, false, false, false, false, false, false, false, false] rfl rfl (by kernel_rfl) (fun _ _ _ h => h) (Or.inl ⟨by rfl, ?_⟩) ?_ ?_
        rotate_left
        · intro w'
          go_simp
          with_reducible rfl
        rotate_left
        · simp only [Act.put, List.setIfInBounds_toArray, List.set_cons_zero, List.set_cons_succ, i64_w, i32_w]
          rfl
        refine pure_ (i := 20) (N := some 84) (v := ?_) (a' := ?_) #[true, true, true, true, true, true, true, true, true, true, true, true, true, true, true, true, true, true, true, true, true, false, false, false, false, false, false, false, false, false, false, false, false, false, false, false, false, false, false, false, false, false, false, false] rfl rfl (by kernel_rfl) (fun _ _ _ h => h) (Or.inl ⟨by rfl, ?_⟩) ?_ ?_
        rotate_left
        · intro w'
          go_simp
          with_reducible rfl
        rotate_left
        · simp only [Act.put, List.setIfInBounds_toArray, List.set_cons_zero, List.set_cons_succ, i64_w, i32_w]
          rfl
        refine pure_ (i := 21) (N := some 85) (v := ?_) (a' := ?_) #[true, true, true, true, true, true, true, true, true, true, true, true, true, true, true, true, true, true, true, true, true, true, false, false, false, false, false, false, false, false, false, false, false, false, false, false, false, false, false, false, false, false, false, false] rfl rfl (by kernel_rfl) (fun _ _ _ h => h) (Or.inl ⟨by rfl, ?_⟩) ?_ ?_
        rotate_left
        · intro w'
          go_simp
          with_reducible rfl
        rotate_left
        · simp only [Act.put, List.setIfInBounds_toArray, List.set_cons_zero, List.set_cons_succ, i64_w, i32_w]
          rfl
        refine pure_ (i := 22) (N := some 86) (v := ?_) (a' := ?_) #[true, true, true, true, true, true, true, true, true, true, true, true, true, true, true, true, true, true, true, true, true, true, true, false, false, false, false, false, false, false, false, false, false, false, false, false, false, false, false, false, false, false, false, false] rfl rfl (by kernel_rfl) (fun _ _ _ h => h) (Or.inl ⟨by rfl, ?_⟩) ?_ ?_
        rotate_left
        · intro w'
          go_simp
          with_reducible rfl
        rotate_left
        · simp only [Act.put, List.setIfInBounds_toArray, List.set_cons_zero, List.set_cons_succ, i64_w, i32_w]
          rfl
        refine pure_ (i := 23) (N := some 87) (v := ?_) (a' := ?_) #[true, true, true, true, true, true, true, true, true, true, true, true, true, true, true, true, true, true, true, true, true, true, true, true, false, false, false, false, false, false, false, false, false, false, false, false, false, false, false, false, false, false, false, false] rfl rfl (by kernel_rfl) (fun _ _ _ h => h) (Or.inl ⟨by rfl, ?_⟩) ?_ ?_
        rotate_left
        · intro w'
          go_simp
          with_reducible rfl
        rotate_left
        · simp only [Act.put, List.setIfInBounds_toArray, List.set_cons_zero, List.set_cons_succ, i64_w, i32_w]
          rfl
        refine pure_ (i := 24) (N := some 88) (v := ?_) (a' := ?_) #[true, true, true, true, true, true, true, true, true, true, true, true, true, true, true, true, true, true, true, true, true, true, true, true, true, false, false, false, false, false, false, false, false, false, false, false, false, false, false, false, false, false, false, false] rfl rfl (by kernel_rfl) (fun _ _ _ h => h) (Or.inl ⟨by rfl, ?_⟩) ?_ ?_
        rotate_left
        · intro w'
          go_simp
          with_reducible rfl
        rotate_left
        · simp only [Act.put, List.setIfInBounds_toArray, List.set_cons_zero, List.set_cons_succ, i64_w, i32_w]
          rfl
        refine take_ (i := 25) (N := some 89) (v := ?_) (a' := ?_) #[true, true, true, true, true, true, true, true, true, true, true, true, true, true, true, true, true, true, true, true, true, true, true, true, true, true, false, false, false, false, false, false, false, false, false, false, false, false, false, false, false, false, false, false] rfl rfl (by kernel_rfl) (fun _ _ _ h => h) (Or.inl ⟨by rfl, ?_⟩) hHeld ?_ ?_
        rotate_left
        · rintro w' hw
          have hc0 := blk_cell (blk_below HGB3.out hw) 0
          go_simp
          with_reducible rfl
        rotate_left
        · simp only [Act.put, List.setIfInBounds_toArray, List.set_cons_zero, List.set_cons_succ, i64_w, i32_w]
          rfl
        refine one_ (i := 26) (N := some 90) #[true, true, true, true, true, true, true, true, true, true, true, true, true, true, true, true, true, true, true, true, true, true, true, true, true, true, true, false, false, false, false, false, false, false, false, false, false, false, false, false, false, false, false, false] rfl rfl (by kernel_rfl) (by decide) (fun K hK => ?_)
        refine goes_ Tryd.func9 (by kernel_rfl) rfl #[.slice Am nm cm, .slice Ab nb cb] (by rfl) rfl rfl (by simp only [List.map_toArray, List.map_cons, List.map_nil]; rfl) ?_
        refine (HHB.out _ hHeld).mono ?_
        rintro e W4 ⟨rfl, hb⟩
        refine ⟨_, rfl, ?_⟩
        refine hK.out _ _ (below_step hHeld hb) (fun hHeld => ?_)
        clear hK K hb
        refine norm_ (a' := ?_) ?_ ?_
        rotate_left
        · show Act.put _ (some 90) _ = _
          simp only [Act.put, List.setIfInBounds_toArray, List.set_cons_zero, List.set_cons_succ, i64_w, i32_w]
          rfl
        refine pure_ (i := 27) (N := some 91) (v := ?_) (a' := ?_) #[true, true, true, true, true, true, true, true, true, true, true, true, true, true, true, true, true, true, true, true, true, true, true, true, true, true, true, true, false, false, false, false, false, false, false, false, false, false, false, false, false, false, false, false] rfl rfl (by kernel_rfl) (fun _ _ _ h => h) (Or.inl ⟨by rfl, ?_⟩) ?_ ?_
        rotate_left
        · intro w'
          go_simp
          with_reducible rfl
        rotate_left
        · simp only [Act.put, List.setIfInBounds_toArray, List.set_cons_zero, List.set_cons_succ, i64_w, i32_w]
          rfl
        refine pure_ (i := 28) (N := some 92) (v := ?_) (a' := ?_) #[true, true, true, true, true, true, true, true, true, true, true, true, true, true, true, true, true, true, true, true, true, true, true, true, true, true, true, true, true, false, false, false, false, false, false, false, false, false, false, false, false, false, false, false] rfl rfl (by kernel_rfl) (fun _ _ _ h => h) (Or.inl ⟨by rfl, ?_⟩) ?_ ?_
        rotate_left
        · intro w'
          go_simp
          with_reducible rfl
        rotate_left
        · simp only [Act.put, List.setIfInBounds_toArray, List.set_cons_zero, List.set_cons_succ, i64_w, i32_w]
          rfl
        refine pure_ (i := 29) (N := some 93) (v := ?_) (a' := ?_) #[true, true, true, true, true, true, true, true, true, true, true, true, true, true, true, true, true, true, true, true, true, true, true, true, true, true, true, true, true, true, false, false, false, false, false, false, false, false, false, false, false, false, false, false] rfl rfl (by kernel_rfl) (fun _ _ _ h => h) (Or.inl ⟨by rfl, ?_⟩) ?_ ?_
        rotate_left
        · intro w'
          go_simp
          with_reducible rfl
        rotate_left
        · simp only [Act.put, List.setIfInBounds_toArray, List.set_cons_zero, List.set_cons_succ, i64_w, i32_w]
          rfl
        refine pure_ (i := 30) (N := some 94) (v := ?_) (a' := ?_) #[true, true, true, true, true, true, true, true, true, true, true, true, true, true, true, true, true, true, true, true, true, true, true, true, true, true, true, true, true, true, true, false, false, false, false, false, false, false, false, false, false, false, false, false] rfl rfl (by kernel_rfl) (fun _ _ _ h => h) (Or.inl ⟨by rfl, ?_⟩) ?_ ?_
        rotate_left
        · intro w'
          go_simp
          with_reducible rfl
        rotate_left
        · simp only [Act.put, List.setIfInBounds_toArray, List.set_cons_zero, List.set_cons_succ, i64_w, i32_w]
          rfl
        refine pure_ (i := 31) (N := some 95) (v := ?_) (a' := ?_) #[true, true, true, true, true, true, true, true, true, true, true, true, true, true, true, true, true, true, true, true, true, true, true, true, true, true, true, true, true, true, true, true, false, false, false, false, false, false, false, false, false, false, false, false] rfl rfl (by kernel_rfl) (fun _ _ _ h => h) (Or.inl ⟨by rfl, ?_⟩) ?_ ?_
        rotate_left
        · intro w'
          go_simp
          with_reducible rfl
        rotate_left
        · simp only [Act.put, List.setIfInBounds_toArray, List.set_cons_zero, List.set_cons_succ, i64_w, i32_w]
          rfl
        refine pure_ (i := 32) (N := some 96) (v := ?_) (a' := ?_) #[true, true, true, true, true, true, true, true, true, true, true, true, true, true, true, true, true, true, true, true, true, true, true, true, true, true, true, true, true, true, true, true, true, false, false, false, false, false, false, false, false, false, false, false] rfl rfl (by kernel_rfl) (fun _ _ _ h => h) (Or.inl ⟨by rfl, ?_⟩) ?_ ?_
        rotate_left
        · intro w'
          go_simp
          with_reducible rfl
        rotate_left
        · simp only [Act.put, List.setIfInBounds_toArray, List.set_cons_zero, List.set_cons_succ, i64_w, i32_w]
          rfl
        refine take_ (i := 33) (N := some 97) (v := ?_) (a' := ?_) #[true, true, true, true, true, true, true, true, true, true, true, true, true, true, true, true, true, true, true, true, true, true, true, true, true, true, true, true, true, true, true, true, true, true, false, false, false, false, false, false, false, false, false, false] rfl rfl (by kernel_rfl) (fun _ _ _ h => h) (Or.inl ⟨by rfl, ?_⟩) hHeld ?_ ?_
        rotate_left
        · rintro w' hw
          have hc0 := blk_cell (blk_below HGA3.out hw) 0
          go_simp
          with_reducible rfl
        rotate_left
        · simp only [Act.put, List.setIfInBounds_toArray, List.set_cons_zero, List.set_cons_succ, i64_w, i32_w]
          rfl
        refine pure_ (i := 35) (N := some 99) (v := ?_) (a' := ?_) #[true, true, true, true, true, true, true, true, true, true, true, true, true, true, true, true, true, true, true, true, true, true, true, true, true, true, true, true, true, true, true, true, true, true, false, true, false, false, false, false, false, false, false, false] rfl rfl (by kernel_rfl) (fun _ _ _ h => h) (Or.inl ⟨by rfl, ?_⟩) ?_ ?_
        rotate_left
        · intro w'
          go_simp
          with_reducible rfl
        rotate_left
        · simp only [Act.put, List.setIfInBounds_toArray, List.set_cons_zero, List.set_cons_succ, i64_w, i32_w]
          rfl
        refine pure_ (i := 36) (N := some 100) (v := ?_) (a' := ?_) #[true, true, true, true, true, true, true, true, true, true, true, true, true, true, true, true, true, true, true, true, true, true, true, true, true, true, true, true, true, true, true, true, true, true, false, true, true, false, false, false, false, false, false, false] rfl rfl (by kernel_rfl) (fun _ _ _ h => h) (Or.inl ⟨by rfl, ?_⟩) ?_ ?_
        rotate_left
        · intro w'
          go_simp
          with_reducible rfl
        rotate_left
        · simp only [Act.put, List.setIfInBounds_toArray, List.set_cons_zero, List.set_cons_succ, i64_w, i32_w]
          rfl
        refine pure_ (i := 37) (N := some 101) (v := ?_) (a' := ?_) #[true, true, true, true, true, true, true, true, true, true, true, true, true, true, true, true, true, true, true, true, true, true, true, true, true, true, true, true, true, true, true, true, true, true, false, true, true, true, false, false, false, false, false, false] rfl rfl (by kernel_rfl) (fun _ _ _ h => h) (Or.inl ⟨by rfl, ?_⟩) ?_ ?_
        rotate_left
        · intro w'
          go_simp
          with_reducible rfl
        rotate_left
        · simp only [Act.put, List.setIfInBounds_toArray, List.set_cons_zero, List.set_cons_succ, i64_w, i32_w]
          rfl
        refine pure_ (i := 38) (N := some 102) (v := ?_) (a' := ?_) #[true, true, true, true, true, true, true, true, true, true, true, true, true, true, true, true, true, true, true, true, true, true, true, true, true, true, true, true, true, true, true, true, true, true, false, true, true, true, true, false, false, false, false, false] rfl rfl (by kernel_rfl) (fun _ _ _ h => h) (Or.inl ⟨by rfl, ?_⟩) ?_ ?_
        rotate_left
        · intro w'
          go_simp
          with_reducible rfl
        rotate_left
        · simp only [Act.put, List.setIfInBounds_toArray, List.set_cons_zero, List.set_cons_succ, i64_w, i32_w]
          rfl
        refine take_ (i := 39) (N := some 103) (v := ?_) (a' := ?_) #[true, true, true, true, true, true, true, true, true, true, true, true, true, true, true, true, true, true, true, true, true, true, true, true, true, true, true, true, true, true, true, true, true, true, false, true, true, true, true, true, false, false, false, false] rfl rfl (by kernel_rfl) (fun _ _ _ h => h) (Or.inl ⟨by rfl, ?_⟩) hHeld ?_ ?_
        rotate_left
        · rintro w' hw
          have hc0 := blk_cell (blk_below HGB3.out hw) 0
          go_simp
          with_reducible rfl
        rotate_left
        · simp only [Act.put, List.setIfInBounds_toArray, List.set_cons_zero, List.set_cons_succ, i64_w, i32_w]
          rfl
        refine one_ (i := 34) (N := some 98) #[true, true, true, true, true, true, true, true, true, true, true, true, true, true, true, true, true, true, true, true, true, true, true, true, true, true, true, true, true, true, true, true, true, true, true, true, true, true, true, true, false, false, false, false] rfl rfl (by kernel_rfl) (by decide) (fun K hK => ?_)
        refine goes_ Tryd.func10 (by kernel_rfl) rfl #[.int .i64 x, .slice Aa na ca] (by rfl) rfl rfl (by simp only [List.map_toArray, List.map_cons, List.map_nil]; rfl) ?_
        refine (HTA.out _ hHeld).mono ?_
        rintro e W4 ⟨rfl, hb⟩
        refine ⟨_, rfl, ?_⟩
        refine hK.out _ _ (below_step hHeld hb) (fun hHeld => ?_)
        clear hK K hb
        refine norm_ (a' := ?_) ?_ ?_
        rotate_left
        · show Act.put _ (some 98) _ = _
          simp only [Act.put, List.setIfInBounds_toArray, List.set_cons_zero, List.set_cons_succ, i64_w, i32_w]
          rfl
        refine one_ (i := 40) (N := some 104) #[true, true, true, true, true, true, true, true, true, true, true, true, true, true, true, true, true, true, true, true, true, true, true, true, true, true, true, true, true, true, true, true, true, true, true, true, true, true, true, true, true, false, false, false] rfl rfl (by kernel_rfl) (by decide) (fun K hK => ?_)
        refine goes_ Tryd.func10 (by kernel_rfl) rfl #[.int .i64 y, .slice Ab nb cb] (by rfl) rfl rfl (by simp only [List.map_toArray, List.map_cons, List.map_nil]; rfl) ?_
        refine (HTB.out _ hHeld).mono ?_
        rintro e W4 ⟨rfl, hb⟩
        refine ⟨_, rfl, ?_⟩
        refine hK.out _ _ (below_step hHeld hb) (fun hHeld => ?_)
        clear hK K hb
        refine norm_ (a' := ?_) ?_ ?_
        rotate_left
        · show Act.put _ (some 104) _ = _
          simp only [Act.put, List.setIfInBounds_toArray, List.set_cons_zero, List.set_cons_succ, i64_w, i32_w]
          rfl
        refine pure_ (i := 41) (N := some 105) (v := ?_) (a' := ?_) #[true, true, true, true, true, true, true, true, true, true, true, true, true, true, true, true, true, true, true, true, true, true, true, true, true, true, true, true, true, true, true, true, true, true, true, true, true, true, true, true, true, true, false, false] rfl rfl (by kernel_rfl) (fun _ _ _ h => h) (Or.inl ⟨by rfl, ?_⟩) ?_ ?_
        rotate_left
        · intro w'
          go_simp
          rfl
        rotate_left
        · simp only [Act.put, List.setIfInBounds_toArray, List.set_cons_zero, List.set_cons_succ, i64_w, i32_w]
          rfl
        refine pure_ (i := 42) (N := some 106) (v := ?_) (a' := ?_) #[true, true, true, true, true, true, true, true, true, true, true, true, true, true, true, true, true, true, true, true, true, true, true, true, true, true, true, true, true, true, true, true, true, true, true, true, true, true, true, true, true, true, true, false] rfl rfl (by kernel_rfl) (fun _ _ _ h => h) (Or.inl ⟨by rfl, ?_⟩) ?_ ?_
        rotate_left
        · intro w'
          go_simp
          with_reducible rfl
        rotate_left
        · simp only [Act.put, List.setIfInBounds_toArray, List.set_cons_zero, List.set_cons_succ, i64_w, i32_w]
          rfl
        refine pure_ (i := 43) (N := some 4) (v := ?_) (a' := ?_) #[true, true, true, true, true, true, true, true, true, true, true, true, true, true, true, true, true, true, true, true, true, true, true, true, true, true, true, true, true, true, true, true, true, true, true, true, true, true, true, true, true, true, true, true] rfl rfl (by kernel_rfl) (fun _ _ _ h => h) (Or.inl ⟨by rfl, ?_⟩) ?_ ?_
        rotate_left
        · intro w'
          go_simp
          with_reducible rfl
        rotate_left
        · simp only [Act.put, List.setIfInBounds_toArray, List.set_cons_zero, List.set_cons_succ, i64_w, i32_w]
          rfl
        refine done_ (by kernel_rfl) ?_
        have HBE := Aside0.mk (HB5.out.trans ((HB3W.out.trans (hHeld.mono HB3W.out.size)).mono HB5.out.size))
        clear hHeld
        go_wp2_with fail
        go_ret
        exact ⟨rfl, HBE.out⟩
end Go.Proofs.YtkcmkoolcakfjaaDoor.P

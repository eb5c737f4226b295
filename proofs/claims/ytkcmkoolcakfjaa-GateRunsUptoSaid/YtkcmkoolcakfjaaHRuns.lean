/- chalklinelaw13.GateRuns: the walk. -/
import Derived.Test.YtkcmkoolcakfjaaHReader
import Derived.Test.YtkcmkoolcakfjaaPx3L
namespace Go.Proofs.Ytkcmkoolcakfjaa.P
open Go.RowKit Go.Proofs.YtkcmkoolcakfjaaW.PrintWords Go.Proofs.YtkcmkoolcakfjaaW.PrintLast Go.Proofs.YtkcmkoolcakfjaaW.PrintMore Go.Proofs.Ytkcmkoolcakfjaa.Aid
set_option linter.unusedVariables false
set_option linter.unusedSimpArgs false

theorem cells4_of {W : World} {b t : Nat} {x0 x1 x2 x3 : Value} (h : W.heap[b]? = some (.cells #[x0, x1, x2, x3] t (0, 0))) : W.cell? ⟨b, 0, none⟩ = some x0 ∧ W.cell? ⟨b, 1, none⟩ = some x1 ∧ W.cell? ⟨b, 2, none⟩ = some x2 ∧ W.cell? ⟨b, 3, none⟩ = some x3 :=
  ⟨(blk_cell h 0).trans rfl, (blk_cell h 1).trans rfl, (blk_cell h 2).trans rfl, (blk_cell h 3).trans rfl⟩
theorem rowb_reads {W W1 : World} {B n c : Nat} {A : Option Addr} {xs : List Bool} (h : Row Value.bool W B 4 (.slice A n c) xs) (hn : n = xs.length) (hb : Below W.heap.size W W1) : n = xs.length ∧ n ≤ c ∧ Kd.bool.C W1 A xs.length xs := by
  obtain ⟨A', c', e, h1, h2⟩ := h.reads (h1 := fun _ => rfl)
  subst hn
  injection e with e1 _ e3
  subst e1 e3
  exact ⟨rfl, h1, Kd.C_below h2 hb⟩
theorem flip_ne {l : List Bool} {j : Nat} (h : j < l.length) : l.set j (!rdOf false l (j : Int)) ≠ l := by
  intro e
  have h1 := congrArg (fun z => z[j]?) e
  simp only [List.getElem?_set_self h, List.getElem?_eq_getElem h, Option.some.injEq] at h1
  unfold rdOf at h1
  rw [Int.toNat_natCast, List.getD_eq_getElem?_getD, List.getElem?_eq_getElem h] at h1
  simp at h1
theorem at_ge {v : Value} {n m : Nat} (h : v.ownBlock = some n ∨ ∃ b, v.ownBlock = some b ∧ m ≤ b) (hnm : n ≤ m) : ∀ k, v.ownBlock = some k → n ≤ k := by
  intro k hk
  rcases h with h | ⟨b, h, h2⟩
  · rw [h] at hk; injection hk with hk; omega
  · rw [h] at hk; injection hk with hk; omega
/-- Small trees: the answer of Gates. -/
theorem refF_small (T : S24) (next : Int) (h0 : 1 ≤ next) (h1 : next + sizeT T ≤ 4000) : (checkF T (next - 1) ≠ 0 ∧ refF T next = (0, [], 0, checkF T (next - 1))) ∨
    (formedT T (next - 1) = true ∧ checkF T (next - 1) = 0 ∧ wideT T = false ∧ (litF T next).2.2 = next + newsF T ∧ (litF T next).2.2 ≤ 65537 ∧ refF T next = ((litF T next).1, (litF T next).2.1, (litF T next).2.2, 0)) := by
  by_cases h3 : checkF T (next - 1) = 0
  · right
    have hf := checkF_zero h3
    have hw : wideT T = false := by
      by_cases hw : wideT T = true
      · have := wide_size T hw; omega
      · simpa using hw
    have ha := litF_after T (next - 1) next hf
    have hb := newsF_bound T
    have hn := (litF_grows T next).1
    refine ⟨hf, h3, hw, ha, by omega, ?_⟩
    unfold refF
    rw [if_neg (by omega), if_neg (by omega), if_neg (by simpa using h3), if_neg (by simp [hw]), if_neg (by omega)]
  · left
    refine ⟨h3, ?_⟩
    unfold refF
    rw [if_neg (by omega), if_neg (by omega), if_pos h3]
set_option maxRecDepth 100000 in
set_option maxHeartbeats 8000000 in
theorem GateRuns.calls (kind v q : Int) (At : Option Addr) (c : Nat) (ts : List S24) (A1 : Option Addr) (c1 : Nat) (a : List Bool) (t : Int) (w : World) (hC : Kd.C k24 w At ts.length ts) (hc : ts.length ≤ c) (hC1 : Kd.C Kd.bool w A1 a.length a) (hc1 : a.length ≤ c1) (hs : sizeT ⟨kind, v, q, ts⟩ ≤ 1048576) (hla : a.length ≤ 1048576) (ht : t ≤ 9223372036854775807) :
    Calls Try.prog 8 #[.agg #[.int .i64 kind, .int .i64 v, .int .i64 q, .slice At ts.length c], .slice A1 a.length c1, .int .i64 t] w fun e w' => e = .returned (.bool true) ∧ Below w.heap.size w w' := by
  obtain ⟨K1, h1⟩ := live_tells
  obtain ⟨K2, h2⟩ := Size_tells 1048576 (Nat.le_refl _) kind v q ts hs
  have HLIVE := Aside0.mk (fun W => chalklinelaw13_live.calls K1 true W h1)
  have HSIZE : Aside0 (∀ W, Below w.heap.size w W → Calls Try.prog 11 #[.agg #[.int .i64 kind, .int .i64 v, .int .i64 q, .slice At ts.length c]] W fun e w' => e = .returned (.int .i64 (sizeT ⟨kind, v, q, ts⟩ : Nat)) ∧ Below W.heap.size W w') := ⟨fun W hW => chalklineref11_Size.calls K2 kind v q At c ts _ W (Kd.C_below hC hW) hc h2⟩
  have hb0 := below_alloc (Below.refl w.heap.size w) (.cells #[.int .i64 kind, .int .i64 v, .int .i64 q, .slice At ts.length c] 24)
  have hx0 := blk_new w (.cells #[.int .i64 kind, .int .i64 v, .int .i64 q, .slice At ts.length c] 24)
  have HB0 := Aside0.mk hb0
  have HX0 := Aside0.mk hx0
  have HC := Aside0.mk hC
  have HC1 := Aside0.mk hC1
  obtain ⟨sz, hsz⟩ : ∃ z, sizeT ⟨kind, v, q, ts⟩ = z := ⟨_, rfl⟩
  rw [hsz] at HSIZE hs
  have HSZ := Aside0.mk hsz
  clear h1 h2 hb0 hx0 hC hC1 hsz
  by_cases c1_ : (400 : Int) < sz
  · have c1b : decide ((400 : Int) < sz) = true := decide_eq_true c1_
    go_enter Try.func8, Try.ntmps8
    go_wp2_with (first | (go_at_call 10; with_reducible refine (HLIVE.out _).mono ?_; rintro e w1 ⟨rfl, hb⟩; have HB1 := Aside0.mk (below_step HB0.out hb); have HX1 := Aside0.mk (blk_below HX0.out hb); clear hb; obtain ⟨z0, z1, z2, z3⟩ := cells4_of HX1.out) | (go_at_call 11; with_reducible refine (HSIZE.out _ HB1.out).mono ?_; rintro e w2 ⟨rfl, hb⟩; have HB2 := Aside0.mk (below_step HB1.out hb); have HX2 := Aside0.mk (blk_below HX1.out hb); clear hb; clear z0 z1 z2 z3; obtain ⟨z0, z1, z2, z3⟩ := cells4_of HX2.out))
    go_ret
    exact ⟨rfl, HB2.out⟩
  · have c1b : decide ((400 : Int) < sz) = false := decide_eq_false c1_
    by_cases c2_ : (60 : Int) < a.length
    · have c2b : decide ((60 : Int) < a.length) = true := decide_eq_true c2_
      go_enter Try.func8, Try.ntmps8
      go_wp2_with (first | (go_at_call 10; with_reducible refine (HLIVE.out _).mono ?_; rintro e w1 ⟨rfl, hb⟩; have HB1 := Aside0.mk (below_step HB0.out hb); have HX1 := Aside0.mk (blk_below HX0.out hb); clear hb; obtain ⟨z0, z1, z2, z3⟩ := cells4_of HX1.out) | (go_at_call 11; with_reducible refine (HSIZE.out _ HB1.out).mono ?_; rintro e w2 ⟨rfl, hb⟩; have HB2 := Aside0.mk (below_step HB1.out hb); have HX2 := Aside0.mk (blk_below HX1.out hb); clear hb; clear z0 z1 z2 z3; obtain ⟨z0, z1, z2, z3⟩ := cells4_of HX2.out))
      go_ret
      exact ⟨rfl, HB2.out⟩
    · have c2b : decide ((60 : Int) < a.length) = false := decide_eq_false c2_
      by_cases c3_ : t < 0
      · have c3b : decide (t < 0) = true := decide_eq_true c3_
        go_enter Try.func8, Try.ntmps8
        go_wp2_with (first | (go_at_call 10; with_reducible refine (HLIVE.out _).mono ?_; rintro e w1 ⟨rfl, hb⟩; have HB1 := Aside0.mk (below_step HB0.out hb); have HX1 := Aside0.mk (blk_below HX0.out hb); clear hb; obtain ⟨z0, z1, z2, z3⟩ := cells4_of HX1.out) | (go_at_call 11; with_reducible refine (HSIZE.out _ HB1.out).mono ?_; rintro e w2 ⟨rfl, hb⟩; have HB2 := Aside0.mk (below_step HB1.out hb); have HX2 := Aside0.mk (blk_below HX1.out hb); clear hb; clear z0 z1 z2 z3; obtain ⟨z0, z1, z2, z3⟩ := cells4_of HX2.out))
        go_ret
        exact ⟨rfl, HB2.out⟩
      · have c3b : decide (t < 0) = false := decide_eq_false c3_
        have hsmall := refF_small ⟨kind, v, q, ts⟩ (a.length + 1) (by omega) (by rw [HSZ.out]; omega)
        have hG := Gates_tells (kind := kind) (v := v) (q := q) (l := ts) (next := a.length + 1) (by rw [HSZ.out]; exact hs)
        have hK : flat_Check.f kind v q ts a.length = some (checkF ⟨kind, v, q, ts⟩ a.length) := by unfold flat_Check.f; rw [if_pos (by rw [HSZ.out]; exact hs)]
        rw [show (a.length : Int) + 1 - 1 = a.length by omega] at hsmall
        rcases hsmall with ⟨g1, g2⟩ | ⟨g1, g2, g3, g4, g5, g6⟩
        · rw [g2] at hG
          have HGATES : Aside0 (∀ W, Below w.heap.size w W → Calls Try.prog 12 #[.agg #[.int .i64 kind, .int .i64 v, .int .i64 q, .slice At ts.length c], .int .i64 (a.length + 1)] W fun e w' => ∃ v1, e = .returned (.tuple #[.int .i64 0, v1, .int .i64 0, .int .i64 (checkF ⟨kind, v, q, ts⟩ a.length)]) ∧ Kd.N k40 40 w' W.heap.size (fun k_ => W.heap.size ≤ k_) v1 [] ∧ Below W.heap.size W w') := ⟨fun W hW => gate_Gates.calls kind v q At c ts _ _ _ _ _ W (Kd.C_below HC.out hW) hc hG⟩
          obtain ⟨e, he⟩ : ∃ e, checkF ⟨kind, v, q, ts⟩ a.length = e := ⟨_, rfl⟩
          rw [he] at HGATES g1
          have g1b : (e != 0) = true := by simpa using g1
          clear g1 g2 hG hK he
          go_enter Try.func8, Try.ntmps8
          go_wp2_with (first | (go_at_call 10; with_reducible refine (HLIVE.out _).mono ?_; rintro e w1 ⟨rfl, hb⟩; have HB1 := Aside0.mk (below_step HB0.out hb); have HX1 := Aside0.mk (blk_below HX0.out hb); clear hb; obtain ⟨z0, z1, z2, z3⟩ := cells4_of HX1.out) | (go_at_call 11; with_reducible refine (HSIZE.out _ HB1.out).mono ?_; rintro e w2 ⟨rfl, hb⟩; have HB2 := Aside0.mk (below_step HB1.out hb); have HX2 := Aside0.mk (blk_below HX1.out hb); clear hb; clear z0 z1 z2 z3; obtain ⟨z0, z1, z2, z3⟩ := cells4_of HX2.out) | (go_at_call 12; with_reducible refine (HGATES.out _ HB2.out).mono ?_; rintro e w3 ⟨vl, rfl, hN, hb⟩; obtain ⟨Al, cl, el⟩ := Kd.N_slice hN; obtain ⟨nl, hnl⟩ : ∃ z, z = ([] : List S40).length := ⟨_, rfl⟩; rw [← hnl] at el; have HNLL := Aside0.mk hnl; clear hnl; subst el; have HNL := Aside0.mk hN; have HB3 := Aside0.mk (below_step HB2.out hb); have HX3 := Aside0.mk (blk_below HX2.out hb); clear hb hN; clear z0 z1 z2 z3; obtain ⟨z0, z1, z2, z3⟩ := cells4_of HX3.out))
          go_ret
          exact ⟨rfl, HB3.out⟩
        · obtain ⟨r1, r2, r3⟩ := read_ok ⟨kind, v, q, ts⟩ a.length (a.length + 1) (false :: a) (false :: a) g1 g3 (by omega) (by omega) g5 (by simp) (by rw [List.length_cons]; omega) List.take_length
          have hlit := litF_lit ⟨kind, v, q, ts⟩ a.length (a.length + 1) g1 (by omega) (by omega)
          have hokc := litF_okC ⟨kind, v, q, ts⟩ a.length (a.length + 1) g1 g3 (by omega) (by omega)
          have hgr := litF_grows ⟨kind, v, q, ts⟩ (a.length + 1)
          have hnb := newsF_bound ⟨kind, v, q, ts⟩
          have hrle := r2.le
          have hrlen := r2.len
          have honly := r2.only
          have hHA : holdsF (litF ⟨kind, v, q, ts⟩ (a.length + 1)).2.1 (readF ⟨kind, v, q, ts⟩ (false :: a)).2 = true := (r2.only _ r2.pre (Nat.le_refl _)).2 List.take_length
          have hpre := r2.pre
          rw [HSZ.out] at hnb
          rw [g6] at hG
          obtain ⟨⟨x, A'⟩, hrd⟩ : ∃ z, readF ⟨kind, v, q, ts⟩ (false :: a) = z := ⟨_, rfl⟩
          rw [hrd] at r1 r3 hrle hrlen honly hHA hpre
          simp only at r1 r3 hrle hrlen honly hHA hpre
          obtain ⟨nA, hnA⟩ : ∃ z, A'.length = z := ⟨_, rfl⟩
          rw [← r1] at hlit hG
          rw [← hrlen, hnA] at hlit hokc hgr hG g4
          rw [hnA] at hrle
          generalize hcs : (litF ⟨kind, v, q, ts⟩ (a.length + 1)).2.1 = cs at hokc hgr hG honly hHA
          obtain ⟨K3, h3⟩ := holds_tells cs A' (by omega) (by omega) (fun s hs' => by
            have := hokc s hs'
            have e1 := this.1
            have e2 := this.2.1
            omega)
          rw [hHA] at h3
          have HGATES : Aside0 (∀ W, Below w.heap.size w W → Calls Try.prog 12 #[.agg #[.int .i64 kind, .int .i64 v, .int .i64 q, .slice At ts.length c], .int .i64 (a.length + 1)] W fun e w' => ∃ v1, e = .returned (.tuple #[.int .i64 x, v1, .int .i64 nA, .int .i64 0]) ∧ Kd.N k40 40 w' W.heap.size (fun k_ => W.heap.size ≤ k_) v1 cs ∧ Below W.heap.size W w') := ⟨fun W hW => gate_Gates.calls kind v q At c ts _ _ _ _ _ W (Kd.C_below HC.out hW) hc hG⟩
          rw [g2] at hK
          have HCHECK : Aside0 (∀ W, Below w.heap.size w W → Calls Try.prog 21 #[.agg #[.int .i64 kind, .int .i64 v, .int .i64 q, .slice At ts.length c], .int .i64 a.length] W fun e w' => e = .returned (.int .i64 0) ∧ Below W.heap.size W w') := ⟨fun W hW => flat_Check.calls kind v q At c ts _ _ W (Kd.C_below HC.out hW) hc hK⟩
          have HNA := Aside0.mk hnA
          have HRD := Aside0.mk hrd
          have HREAD : Aside0 (∀ (B g : Nat) (u : Value) (W : World), w.heap.size ≤ B → B ≤ g → Below w.heap.size w W → B ≤ W.heap.size → W.heap[g]? = some (.cells #[u] 49 (0, 0)) → Row Value.bool W B 4 u (false :: a) → Calls Try.prog 25 #[.pointer (some ⟨g, 0, none⟩), .agg #[.int .i64 kind, .int .i64 v, .int .i64 q, .slice At ts.length c]] W fun e w' => e = .returned (.int .i64 x) ∧ ∃ u', BPost B g u W w' u' A') := ⟨fun B g u W hB hg hW hBW hb hr => by
            have h := reader.calls a.length (by omega) w B g hB hg 1048576 (Nat.le_refl _) ⟨kind, v, q, ts⟩ At c u (false :: a) W (by rw [HSZ.out]; exact hs) g1 (by rw [HSZ.out, List.length_cons]; omega) hW hBW HC.out hc hb hr
            rw [HRD.out] at h
            exact h⟩
          have HR3 := Aside0.mk r3
          have HPRE := Aside0.mk hpre
          have HONLY := Aside0.mk honly
          have HHA := Aside0.mk hHA
          have HHOLD := Aside0.mk h3
          have HLCS : Aside0 (cs.length ≤ 1099511627776) := ⟨by omega⟩
          have HSCS : Aside0 (∀ s ∈ cs, s.f0.length ≤ 1099511627776 ∧ s.f1.length ≤ 1099511627776) := ⟨fun s hs' => by
            have := hokc s hs'
            have e1 := this.1
            have e2 := this.2.1
            omega⟩
          have hx0 : -2000 ≤ x := by omega
          have hx1 : x ≤ 2000 := by omega
          have hnA0 : a.length + 1 ≤ nA := by simpa using hrle
          have hnA1 : nA ≤ 2000 := by omega
          clear hG hK hnA hrd g1 g2 g3 g6 r1 r2 r3 g4 g5 hrlen hrle hpre honly hHA hlit hokc hgr hnb h3 hcs
          go_enter Try.func8, Try.ntmps8
          go_wp2_with (first | (go_at_call 10; with_reducible refine (HLIVE.out _).mono ?_; rintro e w1 ⟨rfl, hb⟩; have HB1 := Aside0.mk (below_step HB0.out hb); have HX1 := Aside0.mk (blk_below HX0.out hb); clear hb; obtain ⟨z0, z1, z2, z3⟩ := cells4_of HX1.out) | (go_at_call 11; with_reducible refine (HSIZE.out _ HB1.out).mono ?_; rintro e w2 ⟨rfl, hb⟩; have HB2 := Aside0.mk (below_step HB1.out hb); have HX2 := Aside0.mk (blk_below HX1.out hb); clear hb; clear z0 z1 z2 z3; obtain ⟨z0, z1, z2, z3⟩ := cells4_of HX2.out) | (go_at_call 12; with_reducible refine (HGATES.out _ HB2.out).mono ?_; rintro e w3 ⟨vl, rfl, hN, hb⟩; obtain ⟨Al, cl, el⟩ := Kd.N_slice hN; obtain ⟨nl, hnl⟩ : ∃ z, z = cs.length := ⟨_, rfl⟩; rw [← hnl] at el; have HNLL := Aside0.mk hnl; clear hnl; subst el; have HNL := Aside0.mk hN; have HB3 := Aside0.mk (below_step HB2.out hb); have HX3 := Aside0.mk (blk_below HX2.out hb); clear hb hN; clear z0 z1 z2 z3; obtain ⟨z0, z1, z2, z3⟩ := cells4_of HX3.out) | (go_at_call 21; with_reducible refine (HCHECK.out _ HB3.out).mono ?_; rintro e w4 ⟨rfl, hb⟩; have HB4 := Aside0.mk (below_step HB3.out hb); have HB34 := Aside0.mk hb; have HX4 := Aside0.mk (blk_below HX3.out hb); clear hb; clear z0 z1 z2 z3) | (at_builtin; go_loud (refine Kd.R_append_rows Kd.bool (w0 := w) w.heap.size rfl (.tmp 54) (.tmp 55) 43 4 (.bool false) 1 rfl Try.underlying43 info4_ rfl (by decide) (by omega) (.slice (some ⟨w4.heap.size, 0, none⟩) 1 1) [false] a A1 a.length c1 (fun _ => True) (fun _ => False) rfl rfl (Row.toR (Row.lit w4 w.heap.size 4 false HB4.out.size) _ (fun _ _ => trivial)) (Kd.C_below HC1.out (below_alloc HB4.out _)) (fun _ _ h => h) (fun _ h => h.elim) (fun _ _ => trivial) (below_alloc HB4.out _) (by rw [World.size_alloc]; have := HB4.out.size; omega) (by simp only [List.length_singleton]; omega) ?_; intro v5 w5 hR5 hb5 hg5 hat5; obtain ⟨A5, n5, c5, e5⟩ := (Row.ofR hR5).form; subst e5; have HR5 : Aside0 (Row Value.bool w5 w.heap.size 4 (.slice A5 n5 c5) (false :: a)) := ⟨Row.ofR hR5⟩; have HAT5 := Aside0.mk (at_ge (n := w4.heap.size) hat5 (by rw [World.size_alloc]; omega)); have HB5 := Aside0.mk hb5; have HX5 := Aside0.mk (blk_grown (blk_alloc HX4.out _) hg5 (fun e => by have h3 := blk_lt HX4.out; simp [Value.ownBlock] at e; omega)); clear hR5 hat5; have HG5 := Aside0.mk hg5; have hz5 : w.heap.size < w5.heap.size := blk_lt HX5.out; clear hb5 hg5; obtain ⟨z0, z1, z2, z3⟩ := cells4_of HX5.out)) | (go_at_call 25; go_loud (refine (HREAD.out w.heap.size w5.heap.size (.slice A5 n5 c5) _ (Nat.le_refl _) HB5.out.size (below_alloc HB5.out _) (by rw [World.size_alloc]; have := HB5.out.size; omega) (blk_new w5 _) (HR5.out.below (below_alloc (Below.refl w5.heap.size w5) _))).mono ?_; rintro e w6 ⟨rfl, u6, hp⟩; obtain ⟨A6, c6, e6, hc6, hC6⟩ := hp.row.reads (h1 := fun _ => rfl); rw [HNA.out] at e6; subst e6; have HP6 := Aside0.mk hp; have HCC6 := Aside0.mk hc6; have HB6 := Aside0.mk ((below_alloc HB5.out _).trans hp.below); have HX6 := Aside0.mk (hp.other (blk_new w5 _) (HR5.out.below (below_alloc (Below.refl w5.heap.size w5) _)) (blk_alloc HX5.out _) (by decide) (by decide)); clear hp hc6 hC6; clear z0 z1 z2 z3)))
          have HNL6 : Aside0 (Kd.N k40 40 w6 w2.heap.size (fun k => k < w3.heap.size) (.slice Al nl cl) cs) := ⟨by
            have h1 := Kd.N_mono (Kd.N_bound HNL.out) (ok' := fun k => k < w3.heap.size) (fun k hk => hk.2)
            have h2 := Kd.N_below h1 (below_step HB34.out (below_alloc (Below.refl w4.heap.size w4) (.cells #[.bool false] 4)))
            have hle := HB34.out.size
            have h3 := Kd.N_grown h2 HG5.out (fun k hk e => by simp [Value.ownBlock] at e; omega)
            have h4 := Kd.N_alloc h3 (.cells #[.slice A5 n5 c5] 49)
            refine Kd.N_kept h4 HP6.out.kept (fun k hk hs => ?_)
            have h5 := HB5.out.size
            have h6 := HG5.out.size
            rw [World.size_alloc] at h6
            rcases hs with hs | hs
            · omega
            · have := HAT5.out k hs.symm; omega⟩
          have HROW6 := Aside0.mk HP6.out.row
          have HG6 := Aside0.mk HP6.out.blk
          obtain ⟨g, hg⟩ : ∃ g, w5.heap.size = g := ⟨_, rfl⟩
          have hgw : w.heap.size ≤ g := by rw [← hg]; exact HB5.out.size
          have hge : w3.heap.size ≤ g := by have h1 := HB34.out.size; have h2 := HG5.out.size; rw [World.size_alloc] at h2; omega
          rw [hg] at HG6 ⊢
          have HK6 : Aside0 (∀ k, (Value.slice A6 nA c6).ownBlock = some k → w3.heap.size ≤ k) := ⟨fun k hk => by
            have hle := HB34.out.size
            have h2 := HG5.out.size
            rw [World.size_alloc] at h2
            rcases HP6.out.at_ with h | ⟨b, h, h1⟩
            · rw [h] at hk; have := HAT5.out k hk; omega
            · rw [h] at hk; injection hk with hk; rw [World.size_alloc] at h1; omega⟩
          have hb3 : w.heap.size ≤ w3.heap.size := HB3.out.size
          clear HP6 HG5 HAT5 HR5 HX5 HB5 hz5 hg HCHECK HREAD HGATES HLIVE HSIZE HRD HX3 HX4 HB34 HNL
          obtain ⟨tv, htv⟩ : ∃ z, valF ⟨kind, v, q, ts⟩ (false :: a) = z := ⟨_, rfl⟩
          rw [htv] at HR3
          have HTRUTH : Aside0 (∀ W, Below w6.heap.size w6 W → Calls Try.prog 24 #[.int .i64 x, .slice A6 nA c6] W fun e w' => e = .returned (.bool tv) ∧ Below W.heap.size W w') := ⟨fun W hW => by
            obtain ⟨h1, h2, h3⟩ := rowb_reads HROW6.out HNA.out.symm hW
            rw [h1]
            exact (chalklineref13_Truth.calls 2 x A6 c6 A' tv W h3 (by omega) (by rw [Truth_tells x A' (by omega) (by omega), HR3.out])).mono (fun e w' hh => ⟨hh.1, hh.2.below⟩)⟩
          have HHOLDS : Aside0 (∀ W, Below w6.heap.size w6 W → Calls Try.prog 23 #[.slice Al nl cl, .slice A6 nA c6] W fun e w' => e = .returned (.bool true) ∧ Below W.heap.size W w') := ⟨fun W hW => by
            obtain ⟨h1, h2, h3⟩ := rowb_reads HROW6.out HNA.out.symm hW
            rw [h1, HNLL.out]
            exact chalklinelaw13_holds.calls K3 Al cl cs A6 c6 A' true W (Kd.C_below (Kd.N_reads' HNL6.out).2.2 hW) (by have := (Kd.N_reads' HNL6.out).2.1; rw [HNLL.out] at this; exact this) h3 (by omega) HHOLD.out⟩
          have HVALUE : Aside0 (∀ (W : World) (A2 : Option Addr) (n2 c2 : Nat), n2 = (false :: a).length → n2 ≤ c2 → Below w.heap.size w W → Kd.C Kd.bool W A2 (false :: a).length (false :: a) → Calls Try.prog 22 #[.agg #[.int .i64 kind, .int .i64 v, .int .i64 q, .slice At ts.length c], .slice A2 n2 c2] W fun e w' => e = .returned (.bool tv) ∧ Below W.heap.size W w') := ⟨fun W A2 n2 c2 hn2 hc2 hW hC2 => by
            subst hn2
            have h := value.calls 1048576 (Nat.le_refl _) (false :: a) (by rw [List.length_cons]; omega) ⟨kind, v, q, ts⟩ At c A2 c2 W W (by rw [HSZ.out]; exact hs) (Below.refl _ _) (Kd.C_below HC.out hW) hc hC2 hc2
            rw [htv] at h
            exact h⟩
          have HTV := Aside0.mk htv
          clear htv
          refine start_ (n := 35) (S := fun V => Below w6.heap.size w6 V) (ds := []) #[false, false, false, false, false, false, false, false, false, false, false, false, false, false, false, false, false, false, false, false, false, false, false, false, false, false, false, false, false, false, false, false, false, false, false] (by kernel_rfl) rfl rfl (below_drew (Below.refl w6.heap.size w6)) (fun hHeld => ?_)
          generalize hW0 : w6.drew = W0 at hHeld ⊢
          clear hW0
          refine pure_ (i := 0) (N := some 62) (v := ?_) (a' := ?_) #[true, false, false, false, false, false, false, false, false, false, false, false, false, false, false, false, false, false, false, false, false, false, false, false, false, false, false, false, false, false, false, false, false, false, false] rfl rfl (by kernel_rfl) (fun _ _ _ h => h) (Or.inl ⟨by rfl, ?_⟩) ?_ ?_
          rotate_left
          · intro w'
            go_simp
            with_reducible rfl
          rotate_left
          · simp only [Act.put, List.setIfInBounds_toArray, List.set_cons_zero, List.set_cons_succ, i64_w, i32_w]
            rfl
          refine pure_ (i := 1) (N := some 63) (v := ?_) (a' := ?_) #[true, true, false, false, false, false, false, false, false, false, false, false, false, false, false, false, false, false, false, false, false, false, false, false, false, false, false, false, false, false, false, false, false, false, false] rfl rfl (by kernel_rfl) (fun _ _ _ h => h) (Or.inl ⟨by rfl, ?_⟩) ?_ ?_
          rotate_left
          · intro w'
            go_simp
            with_reducible rfl
          rotate_left
          · simp only [Act.put, List.setIfInBounds_toArray, List.set_cons_zero, List.set_cons_succ, i64_w, i32_w]
            rfl
          refine pure_ (i := 2) (N := some 64) (v := ?_) (a' := ?_) #[true, true, true, false, false, false, false, false, false, false, false, false, false, false, false, false, false, false, false, false, false, false, false, false, false, false, false, false, false, false, false, false, false, false, false] rfl rfl (by kernel_rfl) (fun _ _ _ h => h) (Or.inl ⟨by rfl, ?_⟩) ?_ ?_
          rotate_left
          · intro w'
            go_simp
            rfl
          rotate_left
          · simp only [Act.put, List.setIfInBounds_toArray, List.set_cons_zero, List.set_cons_succ, i64_w, i32_w]
            rfl
          refine pure_ (i := 3) (N := some 65) (v := ?_) (a' := ?_) #[true, true, true, true, false, false, false, false, false, false, false, false, false, false, false, false, false, false, false, false, false, false, false, false, false, false, false, false, false, false, false, false, false, false, false] rfl rfl (by kernel_rfl) (fun _ _ _ h => h) (Or.inl ⟨by rfl, ?_⟩) ?_ ?_
          rotate_left
          · intro w'
            go_simp
            with_reducible rfl
          rotate_left
          · simp only [Act.put, List.setIfInBounds_toArray, List.set_cons_zero, List.set_cons_succ, i64_w, i32_w]
            rfl
          refine pure_ (i := 4) (N := some 66) (v := ?_) (a' := ?_) #[true, true, true, true, true, false, false, false, false, false, false, false, false, false, false, false, false, false, false, false, false, false, false, false, false, false, false, false, false, false, false, false, false, false, false] rfl rfl (by kernel_rfl) (fun _ _ _ h => h) (Or.inl ⟨by rfl, ?_⟩) ?_ ?_
          rotate_left
          · intro w'
            go_simp
            with_reducible rfl
          rotate_left
          · simp only [Act.put, List.setIfInBounds_toArray, List.set_cons_zero, List.set_cons_succ, i64_w, i32_w]
            rfl
          refine pure_ (i := 5) (N := some 67) (v := ?_) (a' := ?_) #[true, true, true, true, true, true, false, false, false, false, false, false, false, false, false, false, false, false, false, false, false, false, false, false, false, false, false, false, false, false, false, false, false, false, false] rfl rfl (by kernel_rfl) (fun _ _ _ h => h) (Or.inl ⟨by rfl, ?_⟩) ?_ ?_
          rotate_left
          · intro w'
            go_simp
            with_reducible rfl
          rotate_left
          · simp only [Act.put, List.setIfInBounds_toArray, List.set_cons_zero, List.set_cons_succ, i64_w, i32_w]
            rfl
          refine pure_ (i := 6) (N := some 68) (v := ?_) (a' := ?_) #[true, true, true, true, true, true, true, false, false, false, false, false, false, false, false, false, false, false, false, false, false, false, false, false, false, false, false, false, false, false, false, false, false, false, false] rfl rfl (by kernel_rfl) (fun _ _ _ h => h) (Or.inl ⟨by rfl, ?_⟩) ?_ ?_
          rotate_left
          · intro w'
            go_simp
            with_reducible rfl
          rotate_left
          · simp only [Act.put, List.setIfInBounds_toArray, List.set_cons_zero, List.set_cons_succ, i64_w, i32_w]
            rfl
          refine pure_ (i := 7) (N := some 69) (v := ?_) (a' := ?_) #[true, true, true, true, true, true, true, true, false, false, false, false, false, false, false, false, false, false, false, false, false, false, false, false, false, false, false, false, false, false, false, false, false, false, false] rfl rfl (by kernel_rfl) (fun _ _ _ h => h) (Or.inl ⟨by rfl, ?_⟩) ?_ ?_
          rotate_left
          · intro w'
            go_simp
            with_reducible rfl
          rotate_left
          · simp only [Act.put, List.setIfInBounds_toArray, List.set_cons_zero, List.set_cons_succ, i64_w, i32_w]
            rfl
          refine take_ (i := 8) (N := some 70) (v := ?_) (a' := ?_) #[true, true, true, true, true, true, true, true, true, false, false, false, false, false, false, false, false, false, false, false, false, false, false, false, false, false, false, false, false, false, false, false, false, false, false] rfl rfl (by kernel_rfl) (fun _ _ _ h => h) (Or.inl ⟨by rfl, ?_⟩) hHeld ?_ ?_
          rotate_left
          · rintro w' hw
            have hc0 := blk_cell (blk_below HG6.out hw) 0
            go_simp
            with_reducible rfl
          rotate_left
          · simp only [Act.put, List.setIfInBounds_toArray, List.set_cons_zero, List.set_cons_succ, i64_w, i32_w]
            rfl
          refine pure_ (i := 9) (N := some 71) (v := ?_) (a' := ?_) #[true, true, true, true, true, true, true, true, true, true, false, false, false, false, false, false, false, false, false, false, false, false, false, false, false, false, false, false, false, false, false, false, false, false, false] rfl rfl (by kernel_rfl) (fun _ _ _ h => h) (Or.inl ⟨by rfl, ?_⟩) ?_ ?_
          rotate_left
          · intro w'
            go_simp
            with_reducible rfl
          rotate_left
          · simp only [Act.put, List.setIfInBounds_toArray, List.set_cons_zero, List.set_cons_succ, i64_w, i32_w]
            rfl
          refine pure_ (i := 10) (N := some 72) (v := ?_) (a' := ?_) #[true, true, true, true, true, true, true, true, true, true, true, false, false, false, false, false, false, false, false, false, false, false, false, false, false, false, false, false, false, false, false, false, false, false, false] rfl rfl (by kernel_rfl) (fun _ _ _ h => h) (Or.inl ⟨by rfl, ?_⟩) ?_ ?_
          rotate_left
          · intro w'
            go_simp
            rfl
          rotate_left
          · simp only [Act.put, List.setIfInBounds_toArray, List.set_cons_zero, List.set_cons_succ, i64_w, i32_w]
            rfl
          refine pure_ (i := 11) (N := some 73) (v := ?_) (a' := ?_) #[true, true, true, true, true, true, true, true, true, true, true, true, false, false, false, false, false, false, false, false, false, false, false, false, false, false, false, false, false, false, false, false, false, false, false] rfl rfl (by kernel_rfl) (fun _ _ _ h => h) (Or.inl ⟨by rfl, ?_⟩) ?_ ?_
          rotate_left
          · intro w'
            go_simp
            with_reducible rfl
          rotate_left
          · simp only [Act.put, List.setIfInBounds_toArray, List.set_cons_zero, List.set_cons_succ, i64_w, i32_w]
            rfl
          refine pure_ (i := 12) (N := some 74) (v := ?_) (a' := ?_) #[true, true, true, true, true, true, true, true, true, true, true, true, true, false, false, false, false, false, false, false, false, false, false, false, false, false, false, false, false, false, false, false, false, false, false] rfl rfl (by kernel_rfl) (fun _ _ _ h => h) (Or.inl ⟨by rfl, ?_⟩) ?_ ?_
          rotate_left
          · intro w'
            go_simp
            with_reducible rfl
          rotate_left
          · simp only [Act.put, List.setIfInBounds_toArray, List.set_cons_zero, List.set_cons_succ, i64_w, i32_w]
            rfl
          refine pure_ (i := 13) (N := some 75) (v := ?_) (a' := ?_) #[true, true, true, true, true, true, true, true, true, true, true, true, true, true, false, false, false, false, false, false, false, false, false, false, false, false, false, false, false, false, false, false, false, false, false] rfl rfl (by kernel_rfl) (fun _ _ _ h => h) (Or.inl ⟨by rfl, ?_⟩) ?_ ?_
          rotate_left
          · intro w'
            go_simp
            with_reducible rfl
          rotate_left
          · simp only [Act.put, List.setIfInBounds_toArray, List.set_cons_zero, List.set_cons_succ, i64_w, i32_w]
            rfl
          refine pure_ (i := 14) (N := some 76) (v := ?_) (a' := ?_) #[true, true, true, true, true, true, true, true, true, true, true, true, true, true, true, false, false, false, false, false, false, false, false, false, false, false, false, false, false, false, false, false, false, false, false] rfl rfl (by kernel_rfl) (fun _ _ _ h => h) (Or.inl ⟨by rfl, ?_⟩) ?_ ?_
          rotate_left
          · intro w'
            go_simp
            with_reducible rfl
          rotate_left
          · simp only [Act.put, List.setIfInBounds_toArray, List.set_cons_zero, List.set_cons_succ, i64_w, i32_w]
            rfl
          refine pure_ (i := 15) (N := some 77) (v := ?_) (a' := ?_) #[true, true, true, true, true, true, true, true, true, true, true, true, true, true, true, true, false, false, false, false, false, false, false, false, false, false, false, false, false, false, false, false, false, false, false] rfl rfl (by kernel_rfl) (fun _ _ _ h => h) (Or.inl ⟨by rfl, ?_⟩) ?_ ?_
          rotate_left
          · intro w'
            go_simp
            with_reducible rfl
          rotate_left
          · simp only [Act.put, List.setIfInBounds_toArray, List.set_cons_zero, List.set_cons_succ, i64_w, i32_w]
            rfl
          refine pure_ (i := 16) (N := some 78) (v := ?_) (a' := ?_) #[true, true, true, true, true, true, true, true, true, true, true, true, true, true, true, true, true, false, false, false, false, false, false, false, false, false, false, false, false, false, false, false, false, false, false] rfl rfl (by kernel_rfl) (fun _ _ _ h => h) (Or.inl ⟨by rfl, ?_⟩) ?_ ?_
          rotate_left
          · intro w'
            go_simp
            with_reducible rfl
          rotate_left
          · simp only [Act.put, List.setIfInBounds_toArray, List.set_cons_zero, List.set_cons_succ, i64_w, i32_w]
            rfl
          refine take_ (i := 17) (N := some 79) (v := ?_) (a' := ?_) #[true, true, true, true, true, true, true, true, true, true, true, true, true, true, true, true, true, true, false, false, false, false, false, false, false, false, false, false, false, false, false, false, false, false, false] rfl rfl (by kernel_rfl) (fun _ _ _ h => h) (Or.inl ⟨by rfl, ?_⟩) hHeld ?_ ?_
          rotate_left
          · rintro w' hw
            have hc0 := blk_cell (blk_below HG6.out hw) 0
            go_simp
            with_reducible rfl
          rotate_left
          · simp only [Act.put, List.setIfInBounds_toArray, List.set_cons_zero, List.set_cons_succ, i64_w, i32_w]
            rfl
          refine one_ (i := 18) (N := some 80) #[true, true, true, true, true, true, true, true, true, true, true, true, true, true, true, true, true, true, true, false, false, false, false, false, false, false, false, false, false, false, false, false, false, false, false] rfl rfl (by kernel_rfl) (by decide) (fun K hK => ?_)
          refine goes_ Try.func23 (by kernel_rfl) rfl #[.slice Al nl cl, .slice A6 nA c6] (by rfl) rfl rfl (by simp only [List.map_toArray, List.map_cons, List.map_nil]; rfl) ?_
          refine (HHOLDS.out _ hHeld).mono ?_
          rintro e W1 ⟨rfl, hb⟩
          refine ⟨_, rfl, ?_⟩
          refine hK.out _ _ (below_step hHeld hb) (fun hHeld => ?_)
          clear hK K hb
          refine norm_ (a' := ?_) ?_ ?_
          rotate_left
          · show Act.put _ (some 80) _ = _
            simp only [Act.put, List.setIfInBounds_toArray, List.set_cons_zero, List.set_cons_succ, i64_w, i32_w]
            rfl
          refine pure_ (i := 19) (N := some 81) (v := ?_) (a' := ?_) #[true, true, true, true, true, true, true, true, true, true, true, true, true, true, true, true, true, true, true, true, false, false, false, false, false, false, false, false, false, false, false, false, false, false, false] rfl rfl (by kernel_rfl) (fun _ _ _ h => h) (Or.inl ⟨by rfl, ?_⟩) ?_ ?_
          rotate_left
          · intro w'
            go_simp
            with_reducible rfl
          rotate_left
          · simp only [Act.put, List.setIfInBounds_toArray, List.set_cons_zero, List.set_cons_succ, i64_w, i32_w]
            rfl
          refine pure_ (i := 20) (N := some 82) (v := ?_) (a' := ?_) #[true, true, true, true, true, true, true, true, true, true, true, true, true, true, true, true, true, true, true, true, true, false, false, false, false, false, false, false, false, false, false, false, false, false, false] rfl rfl (by kernel_rfl) (fun _ _ _ h => h) (Or.inl ⟨by rfl, ?_⟩) ?_ ?_
          rotate_left
          · intro w'
            go_simp
            with_reducible rfl
          rotate_left
          · simp only [Act.put, List.setIfInBounds_toArray, List.set_cons_zero, List.set_cons_succ, i64_w, i32_w]
            rfl
          refine pure_ (i := 21) (N := some 83) (v := ?_) (a' := ?_) #[true, true, true, true, true, true, true, true, true, true, true, true, true, true, true, true, true, true, true, true, true, true, false, false, false, false, false, false, false, false, false, false, false, false, false] rfl rfl (by kernel_rfl) (fun _ _ _ h => h) (Or.inl ⟨by rfl, ?_⟩) ?_ ?_
          rotate_left
          · intro w'
            go_simp
            with_reducible rfl
          rotate_left
          · simp only [Act.put, List.setIfInBounds_toArray, List.set_cons_zero, List.set_cons_succ, i64_w, i32_w]
            rfl
          refine pure_ (i := 22) (N := some 84) (v := ?_) (a' := ?_) #[true, true, true, true, true, true, true, true, true, true, true, true, true, true, true, true, true, true, true, true, true, true, true, false, false, false, false, false, false, false, false, false, false, false, false] rfl rfl (by kernel_rfl) (fun _ _ _ h => h) (Or.inl ⟨by rfl, ?_⟩) ?_ ?_
          rotate_left
          · intro w'
            go_simp
            with_reducible rfl
          rotate_left
          · simp only [Act.put, List.setIfInBounds_toArray, List.set_cons_zero, List.set_cons_succ, i64_w, i32_w]
            rfl
          refine pure_ (i := 23) (N := some 85) (v := ?_) (a' := ?_) #[true, true, true, true, true, true, true, true, true, true, true, true, true, true, true, true, true, true, true, true, true, true, true, true, false, false, false, false, false, false, false, false, false, false, false] rfl rfl (by kernel_rfl) (fun _ _ _ h => h) (Or.inl ⟨by rfl, ?_⟩) ?_ ?_
          rotate_left
          · intro w'
            go_simp
            with_reducible rfl
          rotate_left
          · simp only [Act.put, List.setIfInBounds_toArray, List.set_cons_zero, List.set_cons_succ, i64_w, i32_w]
            rfl
          refine pure_ (i := 24) (N := some 86) (v := ?_) (a' := ?_) #[true, true, true, true, true, true, true, true, true, true, true, true, true, true, true, true, true, true, true, true, true, true, true, true, true, false, false, false, false, false, false, false, false, false, false] rfl rfl (by kernel_rfl) (fun _ _ _ h => h) (Or.inl ⟨by rfl, ?_⟩) ?_ ?_
          rotate_left
          · intro w'
            go_simp
            with_reducible rfl
          rotate_left
          · simp only [Act.put, List.setIfInBounds_toArray, List.set_cons_zero, List.set_cons_succ, i64_w, i32_w]
            rfl
          refine pure_ (i := 25) (N := some 87) (v := ?_) (a' := ?_) #[true, true, true, true, true, true, true, true, true, true, true, true, true, true, true, true, true, true, true, true, true, true, true, true, true, true, false, false, false, false, false, false, false, false, false] rfl rfl (by kernel_rfl) (fun _ _ _ h => h) (Or.inl ⟨by rfl, ?_⟩) ?_ ?_
          rotate_left
          · intro w'
            go_simp
            with_reducible rfl
          rotate_left
          · simp only [Act.put, List.setIfInBounds_toArray, List.set_cons_zero, List.set_cons_succ, i64_w, i32_w]
            rfl
          refine take_ (i := 26) (N := some 88) (v := ?_) (a' := ?_) #[true, true, true, true, true, true, true, true, true, true, true, true, true, true, true, true, true, true, true, true, true, true, true, true, true, true, true, false, false, false, false, false, false, false, false] rfl rfl (by kernel_rfl) (fun _ _ _ h => h) (Or.inl ⟨by rfl, ?_⟩) hHeld ?_ ?_
          rotate_left
          · rintro w' hw
            have hc0 := blk_cell (blk_below HG6.out hw) 0
            go_simp
            with_reducible rfl
          rotate_left
          · simp only [Act.put, List.setIfInBounds_toArray, List.set_cons_zero, List.set_cons_succ, i64_w, i32_w]
            rfl
          refine take_ (i := 28) (N := some 90) (v := ?_) (a' := ?_) #[true, true, true, true, true, true, true, true, true, true, true, true, true, true, true, true, true, true, true, true, true, true, true, true, true, true, true, false, true, false, false, false, false, false, false] rfl rfl (by kernel_rfl) (fun _ _ _ h => h) (Or.inl ⟨by rfl, ?_⟩) hHeld ?_ ?_
          rotate_left
          · rintro w' hw
            have hx6 := blk_below HX6.out hw; have hc0 := blk_cell hx6 0; have hc1 := blk_cell hx6 1; have hc2 := blk_cell hx6 2; have hc3 := blk_cell hx6 3
            go_simp
            with_reducible rfl
          rotate_left
          · simp only [Act.put, List.setIfInBounds_toArray, List.set_cons_zero, List.set_cons_succ, i64_w, i32_w]
            rfl
          refine pure_ (i := 30) (N := some 92) (v := ?_) (a' := ?_) #[true, true, true, true, true, true, true, true, true, true, true, true, true, true, true, true, true, true, true, true, true, true, true, true, true, true, true, false, true, false, true, false, false, false, false] rfl rfl (by kernel_rfl) (fun _ _ _ h => h) (Or.inl ⟨by rfl, ?_⟩) ?_ ?_
          rotate_left
          · intro w'
            go_simp
            with_reducible rfl
          rotate_left
          · simp only [Act.put, List.setIfInBounds_toArray, List.set_cons_zero, List.set_cons_succ, i64_w, i32_w]
            rfl
          refine join_ (σ := Nat) 4 #[true, true, true, true, true, true, true, true, true, true, true, true, true, true, true, true, true, true, true, true, true, true, true, true, true, true, true, true, true, true, true, false, false, false, false] (fun b => [(89, .bool tv), (91, .slice (some ⟨b, 0, none⟩) 1 1)]) (fun b W => Below w6.heap.size w6 W ∧ W.heap[b]? = some (.cells #[.bool false] 4 (0, 0)) ∧ w6.heap.size ≤ b) ?_ ?_
          · rintro b W2 ⟨hHeld, hbb, hbl⟩
            refine norm_ (a' := ?_) ?_ ?_
            rotate_left
            · simp only [putAll]
              simp only [Act.put, List.setIfInBounds_toArray, List.set_cons_zero, List.set_cons_succ, i64_w, i32_w]
              rfl
            refine one_ (i := 31) (N := some 93) #[true, true, true, true, true, true, true, true, true, true, true, true, true, true, true, true, true, true, true, true, true, true, true, true, true, true, true, true, true, true, true, true, false, false, false] rfl rfl (by kernel_rfl) (by decide) (fun K hK => ?_)
            refine Kd.R_append_rows_step Kd.bool (w0 := w6) w6.heap.size (by rfl) (.tmp 91) (.tmp 92) 43 4 (.bool false) 1 rfl Try.underlying43 info4_ rfl (by decide) (by omega) (.slice (some ⟨b, 0, none⟩) 1 1) [false] a A1 a.length c1 (fun _ => True) (fun _ => False) rfl rfl (Row.toR (Row.of_block hbl hbb) _ (fun _ _ => trivial)) (Kd.C_below HC1.out (HB6.out.trans (hHeld.mono HB6.out.size))) (fun _ _ h => h) (fun _ h => h.elim) (fun _ _ => trivial) hHeld hHeld.size (by simp only [List.length_singleton]; omega) ?_
            intro v7 W3 hR7 hb7 _ _
            obtain ⟨A7, c7, e7, hc7, hC7⟩ := (Row.ofR hR7).reads (h1 := fun _ => rfl)
            obtain ⟨n7, hn7⟩ : ∃ z, z = ([false] ++ a).length := ⟨_, rfl⟩
            rw [← hn7] at e7
            have HC7 := Aside0.mk hC7
            have HN7 := Aside0.mk hn7
            have HCC7 := Aside0.mk hc7
            clear hC7 hn7 hR7 hc7
            subst e7
            refine hK.out _ _ hb7 (fun hHeld => ?_)
            clear hK K hb7
            refine norm_ (a' := ?_) ?_ ?_
            rotate_left
            · show Act.put _ (some 93) _ = _
              simp only [Act.put, List.setIfInBounds_toArray, List.set_cons_zero, List.set_cons_succ, i64_w, i32_w]
              rfl
            refine one_ (i := 32) (N := some 94) #[true, true, true, true, true, true, true, true, true, true, true, true, true, true, true, true, true, true, true, true, true, true, true, true, true, true, true, true, true, true, true, true, true, false, false] rfl rfl (by kernel_rfl) (by decide) (fun K hK => ?_)
            refine goes_ Try.func22 (by kernel_rfl) rfl #[.agg #[.int .i64 kind, .int .i64 v, .int .i64 q, .slice At ts.length c], .slice A7 n7 c7] (by rfl) rfl rfl (by simp only [List.map_toArray, List.map_cons, List.map_nil]; rfl) ?_
            refine (HVALUE.out W3 A7 n7 c7 HN7.out (by have := HCC7.out; have := HN7.out; omega) (HB6.out.trans (hHeld.mono HB6.out.size)) HC7.out).mono ?_
            rintro e W4 ⟨rfl, hb⟩
            refine ⟨_, rfl, ?_⟩
            refine hK.out _ _ (below_step hHeld hb) (fun hHeld => ?_)
            clear hK K hb HC7 HN7 HCC7
            refine norm_ (a' := ?_) ?_ ?_
            rotate_left
            · show Act.put _ (some 94) _ = _
              simp only [Act.put, List.setIfInBounds_toArray, List.set_cons_zero, List.set_cons_succ, i64_w, i32_w]
              rfl
            refine pure_ (i := 33) (N := some 95) (v := ?_) (a' := ?_) #[true, true, true, true, true, true, true, true, true, true, true, true, true, true, true, true, true, true, true, true, true, true, true, true, true, true, true, true, true, true, true, true, true, true, false] rfl rfl (by kernel_rfl) (fun _ _ _ h => h) (Or.inl ⟨by rfl, ?_⟩) ?_ ?_
            rotate_left
            · intro w'
              go_simp
              rfl
            rotate_left
            · simp only [Act.put, List.setIfInBounds_toArray, List.set_cons_zero, List.set_cons_succ, i64_w, i32_w]
              rfl
            refine pure_ (i := 34) (N := some 96) (v := ?_) (a' := ?_) #[true, true, true, true, true, true, true, true, true, true, true, true, true, true, true, true, true, true, true, true, true, true, true, true, true, true, true, true, true, true, true, true, true, true, true] rfl rfl (by kernel_rfl) (fun _ _ _ h => h) (Or.inl ⟨by rfl, ?_⟩) ?_ ?_
            rotate_left
            · intro w'
              go_simp
              with_reducible rfl
            rotate_left
            · simp only [Act.put, List.setIfInBounds_toArray, List.set_cons_zero, List.set_cons_succ, i64_w, i32_w]
              rfl
            refine done_ (by kernel_rfl) ?_
            have HB4 := Aside0.mk (HB6.out.trans (hHeld.mono HB6.out.size))
            have HROW4 := Aside0.mk (HROW6.out.below hHeld)
            have HG4 := Aside0.mk (blk_below HG6.out hHeld)
            have HH := Aside0.mk hHeld
            clear hHeld
            by_cases hm : a.length + 1 < nA
            · have hmi : 0 < (nA : Int) - a.length - 1 := by omega
              have hm1 := Int.emod_nonneg t (b := (nA : Int) - a.length - 1) (by omega)
              have hm2 := Int.emod_lt_of_pos t hmi
              obtain ⟨m, hmm⟩ : ∃ m : Int, t % ((nA : Int) - a.length - 1) = m := ⟨_, rfl⟩
              rw [hmm] at hm1 hm2
              go_wp2_with fail
              obtain ⟨j, hj⟩ : ∃ j : Nat, (a.length : Int) + 1 + m = j := ⟨((a.length : Int) + 1 + m).toNat, by omega⟩
              rw [hj]
              have hj0 : a.length + 1 ≤ j := by omega
              have hj1 : j < nA := by omega
              clear hmm hm1 hm2 hj hm hmi
              have hne : A' ≠ [] := by intro e; have h := HNA.out; rw [e] at h; simp at h; omega
              obtain ⟨gA, capA, heA, _⟩ := World.ownsRow.form HROW4.out (by have h := HNA.out; omega)
              injection heA with heA hx1 hx2
              clear hx1 hx2
              subst heA
              clear hne
              have HKG := Aside0.mk (HK6.out gA rfl)
              have HOWN : Aside0 (∀ W, Below W4.heap.size W4 W → W.ownsRow w.heap.size 4 1 (.slice (some ⟨gA, 0, none⟩) nA c6) nA (encs Value.bool A')) := ⟨fun W hW => by
                have h := HROW4.out.below hW
                unfold Row at h
                rw [HNA.out] at h
                exact h⟩
              refine start_ (n := 15) (S := fun V => Below W4.heap.size W4 V) (ds := [14]) #[false, false, false, false, false, false, false, false, false, false, false, false, false, false, false] (by kernel_rfl) rfl rfl (below_drew (Below.refl W4.heap.size W4)) (fun hHeld => ?_)
              generalize hW0 : W4.drew = W0 at hHeld ⊢
              clear hW0
              refine pure_ (i := 0) (N := some 111) (v := ?_) (a' := ?_) #[true, false, false, false, false, false, false, false, false, false, false, false, false, false, false] rfl rfl (by kernel_rfl) (fun _ _ _ h => h) (Or.inl ⟨by rfl, ?_⟩) ?_ ?_
              rotate_left
              · intro w'
                go_simp
                with_reducible rfl
              rotate_left
              · simp only [Act.put, List.setIfInBounds_toArray, List.set_cons_zero, List.set_cons_succ, i64_w, i32_w]
                rfl
              refine pure_ (i := 1) (N := some 112) (v := ?_) (a' := ?_) #[true, true, false, false, false, false, false, false, false, false, false, false, false, false, false] rfl rfl (by kernel_rfl) (fun _ _ _ h => h) (Or.inl ⟨by rfl, ?_⟩) ?_ ?_
              rotate_left
              · intro w'
                go_simp
                with_reducible rfl
              rotate_left
              · simp only [Act.put, List.setIfInBounds_toArray, List.set_cons_zero, List.set_cons_succ, i64_w, i32_w]
                rfl
              refine pure_ (i := 2) (N := some 113) (v := ?_) (a' := ?_) #[true, true, true, false, false, false, false, false, false, false, false, false, false, false, false] rfl rfl (by kernel_rfl) (fun _ _ _ h => h) (Or.inl ⟨by rfl, ?_⟩) ?_ ?_
              rotate_left
              · intro w'
                go_simp
                with_reducible rfl
              rotate_left
              · simp only [Act.put, List.setIfInBounds_toArray, List.set_cons_zero, List.set_cons_succ, i64_w, i32_w]
                rfl
              refine take_ (i := 3) (N := some 114) (v := ?_) (a' := ?_) #[true, true, true, true, false, false, false, false, false, false, false, false, false, false, false] rfl rfl (by kernel_rfl) (fun _ _ _ h => h) (Or.inl ⟨by rfl, ?_⟩) hHeld ?_ ?_
              rotate_left
              · rintro w' hw
                have hc0 := blk_cell (blk_below HG4.out hw) 0
                go_simp
                with_reducible rfl
              rotate_left
              · simp only [Act.put, List.setIfInBounds_toArray, List.set_cons_zero, List.set_cons_succ, i64_w, i32_w]
                rfl
              refine pure_ (i := 4) (N := some 115) (v := ?_) (a' := ?_) #[true, true, true, true, true, false, false, false, false, false, false, false, false, false, false] rfl rfl (by kernel_rfl) (fun _ _ _ h => h) (Or.inl ⟨by rfl, ?_⟩) ?_ ?_
              rotate_left
              · intro w'
                go_simp
                with_reducible rfl
              rotate_left
              · simp only [Act.put, List.setIfInBounds_toArray, List.set_cons_zero, List.set_cons_succ, i64_w, i32_w]
                rfl
              refine pure_ (i := 5) (N := some 116) (v := ?_) (a' := ?_) #[true, true, true, true, true, true, false, false, false, false, false, false, false, false, false] rfl rfl (by kernel_rfl) (fun _ _ _ h => h) (Or.inl ⟨by rfl, ?_⟩) ?_ ?_
              rotate_left
              · intro w'
                go_simp
                with_reducible rfl
              rotate_left
              · simp only [Act.put, List.setIfInBounds_toArray, List.set_cons_zero, List.set_cons_succ, i64_w, i32_w]
                rfl
              refine pure_ (i := 6) (N := some 117) (v := ?_) (a' := ?_) #[true, true, true, true, true, true, true, false, false, false, false, false, false, false, false] rfl rfl (by kernel_rfl) (fun _ _ _ h => h) (Or.inl ⟨by rfl, ?_⟩) ?_ ?_
              rotate_left
              · intro w'
                go_simp
                with_reducible rfl
              rotate_left
              · simp only [Act.put, List.setIfInBounds_toArray, List.set_cons_zero, List.set_cons_succ, i64_w, i32_w]
                rfl
              refine pure_ (i := 7) (N := some 118) (v := ?_) (a' := ?_) #[true, true, true, true, true, true, true, true, false, false, false, false, false, false, false] rfl rfl (by kernel_rfl) (fun _ _ _ h => h) (Or.inl ⟨by rfl, ?_⟩) ?_ ?_
              rotate_left
              · intro w'
                go_simp
                with_reducible rfl
              rotate_left
              · simp only [Act.put, List.setIfInBounds_toArray, List.set_cons_zero, List.set_cons_succ, i64_w, i32_w]
                rfl
              refine take_ (i := 8) (N := some 119) (v := ?_) (a' := ?_) #[true, true, true, true, true, true, true, true, true, false, false, false, false, false, false] rfl rfl (by kernel_rfl) (fun _ _ _ h => h) (Or.inl ⟨by rfl, ?_⟩) hHeld ?_ ?_
              rotate_left
              · rintro w' hw
                have hc0 := blk_cell (blk_below HG4.out hw) 0
                go_simp
                with_reducible rfl
              rotate_left
              · simp only [Act.put, List.setIfInBounds_toArray, List.set_cons_zero, List.set_cons_succ, i64_w, i32_w]
                rfl
              refine pure_ (i := 9) (N := some 120) (v := ?_) (a' := ?_) #[true, true, true, true, true, true, true, true, true, true, false, false, false, false, false] rfl rfl (by kernel_rfl) (fun _ _ _ h => h) (Or.inl ⟨by rfl, ?_⟩) ?_ ?_
              rotate_left
              · intro w'
                go_simp
                with_reducible rfl
              rotate_left
              · simp only [Act.put, List.setIfInBounds_toArray, List.set_cons_zero, List.set_cons_succ, i64_w, i32_w]
                rfl
              refine pure_ (i := 10) (N := some 121) (v := ?_) (a' := ?_) #[true, true, true, true, true, true, true, true, true, true, true, false, false, false, false] rfl rfl (by kernel_rfl) (fun _ _ _ h => h) (Or.inl ⟨by rfl, ?_⟩) ?_ ?_
              rotate_left
              · intro w'
                go_simp
                with_reducible rfl
              rotate_left
              · simp only [Act.put, List.setIfInBounds_toArray, List.set_cons_zero, List.set_cons_succ, i64_w, i32_w]
                rfl
              refine take_ (i := 11) (N := some 122) (v := ?_) (a' := ?_) #[true, true, true, true, true, true, true, true, true, true, true, true, false, false, false] rfl rfl (by kernel_rfl) (fun _ _ _ h => h) (Or.inl ⟨by rfl, ?_⟩) hHeld ?_ ?_
              rotate_left
              · rintro w' hw
                have hc0 := (own_at_of (d := false) (HOWN.out _ hw) j (by omega) (by omega)).1; rw [Int.toNat_natCast] at hc0
                go_simp
                with_reducible rfl
              rotate_left
              · simp only [Act.put, List.setIfInBounds_toArray, List.set_cons_zero, List.set_cons_succ, i64_w, i32_w]
                rfl
              refine pure_ (i := 12) (N := some 123) (v := ?_) (a' := ?_) #[true, true, true, true, true, true, true, true, true, true, true, true, true, false, false] rfl rfl (by kernel_rfl) (fun _ _ _ h => h) (Or.inl ⟨by rfl, ?_⟩) ?_ ?_
              rotate_left
              · intro w'
                go_simp
                with_reducible rfl
              rotate_left
              · simp only [Act.put, List.setIfInBounds_toArray, List.set_cons_zero, List.set_cons_succ, i64_w, i32_w]
                rfl
              refine pure_ (i := 13) (N := some 124) (v := ?_) (a' := ?_) #[true, true, true, true, true, true, true, true, true, true, true, true, true, true, false] rfl rfl (by kernel_rfl) (fun _ _ _ h => h) (Or.inl ⟨by rfl, ?_⟩) ?_ ?_
              rotate_left
              · intro w'
                go_simp
                with_reducible rfl
              rotate_left
              · simp only [Act.put, List.setIfInBounds_toArray, List.set_cons_zero, List.set_cons_succ, i64_w, i32_w]
                rfl
              refine last_ (i := 14) (N := none) #[true, true, true, true, true, true, true, true, true, true, true, true, true, true, true] rfl rfl (by kernel_rfl) (by decide) (fun K hK => ?_)
              have hoj := own_at_of (d := false) (HOWN.out _ hHeld) j (by omega) (by omega)
              rw [Int.toNat_natCast] at hoj
              obtain ⟨hcx, hfx⟩ := hoj
              refine skip_ (w1 := ?_) (by rfl) rfl ?_ ?_
              rotate_left
              · go_simp
                rfl
              refine hK.out _ _ ?_
              clear hK K hcx hfx
              refine done_ (by kernel_rfl) ?_
              obtain ⟨y, hy⟩ : ∃ y, (!rdOf false A' (j : Int)) = y := ⟨_, rfl⟩
              have HY := Aside0.mk hy
              rw [hy]
              have hfl := (own_store_of (HOWN.out _ hHeld) (j : Int) y).1
              rw [Int.toNat_natCast] at hfl
              have HFL : Aside0 (Row Value.bool (W0.setCell ⟨gA, j, none⟩ (.bool y)) w.heap.size 4 (.slice (some ⟨gA, 0, none⟩) nA c6) (A'.set j y)) := ⟨by unfold Row; rw [List.length_set, HNA.out]; exact hfl⟩
              have hgne : gA ≠ g := (HROW4.out.ne_block HG4.out (by decide)) gA rfl
              have HGS := Aside0.mk (Go.Proofs.YtkcmkoolcakfjaaW.PrintWords.blk_far (blk_below HG4.out hHeld) (p := ⟨gA, j, none⟩) (fun e => hgne e.symm) (.bool y))
              have z0 : (W0.setCell ⟨gA, j, none⟩ (.bool y)).cell? ⟨g, 0, none⟩ = some (.slice (some ⟨gA, 0, none⟩) nA c6) := (blk_cell HGS.out 0).trans rfl
              have HNS := Aside0.mk (Kd.N_far (p := ⟨gA, j, none⟩) (Kd.N_below HNL6.out (below_step HH.out hHeld)) (fun k hk e => by have h1 := HKG.out; simp only at e; omega) (.bool y))
              have HBS := Aside0.mk ((HB4.out.trans (hHeld.mono HB4.out.size)).setCell (p := ⟨gA, j, none⟩) (by have h1 := HKG.out; simp only; omega) (.bool y))
              have hfalse : holdsF cs (A'.set j y) = false := by
                have h := HONLY.out (A'.set j y) (by rw [List.take_set, List.set_eq_of_length_le (by rw [List.length_take, List.length_cons]; omega)]; exact HPRE.out) (by rw [List.length_set]; exact Nat.le_refl _)
                rw [List.take_of_length_le (by rw [List.length_set]; exact Nat.le_refl _)] at h
                cases hh : holdsF cs (A'.set j y) with
                | false => rfl
                | true => exact absurd (h.1 hh) (by rw [← HY.out]; exact flip_ne (by rw [HNA.out]; exact hj1))
              obtain ⟨K4, h4⟩ := holds_tells cs (A'.set j y) (by have := (Kd.N_reads' HNL6.out).1; have := HLCS.out; omega) (by rw [List.length_set, HNA.out]; omega) HSCS.out
              rw [hfalse] at h4
              have HH4 := Aside0.mk h4
              have HHOLD4 : Aside0 (Calls Try.prog 23 #[.slice Al nl cl, .slice (some ⟨gA, 0, none⟩) nA c6] (W0.setCell ⟨gA, j, none⟩ (.bool y)) fun e w' => e = .returned (.bool false) ∧ Below (W0.setCell ⟨gA, j, none⟩ (.bool y)).heap.size (W0.setCell ⟨gA, j, none⟩ (.bool y)) w') := ⟨by
                obtain ⟨h1, h2, h3⟩ := rowb_reads HFL.out (by rw [List.length_set]; exact HNA.out.symm) (Below.refl _ _)
                rw [h1, HNLL.out]
                exact chalklinelaw13_holds.calls K4 Al cl cs _ c6 (A'.set j y) false _ (Kd.N_reads' HNS.out).2.2 (by have := (Kd.N_reads' HNS.out).2.1; rw [HNLL.out] at this; exact this) h3 (by omega) HH4.out⟩
              clear hy hfl hfalse h4 hHeld hgne
              generalize hWS : W0.setCell ⟨gA, j, none⟩ (.bool y) = WS at z0 HBS HHOLD4 ⊢
              clear hWS HGS HFL HNS
              go_wp2_with (go_at_call 23; refine HHOLD4.out.mono ?_; rintro e w9 ⟨rfl, hb9⟩; have HB9 := Aside0.mk (HBS.out.trans (hb9.mono HBS.out.size)); clear hb9)
              go_ret
              exact ⟨rfl, HB9.out⟩
            · have hmi : ¬ 0 < (nA : Int) - a.length - 1 := by omega
              go_wp2_with fail
              go_ret
              exact ⟨rfl, HB4.out⟩
          · intro hcont
            refine two_ (i := 27) (j := 29) (Ni := some 89) (Nj := some 91) #[true, true, true, true, true, true, true, true, true, true, true, true, true, true, true, true, true, true, true, true, true, true, true, true, true, true, true, true, true, false, true, false, false, false, false] #[true, true, true, true, true, true, true, true, true, true, true, true, true, true, true, true, true, true, true, true, true, true, true, true, true, true, true, false, true, true, true, false, false, false, false] rfl rfl rfl rfl (by kernel_rfl) (by decide) (by decide) (fun K hK => ?_) (fun K hK => ?_)
            · refine goes_ Try.func24 (by kernel_rfl) rfl #[.int .i64 x, .slice A6 nA c6] (by rfl) rfl rfl (by simp only [List.map_toArray, List.map_cons, List.map_nil]; rfl) ?_
              refine (HTRUTH.out _ hHeld).mono ?_
              rintro e W5 ⟨rfl, hb5⟩
              refine ⟨_, rfl, ?_⟩
              refine hK.out _ _ (below_step hHeld hb5) (fun hHeld => ?_)
              clear hK K hb5
              refine norm_ (a' := ?_) ?_ ?_
              rotate_left
              · show Act.put _ (some 89) _ = _
                simp only [Act.put, List.setIfInBounds_toArray, List.set_cons_zero, List.set_cons_succ, i64_w, i32_w]
                rfl
              refine one_ (i := 29) (N := some 91) #[true, true, true, true, true, true, true, true, true, true, true, true, true, true, true, true, true, true, true, true, true, true, true, true, true, true, true, true, true, true, true, false, false, false, false] rfl rfl (by kernel_rfl) (by decide) (fun K hK => ?_)
              refine lit1_step (y := .bool false) (e := 4) (by rfl) ?hr_ ?_
              case hr_ => first | (go_simp; done) | (go_simp; rfl)
              intro b6 hb6 W6 cb6 lb6
              have hle6 : w6.heap.size ≤ b6 := by rw [hb6]; exact hHeld.size
              refine hK.out _ _ (below_step hHeld lb6) (fun hHeld => ?_)
              have hcc := hcont b6 W6 ⟨hHeld, cb6, hle6⟩
              simp only [putAll] at hcc
              simp only [Act.put, List.setIfInBounds_toArray, List.set_cons_zero, List.set_cons_succ, i64_w, i32_w] at hcc ⊢
              exact hcc
            · refine lit1_step (y := .bool false) (e := 4) (by rfl) ?hr_ ?_
              case hr_ => first | (go_simp; done) | (go_simp; rfl)
              intro b6 hb6 W6 cb6 lb6
              have hle6 : w6.heap.size ≤ b6 := by rw [hb6]; exact hHeld.size
              refine hK.out _ _ (below_step hHeld lb6) (fun hHeld => ?_)
              clear hK K lb6
              refine norm_ (a' := ?_) ?_ ?_
              rotate_left
              · show Act.put _ (some 91) _ = _
                simp only [Act.put, List.setIfInBounds_toArray, List.set_cons_zero, List.set_cons_succ, i64_w, i32_w]
                rfl
              refine one_ (i := 27) (N := some 89) #[true, true, true, true, true, true, true, true, true, true, true, true, true, true, true, true, true, true, true, true, true, true, true, true, true, true, true, true, true, true, true, false, false, false, false] rfl rfl (by kernel_rfl) (by decide) (fun K hK => ?_)
              refine goes_ Try.func24 (by kernel_rfl) rfl #[.int .i64 x, .slice A6 nA c6] (by rfl) rfl rfl (by simp only [List.map_toArray, List.map_cons, List.map_nil]; rfl) ?_
              refine (HTRUTH.out _ hHeld).mono ?_
              rintro e W5 ⟨rfl, hb5⟩
              refine ⟨_, rfl, ?_⟩
              refine hK.out _ _ (below_step hHeld hb5) (fun hHeld => ?_)
              have hcc := hcont b6 W5 ⟨hHeld, blk_below cb6 hb5, hle6⟩
              simp only [putAll] at hcc
              simp only [Act.put, List.setIfInBounds_toArray, List.set_cons_zero, List.set_cons_succ, i64_w, i32_w] at hcc ⊢
              exact hcc
end Go.Proofs.Ytkcmkoolcakfjaa.P

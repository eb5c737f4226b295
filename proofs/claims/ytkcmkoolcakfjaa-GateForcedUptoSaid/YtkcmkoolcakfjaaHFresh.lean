/- (*maker).fresh: a new variable for 'at least k of lits', or the panic at the bound. -/
import Derived.Test.YtkcmkoolcakfjaaHPut
import Derived.Test.YtkcmkoolcakfjaaHClone
import Derived.WalkSmall
import Derived.Test.YtkcmkoolcakfjaaHSpec
namespace Go.Proofs.Ytkcmkoolcakfjaa.P
open Go.RowKit Go.Proofs.YtkcmkoolcakfjaaW.PrintWords Go.Proofs.YtkcmkoolcakfjaaW.PrintLast Go.Proofs.YtkcmkoolcakfjaaW.PrintMore Go.Proofs.Ytkcmkoolcakfjaa.Aid
set_option linter.unusedVariables false
set_option linter.unusedSimpArgs false

theorem MPost.from_set {B g mp : Nat} {ok : Nat → Prop} {vl vl1 : Value} {l n1 : List S40} {w w1 : World} {next1 : Int} {u : Value} (h : MPost B g ok vl l mp (w.setCell ⟨g, 1, none⟩ u) w1 vl1 next1 n1) (hB : B ≤ g) : MPost B g ok vl l mp w w1 vl1 next1 n1 := by
  have hs : (w.setCell ⟨g, 1, none⟩ u).heap.size = w.heap.size := by simp [World.setCell]
  exact ⟨h.blk, Kd.N_mono h.row (fun k hk => hk.imp id (fun h2 => by rw [hs] at h2; exact h2)), h.at_.imp id (fun ⟨b, e, hb⟩ => ⟨b, e, by rw [hs] at hb; exact hb⟩),
    ((Below.refl B w).setCell hB u).trans h.below, ((Kept.refl w _).setCell (.inl (.inl rfl)) u).then_ h.kept (fun k hk => .inl hk)⟩

set_option maxRecDepth 100000 in
set_option maxHeartbeats 2000000 in
theorem fresh.panics (g : Nat) (v0 : Value) (next : Int) (v2 : Value) (k : Int) (A : Option Addr) (cap : Nat) (n : Nat) (w : World)
    (hg : w.heap[g]? = some (.cells #[v0, .int .i64 next, v2] 85 (0, 0))) (hnx : 65536 < next) :
    Calls Try.prog 74 #[.pointer (some ⟨g, 0, none⟩), .int .i64 k, .slice A n cap] w fun e w' => e = .panicked [{ v := .iface 87 (.agg #[.int .i64 2]), recovered := false }] ∧ Below w.heap.size w w' := by
  have hc1 := blk_cell hg 1
  have HG := Aside0.mk hg
  clear hg
  go_enter Try.func74, Try.ntmps74
  go_wp2_with fail
  exact ⟨rfl, rfl, Below.refl _ _⟩

theorem row_mpost {α : Type} {enc : α → Value} {B Bl e g mp : Nat} {ok : Nat → Prop} {v vl vl1 : Value} {xs : List α} {l n1 : List S40} {w w1 : World} {next0 next1 : Int} (h : Row enc w Bl e v xs) (h85 : e ≠ 85) (h40 : e ≠ 40)
    (hg : w.heap[g]? = some (.cells #[vl, .int .i64 next0, .map (some mp)] 85 (0, 0))) (hN : Kd.N k40 40 w B ok vl l) (hm : MPost B g ok vl l mp w w1 vl1 next1 n1) : Row enc w1 Bl e v xs :=
  h.move fun k hk => hm.kept.2 k (h.lt k hk).2 (fun hs => by
    rcases hs with hs | hs
    · exact h.ne_block hg h85 k hk hs
    · obtain ⟨cs, hc⟩ := Kd.N_typed hN k hs.symm
      exact h.ne_block hc h40 k hk rfl)

/-- The first i numbers turned, the others not yet. -/
def negTo (l : List Int) (i : Int) : List Int := (l.take i.toNat).map (fun y => -y) ++ l.drop i.toNat
theorem negTo_zero (l : List Int) : negTo l 0 = l := by simp [negTo]
theorem negTo_all (l : List Int) : negTo l l.length = l.map (fun y => -y) := by simp [negTo]
theorem negTo_length (l : List Int) (i : Int) : (negTo l i).length = l.length := by simp [negTo]; omega
theorem negTo_rd (l : List Int) (i : Int) (h0 : 0 ≤ i) (h1 : i < l.length) : rd (negTo l i) i = rd l i := by
  unfold rd negTo
  rw [List.getD_eq_getElem?_getD, List.getD_eq_getElem?_getD, List.getElem?_append_right (by simp; omega)]
  have e : i.toNat - ((l.take i.toNat).map (fun y => -y)).length = 0 := by simp; omega
  rw [e, List.getElem?_drop, Nat.add_zero]
theorem negTo_set (l : List Int) (i : Int) (h0 : 0 ≤ i) (h1 : i < l.length) : (negTo l i).set i.toNat (-(rd l i)) = negTo l (i + 1) := by
  have e : (i + 1).toNat = i.toNat + 1 := by omega
  have hlt : i.toNat < l.length := by omega
  unfold negTo
  rw [e, List.take_succ_eq_append_getElem hlt, List.map_append, List.append_assoc, List.set_append_right _ _ (by simp; omega)]
  have e2 : i.toNat - ((l.take i.toNat).map (fun y => -y)).length = 0 := by simp; omega
  have e3 : rd l i = l[i.toNat] := by simp [rd, List.getD_eq_getElem?_getD, List.getElem?_eq_getElem hlt]
  rw [e2, List.drop_eq_getElem_cons hlt, List.set_cons_zero, e3]
  rfl
theorem rd_mem (l : List Int) (i : Int) (h0 : 0 ≤ i) (h1 : i < l.length) : rd l i ∈ l := by
  have hlt : i.toNat < l.length := by omega
  unfold rd
  rw [List.getD_eq_getElem?_getD, List.getElem?_eq_getElem hlt]
  exact List.getElem_mem hlt

set_option maxRecDepth 100000 in
set_option maxHeartbeats 2000000 in
theorem fresh.calls (B g : Nat) (ok : Nat → Prop) (vl : Value) (l : List S40) (next : Int) (mp : Nat) (k : Int) (Bl : Nat) (A : Option Addr) (cap : Nat) (lits : List Int) (w : World)
    (hg : w.heap[g]? = some (.cells #[vl, .int .i64 next, .map (some mp)] 85 (0, 0))) (hB : B ≤ g) (hN : Kd.N k40 40 w B ok vl l) (hok : ∀ k, ok k → k ≠ g)
    (hr : IRow w Bl (.slice A lits.length cap) lits) (hl : lits.length ≤ 1048576) (hll : l.length ≤ 1000000) (hn0 : 1 ≤ next) (hnx : next ≤ 65536) (hlb : ∀ y ∈ lits, -65536 ≤ y ∧ y ≤ 65536) :
    Calls Try.prog 74 #[.pointer (some ⟨g, 0, none⟩), .int .i64 k, .slice A lits.length cap] w fun e w' => e = .returned (.int .i64 next) ∧ ∃ vl', MPost B g ok vl l mp w w' vl' (next + 1) (sumsF next k lits) := by
  have hc1 := blk_cell hg 1
  have hf1 := blk_frozen hg 1
  have HG := Aside0.mk hg
  have HN := Aside0.mk hN
  have HOK := Aside0.mk hok
  have HRow := Aside0.mk hr
  have HLB := Aside0.mk hlb
  clear hg hN hok hr hlb
  have hg1 : (w.setCell ⟨g, 1, none⟩ (.int .i64 (next + 1))).heap[g]? = some (.cells #[vl, .int .i64 (next + 1), .map (some mp)] 85 (0, 0)) := blk_put HG.out 1 _ rfl
  have hN1 : Kd.N k40 40 (w.setCell ⟨g, 1, none⟩ (.int .i64 (next + 1))) B ok vl l := Kd.N_far (p := ⟨g, 1, none⟩) HN.out HOK.out _
  have hr1 : Kd.C (Kd.int .i64) (w.setCell ⟨g, 1, none⟩ (.int .i64 (next + 1))) none ([] : List Int).length [] := ⟨rfl, by simp, fun h => by simp at h⟩
  have HG1 := Aside0.mk hg1
  have HN1 := Aside0.mk hN1
  have HR1 := Aside0.mk hr1
  have HRow1 := Aside0.mk (HRow.out.far (p := ⟨g, 1, none⟩) (HRow.out.ne_block HG.out (by decide)) (.int .i64 (next + 1)))
  clear hg1 hN1 hr1
  by_cases h1 : k ≤ 0
  · go_enter Try.func74, Try.ntmps74
    go_wp2_with (go_at_call 80; refine (put.calls B g ok vl l (next + 1) mp next 1 1 none 0 [] _ HG1.out hB HN1.out HOK.out HR1.out (Nat.le_refl _) (by simp) (by omega)).mono ?_; rintro e w2 ⟨rfl, vl2, hp⟩; have HP := Aside0.mk (hp.from_set hB); clear hp)
    go_ret
    exact ⟨rfl, vl2, by rw [sumsF, if_pos h1]; exact HP.out⟩
  · by_cases h2 : (lits.length : Int) < k
    · go_enter Try.func74, Try.ntmps74
      go_wp2_with (go_at_call 80; refine (put.calls B g ok vl l (next + 1) mp _ 1 1 none 0 [] _ HG1.out hB HN1.out HOK.out HR1.out (Nat.le_refl _) (by simp) (by omega)).mono ?_; rintro e w2 ⟨rfl, vl2, hp⟩; have HP := Aside0.mk (hp.from_set hB); clear hp)
      go_ret
      exact ⟨rfl, vl2, by rw [sumsF, if_neg (by omega), if_pos h2]; exact HP.out⟩
    · have h1' : 0 < k := by omega
      have h2' : k ≤ lits.length := by omega
      clear h1 h2
      have h1b : decide (k ≤ 0) = false := decide_eq_false (by omega)
      have h2b : decide ((lits.length : Int) < k) = false := decide_eq_false (by omega)
      obtain ⟨_, _, he1, hcc, hC1⟩ := HRow1.out.reads (h1 := fun _ => rfl)
      cases he1
      have HC1 := Aside0.mk hC1
      clear hC1
      go_enter Try.func74, Try.ntmps74
      go_wp2_with (go_at_call 80; refine (put.calls B g ok vl l (next + 1) mp _ k k A cap lits _ HG1.out hB HN1.out HOK.out HC1.out hcc hl (by omega)).mono ?_; rintro e w2 ⟨rfl, vl2, hp⟩; have HRow2 := Aside0.mk (row_mpost HRow1.out (by decide) (by decide) HG1.out HN1.out hp); have HP := Aside0.mk (hp.from_set hB); clear hp HC1 HR1)
      obtain ⟨_, _, he2, hcc2, hC2⟩ := HRow2.out.reads (h1 := fun _ => rfl)
      cases he2
      have HC2 := Aside0.mk hC2
      clear hC2
      go_wp2_with (go_at_call 81; refine (slices_Clone.calls A cap lits _ HC2.out hcc2 (by omega)).mono ?_; rintro e w3 ⟨v3, rfl, hr3, hb3⟩; have HRow3 := Aside0.mk (Row.ofR hr3); have HB3 := Aside0.mk hb3; obtain ⟨g3, c3, rfl, hge3, _⟩ := World.ownsRow.form HRow3.out (by omega); clear hr3 hb3 HC2)
      have HGE := Aside0.mk hge3
      clear hge3 hcc2 hcc
      go_loopw [46] (fun v46 wr => ∃ i : Int, 0 ≤ i ∧ i ≤ lits.length ∧ v46 = .int .i64 i ∧ Aside0 (IRow wr w2.heap.size (.slice (some ⟨g3, 0, none⟩) lits.length c3) (negTo lits i)) ∧ Aside0 (Below w2.heap.size w2 wr)) (fun v46 _ => (lits.length - intOf v46).toNat)
      case atStart => exact ⟨0, by omega, by omega, rfl, ⟨by rw [negTo_zero]; exact HRow3.out⟩, HB3⟩
      case round =>
        clear HRow3 HB3
        obtain ⟨i, hi0, hi1, rfl, HRi, HBi⟩ := hrel
        by_cases hlt : i < lits.length
        · have hnl := negTo_length lits i
          have HNL := Aside0.mk hnl
          have hown : wr.ownsRow w2.heap.size 3 1 (.slice (some ⟨g3, 0, none⟩) lits.length c3) lits.length (nums .i64 (negTo lits i)) := by have h := HRi.out; unfold IRow Row at h; rw [HNL.out] at h; exact h
          obtain ⟨hx, hf⟩ := own_at hown i hi0 hlt
          rw [negTo_rd lits i hi0 hlt] at hx
          obtain ⟨hy0, hy1⟩ := HLB.out _ (rd_mem lits i hi0 hlt)
          have hs := own_store hown i (-(rd lits i))
          rw [negTo_set lits i hi0 hlt] at hs
          have HS := Aside0.mk hs.1
          have HSB := Aside0.mk (HBi.out.setCell (p := ⟨g3, i.toNat, none⟩) HGE.out (.int .i64 (-(rd lits i))))
          clear hs hown hnl
          go_wp2
          go_roundw
          case rel => exact ⟨i + 1, by omega, by omega, by go_num, ⟨by unfold IRow Row; rw [negTo_length]; exact HS.out⟩, HSB⟩
          case measure => simp [intOf]; omega
        · have hi : i = lits.length := by omega
          have HRn : Aside0 (IRow wr w2.heap.size (.slice (some ⟨g3, 0, none⟩) lits.length c3) (lits.map (fun y => -y))) := ⟨by have h := HRi.out; rw [hi, negTo_all] at h; exact h⟩
          clear HRi
          obtain ⟨_, _, he4, hcc4, hC4⟩ := HRn.out.reads (h1 := fun _ => rfl)
          have hlen : (lits.map (fun y => -y)).length = lits.length := List.length_map _
          simp only [Value.slice.injEq] at he4
          obtain ⟨rfl, -, rfl⟩ := he4
          have HC4 := Aside0.mk hC4
          clear hC4
          subst hi
          have hnk : 0 ≤ (lits.length : Int) - k := by omega
          have HPW := Aside0.mk (HP.out.step (by have := blk_lt HG.out; omega) HBi.out)
          have HN4 : Aside0 (Kd.N k40 40 wr B (fun q => (ok q ∨ w.heap.size ≤ q) ∧ q < w2.heap.size) vl2 (l ++ [⟨k :: List.replicate lits.length 1, -next :: lits, k⟩])) := ⟨Kd.N_step (Kd.N_bound HP.out.row) (fun q hq _ => HBi.out.block q hq.2)⟩
          have HOK4 : Aside0 (∀ q, ((ok q ∨ w.heap.size ≤ q) ∧ q < w2.heap.size) → q ≠ g) := ⟨fun q hq => by
            rcases hq.1 with h | h
            · exact HOK.out q h
            · have := blk_lt HG.out; omega⟩
          have HBLK4 := Aside0.mk (blk_below HP.out.blk HBi.out)
          have hput := put.calls B g (fun q => (ok q ∨ w.heap.size ≤ q) ∧ q < w2.heap.size) vl2 (l ++ [⟨k :: List.replicate lits.length 1, -next :: lits, k⟩]) (next + 1) mp next (lits.length - k + 1) (lits.length - k + 1) (some ⟨g3, 0, none⟩) c3 (lits.map (fun y => -y)) wr HBLK4.out hB HN4.out HOK4.out HC4.out hcc4 (by rw [hlen]; exact hl) (by simp; omega)
          rw [hlen] at hput
          have HPUT := Aside0.mk hput
          clear hput hlen hcc4 hlt hi0 hi1 hnk
          have hdec : decide ((lits.length : Int) < lits.length) = false := decide_eq_false (by omega)
          go_wp2_with (go_at_call 80; refine (HPUT.out).mono ?_; rintro e w5 ⟨rfl, vl5, hp5⟩; have HP5 := Aside0.mk (HPW.out.trans (hp5.mono (fun q hq => hq.1))); clear hp5)
          go_ret
          exact ⟨rfl, vl5, by rw [sumsF, if_neg (by omega), if_neg (by omega)]; exact HP5.out⟩
end Go.Proofs.Ytkcmkoolcakfjaa.P

/- chalklineref11.may: are all nodes well-formed? -/
import Derived.Test.YtkcmkoolcakfjaaHLit
namespace Go.Proofs.Ytkcmkoolcakfjaa.P
open Go.RowKit Go.Proofs.YtkcmkoolcakfjaaW.PrintWords Go.Proofs.YtkcmkoolcakfjaaW.PrintLast Go.Proofs.YtkcmkoolcakfjaaW.PrintMore Go.Proofs.Ytkcmkoolcakfjaa.Aid
set_option linter.unusedVariables false
set_option linter.unusedSimpArgs false

theorem formedTs_drop (ts : List S24) (i n : Int) (h0 : 0 ≤ i) (h1 : i < ts.length) : formedTs (ts.drop i.toNat) n = (formedT (rd_T24 ts i) n && formedTs (ts.drop (i + 1).toNat) n) := by
  have e : (i + 1).toNat = i.toNat + 1 := by omega
  have hlt : i.toNat < ts.length := by omega
  rw [List.drop_eq_getElem_cons hlt, e]
  simp [formedTs, rd_T24, List.getD_eq_getElem?_getD, List.getElem?_eq_getElem hlt]

set_option maxRecDepth 100000 in
set_option maxHeartbeats 8000000 in
theorem may.calls (n : Int) (w0 : World) (N : Nat) (hNb : N ≤ 1048576) : ∀ (T : S24) (A : Option Addr) (c : Nat) (w : World),
    sizeT T ≤ N → Below w0.heap.size w0 w → Kd.C k24 w0 A T.f3.length T.f3 → T.f3.length ≤ c →
    Calls Try.prog 55 #[.agg #[.int .i64 T.f0, .int .i64 T.f1, .int .i64 T.f2, .slice A T.f3.length c], .int .i64 n] w fun e w' => e = .returned (.bool (formedT T n)) ∧ Below w.heap.size w w' := by
  induction N with
  | zero => intro T; intros; have : 1 ≤ sizeT T := by { cases T; simp [sizeT] }; omega
  | succ N ih =>
    rintro ⟨kind, v, q, ts⟩ A c w hsz hW hC hc
    simp only at hC hc ⊢
    have hlen : ts.length ≤ 1048576 := by
      have h : ∀ l : List S24, l.length ≤ sizeTs l := by
        intro l
        induction l with
        | nil => simp
        | cons a l ihl => have := size_mem (ts := a :: l) a List.mem_cons_self; have h1 : 1 ≤ sizeT a := by { cases a; simp [sizeT] }; simp only [sizeTs, List.length_cons]; omega
      have := h ts
      simp only [sizeT] at hsz
      omega
    have HW := Aside0.mk hW
    have HC := Aside0.mk hC
    have IH := Aside0.mk (ih (by omega))
    have HBX := Aside0.mk (blk_new w (.cells #[.int .i64 kind, .int .i64 v, .int .i64 q, .slice A ts.length c] 24))
    have HB0 := Aside0.mk (below_alloc (Below.refl w.heap.size w) (.cells #[.int .i64 kind, .int .i64 v, .int .i64 q, .slice A ts.length c] 24))
    clear hW hC ih
    by_cases hf : formedF kind v q ts.length n = true
    · have HT : Aside0 (formedT ⟨kind, v, q, ts⟩ n = formedTs ts n) := ⟨by simp only [formedT]; rw [hf]; rfl⟩
      have hk : kind = 1 ∨ kind = 2 ∨ kind = 3 ∨ kind = 4 ∨ kind = 5 ∨ kind = 6 := by
        unfold formedF at hf
        by_cases h1 : kind = 1
        · exact .inl h1
        · by_cases h2 : kind = 2
          · exact .inr (.inl h2)
          · by_cases h3 : kind = 3
            · exact .inr (.inr (.inl h3))
            · by_cases h4 : kind = 4
              · exact .inr (.inr (.inr (.inl h4)))
              · by_cases h5 : kind = 5
                · exact .inr (.inr (.inr (.inr (.inl h5))))
                · by_cases h6 : kind = 6
                  · exact .inr (.inr (.inr (.inr (.inr h6))))
                  · simp [h1, h2, h3, h4, h5, h6] at hf
      rcases hk with rfl | rfl | rfl | rfl | rfl | rfl
      · simp [formedF] at hf
        obtain ⟨rfl, hv, hl⟩ := hf
        have hl' : (ts.length : Int) = 0 := by rw [hl]; rfl
        have hq : ((ts.length : Int) != 0) = false := by rw [hl']; rfl
        clear hl hl'
        rcases hv with rfl | rfl
        · go_enter Try.func55, Try.ntmps55
          go_wp2_with fail
          go_loopw [5] (fun v5 wr => ∃ i : Int, 0 ≤ i ∧ i ≤ ts.length ∧ v5 = .int .i64 i ∧ Aside0 (formedTs ts n = formedTs (ts.drop i.toNat) n) ∧ Aside0 (Below w.heap.size w wr) ∧ Aside0 (wr.heap[w.heap.size]? = some (.cells #[.int .i64 1, .int .i64 0, .int .i64 0, .slice A ts.length c] 24 (0, 0)))) (fun v5 _ => (ts.length - intOf v5).toNat)
          case atStart => exact ⟨0, by omega, by omega, rfl, ⟨by simp⟩, HB0, HBX⟩
          case round =>
            clear HB0 HBX
            obtain ⟨i, hi0, hi1, rfl, HX, HB, HBX⟩ := hrel
            have z3 : wr.cell? ⟨w.heap.size, 3, none⟩ = some (.slice A ts.length c) := (blk_cell HBX.out 3).trans rfl
            by_cases hlt : i < ts.length
            · have hmem := rd_T24_mem ts i hi0 hlt
              have hsz1 : sizeT (rd_T24 ts i) ≤ N := by
                have := size_mem _ hmem
                simp only [sizeT] at hsz
                omega
              obtain ⟨ad, A3, c3, rfl, x0, x1, x2, x3, hl3, hi3⟩ := at_T24 HC.out i hi0 hlt
              have HBW0 := Aside0.mk (below_step HW.out HB.out)
              replace x0 := (HBW0.out.cell (World.block_lt_of_cell? w0 _ x0)).trans x0
              replace x1 := (HBW0.out.cell (World.block_lt_of_cell? w0 _ x1)).trans x1
              replace x2 := (HBW0.out.cell (World.block_lt_of_cell? w0 _ x2)).trans x2
              replace x3 := (HBW0.out.cell (World.block_lt_of_cell? w0 _ x3)).trans x3
              have HDR := Aside0.mk (formedTs_drop ts i n hi0 hlt)
              have HCALL := Aside0.mk (IH.out (rd_T24 ts i) A3 c3 wr hsz1 HBW0.out hi3 hl3)
              clear hmem hi3 hl3 hsz1
              go_wp2_with fail
              clear x0 x1 x2 x3 z3
              refine HCALL.out.mono ?_
              rintro e w2 ⟨rfl, hb⟩
              have HB2 := Aside0.mk (below_step HB.out hb)
              have HBX2 := Aside0.mk (blk_below HBX.out hb)
              clear hb HCALL
              by_cases hr : formedT (rd_T24 ts i) n = true
              · have HX2 : Aside0 (formedTs ts n = formedTs (ts.drop (i + 1).toNat) n) := ⟨by rw [HX.out, HDR.out, hr]; rfl⟩
                clear HX HDR HB HBX
                go_wp2_with fail
                go_roundw
                case rel => exact ⟨i + 1, by omega, by omega, by go_num, HX2, HB2, HBX2⟩
                case measure => simp [intOf]; omega
              · have hr2 : formedT (rd_T24 ts i) n = false := by simpa using hr
                have HX2 : Aside0 (formedTs ts n = false) := ⟨by rw [HX.out, HDR.out, hr2]; rfl⟩
                clear HX HDR HB HBX
                go_wp2_with fail
                go_ret
                exact ⟨by rw [HT.out, HX2.out]; rfl, HB2.out⟩
            · have hi : i = ts.length := by omega
              subst hi
              have HX2 : Aside0 (formedTs ts n = true) := ⟨by rw [HX.out, Int.toNat_natCast, List.drop_length]; rfl⟩
              clear hlt hi0 hi1 HX
              go_wp2_with fail
              go_ret
              exact ⟨by rw [HT.out, HX2.out]; rfl, HB.out⟩

        · go_enter Try.func55, Try.ntmps55
          go_wp2_with fail
          go_loopw [5] (fun v5 wr => ∃ i : Int, 0 ≤ i ∧ i ≤ ts.length ∧ v5 = .int .i64 i ∧ Aside0 (formedTs ts n = formedTs (ts.drop i.toNat) n) ∧ Aside0 (Below w.heap.size w wr) ∧ Aside0 (wr.heap[w.heap.size]? = some (.cells #[.int .i64 1, .int .i64 1, .int .i64 0, .slice A ts.length c] 24 (0, 0)))) (fun v5 _ => (ts.length - intOf v5).toNat)
          case atStart => exact ⟨0, by omega, by omega, rfl, ⟨by simp⟩, HB0, HBX⟩
          case round =>
            clear HB0 HBX
            obtain ⟨i, hi0, hi1, rfl, HX, HB, HBX⟩ := hrel
            have z3 : wr.cell? ⟨w.heap.size, 3, none⟩ = some (.slice A ts.length c) := (blk_cell HBX.out 3).trans rfl
            by_cases hlt : i < ts.length
            · have hmem := rd_T24_mem ts i hi0 hlt
              have hsz1 : sizeT (rd_T24 ts i) ≤ N := by
                have := size_mem _ hmem
                simp only [sizeT] at hsz
                omega
              obtain ⟨ad, A3, c3, rfl, x0, x1, x2, x3, hl3, hi3⟩ := at_T24 HC.out i hi0 hlt
              have HBW0 := Aside0.mk (below_step HW.out HB.out)
              replace x0 := (HBW0.out.cell (World.block_lt_of_cell? w0 _ x0)).trans x0
              replace x1 := (HBW0.out.cell (World.block_lt_of_cell? w0 _ x1)).trans x1
              replace x2 := (HBW0.out.cell (World.block_lt_of_cell? w0 _ x2)).trans x2
              replace x3 := (HBW0.out.cell (World.block_lt_of_cell? w0 _ x3)).trans x3
              have HDR := Aside0.mk (formedTs_drop ts i n hi0 hlt)
              have HCALL := Aside0.mk (IH.out (rd_T24 ts i) A3 c3 wr hsz1 HBW0.out hi3 hl3)
              clear hmem hi3 hl3 hsz1
              go_wp2_with fail
              clear x0 x1 x2 x3 z3
              refine HCALL.out.mono ?_
              rintro e w2 ⟨rfl, hb⟩
              have HB2 := Aside0.mk (below_step HB.out hb)
              have HBX2 := Aside0.mk (blk_below HBX.out hb)
              clear hb HCALL
              by_cases hr : formedT (rd_T24 ts i) n = true
              · have HX2 : Aside0 (formedTs ts n = formedTs (ts.drop (i + 1).toNat) n) := ⟨by rw [HX.out, HDR.out, hr]; rfl⟩
                clear HX HDR HB HBX
                go_wp2_with fail
                go_roundw
                case rel => exact ⟨i + 1, by omega, by omega, by go_num, HX2, HB2, HBX2⟩
                case measure => simp [intOf]; omega
              · have hr2 : formedT (rd_T24 ts i) n = false := by simpa using hr
                have HX2 : Aside0 (formedTs ts n = false) := ⟨by rw [HX.out, HDR.out, hr2]; rfl⟩
                clear HX HDR HB HBX
                go_wp2_with fail
                go_ret
                exact ⟨by rw [HT.out, HX2.out]; rfl, HB2.out⟩
            · have hi : i = ts.length := by omega
              subst hi
              have HX2 : Aside0 (formedTs ts n = true) := ⟨by rw [HX.out, Int.toNat_natCast, List.drop_length]; rfl⟩
              clear hlt hi0 hi1 HX
              go_wp2_with fail
              go_ret
              exact ⟨by rw [HT.out, HX2.out]; rfl, HB.out⟩
      · simp [formedF] at hf
        obtain ⟨rfl, ⟨hv1, hv2⟩, hl⟩ := hf
        have hl' : (ts.length : Int) = 0 := by rw [hl]; rfl
        have hq : ((ts.length : Int) != 0) = false := by rw [hl']; rfl
        clear hl hl'
        go_enter Try.func55, Try.ntmps55
        go_wp2_with fail
        go_loopw [5] (fun v5 wr => ∃ i : Int, 0 ≤ i ∧ i ≤ ts.length ∧ v5 = .int .i64 i ∧ Aside0 (formedTs ts n = formedTs (ts.drop i.toNat) n) ∧ Aside0 (Below w.heap.size w wr) ∧ Aside0 (wr.heap[w.heap.size]? = some (.cells #[.int .i64 2, .int .i64 v, .int .i64 0, .slice A ts.length c] 24 (0, 0)))) (fun v5 _ => (ts.length - intOf v5).toNat)
        case atStart => exact ⟨0, by omega, by omega, rfl, ⟨by simp⟩, HB0, HBX⟩
        case round =>
          clear HB0 HBX
          obtain ⟨i, hi0, hi1, rfl, HX, HB, HBX⟩ := hrel
          have z3 : wr.cell? ⟨w.heap.size, 3, none⟩ = some (.slice A ts.length c) := (blk_cell HBX.out 3).trans rfl
          by_cases hlt : i < ts.length
          · have hmem := rd_T24_mem ts i hi0 hlt
            have hsz1 : sizeT (rd_T24 ts i) ≤ N := by
              have := size_mem _ hmem
              simp only [sizeT] at hsz
              omega
            obtain ⟨ad, A3, c3, rfl, x0, x1, x2, x3, hl3, hi3⟩ := at_T24 HC.out i hi0 hlt
            have HBW0 := Aside0.mk (below_step HW.out HB.out)
            replace x0 := (HBW0.out.cell (World.block_lt_of_cell? w0 _ x0)).trans x0
            replace x1 := (HBW0.out.cell (World.block_lt_of_cell? w0 _ x1)).trans x1
            replace x2 := (HBW0.out.cell (World.block_lt_of_cell? w0 _ x2)).trans x2
            replace x3 := (HBW0.out.cell (World.block_lt_of_cell? w0 _ x3)).trans x3
            have HDR := Aside0.mk (formedTs_drop ts i n hi0 hlt)
            have HCALL := Aside0.mk (IH.out (rd_T24 ts i) A3 c3 wr hsz1 HBW0.out hi3 hl3)
            clear hmem hi3 hl3 hsz1
            go_wp2_with fail
            clear x0 x1 x2 x3 z3
            refine HCALL.out.mono ?_
            rintro e w2 ⟨rfl, hb⟩
            have HB2 := Aside0.mk (below_step HB.out hb)
            have HBX2 := Aside0.mk (blk_below HBX.out hb)
            clear hb HCALL
            by_cases hr : formedT (rd_T24 ts i) n = true
            · have HX2 : Aside0 (formedTs ts n = formedTs (ts.drop (i + 1).toNat) n) := ⟨by rw [HX.out, HDR.out, hr]; rfl⟩
              clear HX HDR HB HBX
              go_wp2_with fail
              go_roundw
              case rel => exact ⟨i + 1, by omega, by omega, by go_num, HX2, HB2, HBX2⟩
              case measure => simp [intOf]; omega
            · have hr2 : formedT (rd_T24 ts i) n = false := by simpa using hr
              have HX2 : Aside0 (formedTs ts n = false) := ⟨by rw [HX.out, HDR.out, hr2]; rfl⟩
              clear HX HDR HB HBX
              go_wp2_with fail
              go_ret
              exact ⟨by rw [HT.out, HX2.out]; rfl, HB2.out⟩
          · have hi : i = ts.length := by omega
            subst hi
            have HX2 : Aside0 (formedTs ts n = true) := ⟨by rw [HX.out, Int.toNat_natCast, List.drop_length]; rfl⟩
            clear hlt hi0 hi1 HX
            go_wp2_with fail
            go_ret
            exact ⟨by rw [HT.out, HX2.out]; rfl, HB.out⟩
      · simp [formedF] at hf
        obtain ⟨rfl, rfl, hl⟩ := hf
        have hl' : (ts.length : Int) = 1 := by rw [hl]; rfl
        have hq : ((ts.length : Int) != 1) = false := by rw [hl']; rfl
        clear hl hl'
        go_enter Try.func55, Try.ntmps55
        go_wp2_with fail
        go_loopw [5] (fun v5 wr => ∃ i : Int, 0 ≤ i ∧ i ≤ ts.length ∧ v5 = .int .i64 i ∧ Aside0 (formedTs ts n = formedTs (ts.drop i.toNat) n) ∧ Aside0 (Below w.heap.size w wr) ∧ Aside0 (wr.heap[w.heap.size]? = some (.cells #[.int .i64 3, .int .i64 0, .int .i64 0, .slice A ts.length c] 24 (0, 0)))) (fun v5 _ => (ts.length - intOf v5).toNat)
        case atStart => exact ⟨0, by omega, by omega, rfl, ⟨by simp⟩, HB0, HBX⟩
        case round =>
          clear HB0 HBX
          obtain ⟨i, hi0, hi1, rfl, HX, HB, HBX⟩ := hrel
          have z3 : wr.cell? ⟨w.heap.size, 3, none⟩ = some (.slice A ts.length c) := (blk_cell HBX.out 3).trans rfl
          by_cases hlt : i < ts.length
          · have hmem := rd_T24_mem ts i hi0 hlt
            have hsz1 : sizeT (rd_T24 ts i) ≤ N := by
              have := size_mem _ hmem
              simp only [sizeT] at hsz
              omega
            obtain ⟨ad, A3, c3, rfl, x0, x1, x2, x3, hl3, hi3⟩ := at_T24 HC.out i hi0 hlt
            have HBW0 := Aside0.mk (below_step HW.out HB.out)
            replace x0 := (HBW0.out.cell (World.block_lt_of_cell? w0 _ x0)).trans x0
            replace x1 := (HBW0.out.cell (World.block_lt_of_cell? w0 _ x1)).trans x1
            replace x2 := (HBW0.out.cell (World.block_lt_of_cell? w0 _ x2)).trans x2
            replace x3 := (HBW0.out.cell (World.block_lt_of_cell? w0 _ x3)).trans x3
            have HDR := Aside0.mk (formedTs_drop ts i n hi0 hlt)
            have HCALL := Aside0.mk (IH.out (rd_T24 ts i) A3 c3 wr hsz1 HBW0.out hi3 hl3)
            clear hmem hi3 hl3 hsz1
            go_wp2_with fail
            clear x0 x1 x2 x3 z3
            refine HCALL.out.mono ?_
            rintro e w2 ⟨rfl, hb⟩
            have HB2 := Aside0.mk (below_step HB.out hb)
            have HBX2 := Aside0.mk (blk_below HBX.out hb)
            clear hb HCALL
            by_cases hr : formedT (rd_T24 ts i) n = true
            · have HX2 : Aside0 (formedTs ts n = formedTs (ts.drop (i + 1).toNat) n) := ⟨by rw [HX.out, HDR.out, hr]; rfl⟩
              clear HX HDR HB HBX
              go_wp2_with fail
              go_roundw
              case rel => exact ⟨i + 1, by omega, by omega, by go_num, HX2, HB2, HBX2⟩
              case measure => simp [intOf]; omega
            · have hr2 : formedT (rd_T24 ts i) n = false := by simpa using hr
              have HX2 : Aside0 (formedTs ts n = false) := ⟨by rw [HX.out, HDR.out, hr2]; rfl⟩
              clear HX HDR HB HBX
              go_wp2_with fail
              go_ret
              exact ⟨by rw [HT.out, HX2.out]; rfl, HB2.out⟩
          · have hi : i = ts.length := by omega
            subst hi
            have HX2 : Aside0 (formedTs ts n = true) := ⟨by rw [HX.out, Int.toNat_natCast, List.drop_length]; rfl⟩
            clear hlt hi0 hi1 HX
            go_wp2_with fail
            go_ret
            exact ⟨by rw [HT.out, HX2.out]; rfl, HB.out⟩
      · simp [formedF] at hf
        obtain ⟨rfl, rfl⟩ := hf
        go_enter Try.func55, Try.ntmps55
        go_wp2_with fail
        go_loopw [5] (fun v5 wr => ∃ i : Int, 0 ≤ i ∧ i ≤ ts.length ∧ v5 = .int .i64 i ∧ Aside0 (formedTs ts n = formedTs (ts.drop i.toNat) n) ∧ Aside0 (Below w.heap.size w wr) ∧ Aside0 (wr.heap[w.heap.size]? = some (.cells #[.int .i64 4, .int .i64 0, .int .i64 0, .slice A ts.length c] 24 (0, 0)))) (fun v5 _ => (ts.length - intOf v5).toNat)
        case atStart => exact ⟨0, by omega, by omega, rfl, ⟨by simp⟩, HB0, HBX⟩
        case round =>
          clear HB0 HBX
          obtain ⟨i, hi0, hi1, rfl, HX, HB, HBX⟩ := hrel
          have z3 : wr.cell? ⟨w.heap.size, 3, none⟩ = some (.slice A ts.length c) := (blk_cell HBX.out 3).trans rfl
          by_cases hlt : i < ts.length
          · have hmem := rd_T24_mem ts i hi0 hlt
            have hsz1 : sizeT (rd_T24 ts i) ≤ N := by
              have := size_mem _ hmem
              simp only [sizeT] at hsz
              omega
            obtain ⟨ad, A3, c3, rfl, x0, x1, x2, x3, hl3, hi3⟩ := at_T24 HC.out i hi0 hlt
            have HBW0 := Aside0.mk (below_step HW.out HB.out)
            replace x0 := (HBW0.out.cell (World.block_lt_of_cell? w0 _ x0)).trans x0
            replace x1 := (HBW0.out.cell (World.block_lt_of_cell? w0 _ x1)).trans x1
            replace x2 := (HBW0.out.cell (World.block_lt_of_cell? w0 _ x2)).trans x2
            replace x3 := (HBW0.out.cell (World.block_lt_of_cell? w0 _ x3)).trans x3
            have HDR := Aside0.mk (formedTs_drop ts i n hi0 hlt)
            have HCALL := Aside0.mk (IH.out (rd_T24 ts i) A3 c3 wr hsz1 HBW0.out hi3 hl3)
            clear hmem hi3 hl3 hsz1
            go_wp2_with fail
            clear x0 x1 x2 x3 z3
            refine HCALL.out.mono ?_
            rintro e w2 ⟨rfl, hb⟩
            have HB2 := Aside0.mk (below_step HB.out hb)
            have HBX2 := Aside0.mk (blk_below HBX.out hb)
            clear hb HCALL
            by_cases hr : formedT (rd_T24 ts i) n = true
            · have HX2 : Aside0 (formedTs ts n = formedTs (ts.drop (i + 1).toNat) n) := ⟨by rw [HX.out, HDR.out, hr]; rfl⟩
              clear HX HDR HB HBX
              go_wp2_with fail
              go_roundw
              case rel => exact ⟨i + 1, by omega, by omega, by go_num, HX2, HB2, HBX2⟩
              case measure => simp [intOf]; omega
            · have hr2 : formedT (rd_T24 ts i) n = false := by simpa using hr
              have HX2 : Aside0 (formedTs ts n = false) := ⟨by rw [HX.out, HDR.out, hr2]; rfl⟩
              clear HX HDR HB HBX
              go_wp2_with fail
              go_ret
              exact ⟨by rw [HT.out, HX2.out]; rfl, HB2.out⟩
          · have hi : i = ts.length := by omega
            subst hi
            have HX2 : Aside0 (formedTs ts n = true) := ⟨by rw [HX.out, Int.toNat_natCast, List.drop_length]; rfl⟩
            clear hlt hi0 hi1 HX
            go_wp2_with fail
            go_ret
            exact ⟨by rw [HT.out, HX2.out]; rfl, HB.out⟩
      · simp [formedF] at hf
        obtain ⟨rfl, rfl⟩ := hf
        go_enter Try.func55, Try.ntmps55
        go_wp2_with fail
        go_loopw [5] (fun v5 wr => ∃ i : Int, 0 ≤ i ∧ i ≤ ts.length ∧ v5 = .int .i64 i ∧ Aside0 (formedTs ts n = formedTs (ts.drop i.toNat) n) ∧ Aside0 (Below w.heap.size w wr) ∧ Aside0 (wr.heap[w.heap.size]? = some (.cells #[.int .i64 5, .int .i64 0, .int .i64 0, .slice A ts.length c] 24 (0, 0)))) (fun v5 _ => (ts.length - intOf v5).toNat)
        case atStart => exact ⟨0, by omega, by omega, rfl, ⟨by simp⟩, HB0, HBX⟩
        case round =>
          clear HB0 HBX
          obtain ⟨i, hi0, hi1, rfl, HX, HB, HBX⟩ := hrel
          have z3 : wr.cell? ⟨w.heap.size, 3, none⟩ = some (.slice A ts.length c) := (blk_cell HBX.out 3).trans rfl
          by_cases hlt : i < ts.length
          · have hmem := rd_T24_mem ts i hi0 hlt
            have hsz1 : sizeT (rd_T24 ts i) ≤ N := by
              have := size_mem _ hmem
              simp only [sizeT] at hsz
              omega
            obtain ⟨ad, A3, c3, rfl, x0, x1, x2, x3, hl3, hi3⟩ := at_T24 HC.out i hi0 hlt
            have HBW0 := Aside0.mk (below_step HW.out HB.out)
            replace x0 := (HBW0.out.cell (World.block_lt_of_cell? w0 _ x0)).trans x0
            replace x1 := (HBW0.out.cell (World.block_lt_of_cell? w0 _ x1)).trans x1
            replace x2 := (HBW0.out.cell (World.block_lt_of_cell? w0 _ x2)).trans x2
            replace x3 := (HBW0.out.cell (World.block_lt_of_cell? w0 _ x3)).trans x3
            have HDR := Aside0.mk (formedTs_drop ts i n hi0 hlt)
            have HCALL := Aside0.mk (IH.out (rd_T24 ts i) A3 c3 wr hsz1 HBW0.out hi3 hl3)
            clear hmem hi3 hl3 hsz1
            go_wp2_with fail
            clear x0 x1 x2 x3 z3
            refine HCALL.out.mono ?_
            rintro e w2 ⟨rfl, hb⟩
            have HB2 := Aside0.mk (below_step HB.out hb)
            have HBX2 := Aside0.mk (blk_below HBX.out hb)
            clear hb HCALL
            by_cases hr : formedT (rd_T24 ts i) n = true
            · have HX2 : Aside0 (formedTs ts n = formedTs (ts.drop (i + 1).toNat) n) := ⟨by rw [HX.out, HDR.out, hr]; rfl⟩
              clear HX HDR HB HBX
              go_wp2_with fail
              go_roundw
              case rel => exact ⟨i + 1, by omega, by omega, by go_num, HX2, HB2, HBX2⟩
              case measure => simp [intOf]; omega
            · have hr2 : formedT (rd_T24 ts i) n = false := by simpa using hr
              have HX2 : Aside0 (formedTs ts n = false) := ⟨by rw [HX.out, HDR.out, hr2]; rfl⟩
              clear HX HDR HB HBX
              go_wp2_with fail
              go_ret
              exact ⟨by rw [HT.out, HX2.out]; rfl, HB2.out⟩
          · have hi : i = ts.length := by omega
            subst hi
            have HX2 : Aside0 (formedTs ts n = true) := ⟨by rw [HX.out, Int.toNat_natCast, List.drop_length]; rfl⟩
            clear hlt hi0 hi1 HX
            go_wp2_with fail
            go_ret
            exact ⟨by rw [HT.out, HX2.out]; rfl, HB.out⟩
      · simp [formedF] at hf
        obtain ⟨⟨rfl, hq1⟩, hq2⟩ := hf
        go_enter Try.func55, Try.ntmps55
        go_wp2_with fail
        go_loopw [5] (fun v5 wr => ∃ i : Int, 0 ≤ i ∧ i ≤ ts.length ∧ v5 = .int .i64 i ∧ Aside0 (formedTs ts n = formedTs (ts.drop i.toNat) n) ∧ Aside0 (Below w.heap.size w wr) ∧ Aside0 (wr.heap[w.heap.size]? = some (.cells #[.int .i64 6, .int .i64 0, .int .i64 q, .slice A ts.length c] 24 (0, 0)))) (fun v5 _ => (ts.length - intOf v5).toNat)
        case atStart => exact ⟨0, by omega, by omega, rfl, ⟨by simp⟩, HB0, HBX⟩
        case round =>
          clear HB0 HBX
          obtain ⟨i, hi0, hi1, rfl, HX, HB, HBX⟩ := hrel
          have z3 : wr.cell? ⟨w.heap.size, 3, none⟩ = some (.slice A ts.length c) := (blk_cell HBX.out 3).trans rfl
          by_cases hlt : i < ts.length
          · have hmem := rd_T24_mem ts i hi0 hlt
            have hsz1 : sizeT (rd_T24 ts i) ≤ N := by
              have := size_mem _ hmem
              simp only [sizeT] at hsz
              omega
            obtain ⟨ad, A3, c3, rfl, x0, x1, x2, x3, hl3, hi3⟩ := at_T24 HC.out i hi0 hlt
            have HBW0 := Aside0.mk (below_step HW.out HB.out)
            replace x0 := (HBW0.out.cell (World.block_lt_of_cell? w0 _ x0)).trans x0
            replace x1 := (HBW0.out.cell (World.block_lt_of_cell? w0 _ x1)).trans x1
            replace x2 := (HBW0.out.cell (World.block_lt_of_cell? w0 _ x2)).trans x2
            replace x3 := (HBW0.out.cell (World.block_lt_of_cell? w0 _ x3)).trans x3
            have HDR := Aside0.mk (formedTs_drop ts i n hi0 hlt)
            have HCALL := Aside0.mk (IH.out (rd_T24 ts i) A3 c3 wr hsz1 HBW0.out hi3 hl3)
            clear hmem hi3 hl3 hsz1
            go_wp2_with fail
            clear x0 x1 x2 x3 z3
            refine HCALL.out.mono ?_
            rintro e w2 ⟨rfl, hb⟩
            have HB2 := Aside0.mk (below_step HB.out hb)
            have HBX2 := Aside0.mk (blk_below HBX.out hb)
            clear hb HCALL
            by_cases hr : formedT (rd_T24 ts i) n = true
            · have HX2 : Aside0 (formedTs ts n = formedTs (ts.drop (i + 1).toNat) n) := ⟨by rw [HX.out, HDR.out, hr]; rfl⟩
              clear HX HDR HB HBX
              go_wp2_with fail
              go_roundw
              case rel => exact ⟨i + 1, by omega, by omega, by go_num, HX2, HB2, HBX2⟩
              case measure => simp [intOf]; omega
            · have hr2 : formedT (rd_T24 ts i) n = false := by simpa using hr
              have HX2 : Aside0 (formedTs ts n = false) := ⟨by rw [HX.out, HDR.out, hr2]; rfl⟩
              clear HX HDR HB HBX
              go_wp2_with fail
              go_ret
              exact ⟨by rw [HT.out, HX2.out]; rfl, HB2.out⟩
          · have hi : i = ts.length := by omega
            subst hi
            have HX2 : Aside0 (formedTs ts n = true) := ⟨by rw [HX.out, Int.toNat_natCast, List.drop_length]; rfl⟩
            clear hlt hi0 hi1 HX
            go_wp2_with fail
            go_ret
            exact ⟨by rw [HT.out, HX2.out]; rfl, HB.out⟩
    · have hff : formedF kind v q ts.length n = false := by simpa using hf
      have HT : Aside0 (formedT ⟨kind, v, q, ts⟩ n = false) := ⟨by simp only [formedT]; rw [hff]; rfl⟩
      clear hf HW HC IH hsz
      by_cases h1_ : kind = 1
      · subst h1_
        by_cases hv_ : v = 0
        · subst hv_
          by_cases hp_ : q ≠ 0
          · have hb_ : (q != 0) = true := by simpa using hp_
            clear hff
            go_enter Try.func55, Try.ntmps55
            go_wp2_with fail
            go_ret
            exact ⟨by rw [HT.out]; rfl, HB0.out⟩
          · obtain rfl : q = 0 := by simpa using hp_
            have hp_ : ((ts.length : Int) ≠ 0) := by
              false_or_by_contra
              rename_i hp_
              simp_all [formedF] <;> omega
            have hb_ : ((ts.length : Int) != 0) = true := by simpa using hp_
            clear hff
            go_enter Try.func55, Try.ntmps55
            go_wp2_with fail
            go_ret
            exact ⟨by rw [HT.out]; rfl, HB0.out⟩
        · have hvb_ : (v != 0) = true := by simpa using hv_
          by_cases hv1_ : v = 1
          · subst hv1_
            by_cases hp_ : q ≠ 0
            · have hb_ : (q != 0) = true := by simpa using hp_
              clear hff
              go_enter Try.func55, Try.ntmps55
              go_wp2_with fail
              go_ret
              exact ⟨by rw [HT.out]; rfl, HB0.out⟩
            · obtain rfl : q = 0 := by simpa using hp_
              have hp_ : ((ts.length : Int) ≠ 0) := by
                false_or_by_contra
                rename_i hp_
                simp_all [formedF] <;> omega
              have hb_ : ((ts.length : Int) != 0) = true := by simpa using hp_
              clear hff
              go_enter Try.func55, Try.ntmps55
              go_wp2_with fail
              go_ret
              exact ⟨by rw [HT.out]; rfl, HB0.out⟩
          · have hvb1_ : (v != 1) = true := by simpa using hv1_
            clear hff
            go_enter Try.func55, Try.ntmps55
            go_wp2_with fail
            go_ret
            exact ⟨by rw [HT.out]; rfl, HB0.out⟩
      · have hk1_ := h1_
        by_cases h2_ : kind = 2
        · subst h2_
          by_cases hp_ : v < 1
          · clear hff
            go_enter Try.func55, Try.ntmps55
            go_wp2_with fail
            go_ret
            exact ⟨by rw [HT.out]; rfl, HB0.out⟩
          · have hp1_ := hp_
            by_cases hp_ : n < v
            · clear hff
              go_enter Try.func55, Try.ntmps55
              go_wp2_with fail
              go_ret
              exact ⟨by rw [HT.out]; rfl, HB0.out⟩
            · have hp2_ := hp_
              by_cases hp_ : q ≠ 0
              · have hb_ : (q != 0) = true := by simpa using hp_
                clear hff
                go_enter Try.func55, Try.ntmps55
                go_wp2_with fail
                go_ret
                exact ⟨by rw [HT.out]; rfl, HB0.out⟩
              · obtain rfl : q = 0 := by simpa using hp_
                have hp_ : ((ts.length : Int) ≠ 0) := by
                  false_or_by_contra
                  rename_i hp_
                  simp_all [formedF] <;> omega
                have hb_ : ((ts.length : Int) != 0) = true := by simpa using hp_
                clear hff
                go_enter Try.func55, Try.ntmps55
                go_wp2_with fail
                go_ret
                exact ⟨by rw [HT.out]; rfl, HB0.out⟩
        · have hk2_ := h2_
          by_cases h3_ : kind = 3
          · subst h3_
            by_cases hp_ : v ≠ 0
            · have hb_ : (v != 0) = true := by simpa using hp_
              clear hff
              go_enter Try.func55, Try.ntmps55
              go_wp2_with fail
              go_ret
              exact ⟨by rw [HT.out]; rfl, HB0.out⟩
            · obtain rfl : v = 0 := by simpa using hp_
              by_cases hp_ : q ≠ 0
              · have hb_ : (q != 0) = true := by simpa using hp_
                clear hff
                go_enter Try.func55, Try.ntmps55
                go_wp2_with fail
                go_ret
                exact ⟨by rw [HT.out]; rfl, HB0.out⟩
              · obtain rfl : q = 0 := by simpa using hp_
                have hp_ : ((ts.length : Int) ≠ 1) := by
                  false_or_by_contra
                  rename_i hp_
                  simp_all [formedF] <;> omega
                have hb_ : ((ts.length : Int) != 1) = true := by simpa using hp_
                clear hff
                go_enter Try.func55, Try.ntmps55
                go_wp2_with fail
                go_ret
                exact ⟨by rw [HT.out]; rfl, HB0.out⟩
          · have hk3_ := h3_
            by_cases h4_ : kind = 4
            · subst h4_
              by_cases hp_ : v ≠ 0
              · have hb_ : (v != 0) = true := by simpa using hp_
                clear hff
                go_enter Try.func55, Try.ntmps55
                go_wp2_with fail
                go_ret
                exact ⟨by rw [HT.out]; rfl, HB0.out⟩
              · obtain rfl : v = 0 := by simpa using hp_
                have hp_ : q ≠ 0 := by
                  false_or_by_contra
                  rename_i hp_
                  simp_all [formedF] <;> omega
                have hb_ : (q != 0) = true := by simpa using hp_
                clear hff
                go_enter Try.func55, Try.ntmps55
                go_wp2_with fail
                go_ret
                exact ⟨by rw [HT.out]; rfl, HB0.out⟩
            · have hk4_ := h4_
              by_cases h5_ : kind = 5
              · subst h5_
                by_cases hp_ : v ≠ 0
                · have hb_ : (v != 0) = true := by simpa using hp_
                  clear hff
                  go_enter Try.func55, Try.ntmps55
                  go_wp2_with fail
                  go_ret
                  exact ⟨by rw [HT.out]; rfl, HB0.out⟩
                · obtain rfl : v = 0 := by simpa using hp_
                  have hp_ : q ≠ 0 := by
                    false_or_by_contra
                    rename_i hp_
                    simp_all [formedF] <;> omega
                  have hb_ : (q != 0) = true := by simpa using hp_
                  clear hff
                  go_enter Try.func55, Try.ntmps55
                  go_wp2_with fail
                  go_ret
                  exact ⟨by rw [HT.out]; rfl, HB0.out⟩
              · have hk5_ := h5_
                by_cases h6_ : kind = 6
                · subst h6_
                  by_cases hp_ : v ≠ 0
                  · have hb_ : (v != 0) = true := by simpa using hp_
                    clear hff
                    go_enter Try.func55, Try.ntmps55
                    go_wp2_with fail
                    go_ret
                    exact ⟨by rw [HT.out]; rfl, HB0.out⟩
                  · obtain rfl : v = 0 := by simpa using hp_
                    by_cases hp_ : q < 0
                    · clear hff
                      go_enter Try.func55, Try.ntmps55
                      go_wp2_with fail
                      go_ret
                      exact ⟨by rw [HT.out]; rfl, HB0.out⟩
                    · have hp1_ := hp_
                      have hp_ : 1099511627776 < q := by
                        false_or_by_contra
                        rename_i hp_
                        simp_all [formedF] <;> omega
                      clear hff
                      go_enter Try.func55, Try.ntmps55
                      go_wp2_with fail
                      go_ret
                      exact ⟨by rw [HT.out]; rfl, HB0.out⟩
                · have hk6_ := h6_
                  clear hff
                  have hb1_ : (kind == 1) = false := by simpa using h1_
                  have hb2_ : (kind == 2) = false := by simpa using h2_
                  have hb3_ : (kind == 3) = false := by simpa using h3_
                  have hb4_ : (kind == 4) = false := by simpa using h4_
                  have hb5_ : (kind == 5) = false := by simpa using h5_
                  have hb6_ : (kind == 6) = false := by simpa using h6_
                  go_enter Try.func55, Try.ntmps55
                  go_wp2_with fail
                  go_ret
                  exact ⟨by rw [HT.out]; rfl, HB0.out⟩
end Go.Proofs.Ytkcmkoolcakfjaa.P

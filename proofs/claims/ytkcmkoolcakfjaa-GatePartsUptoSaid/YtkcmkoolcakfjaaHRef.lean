/- The reference's Check and Gates. -/
import Derived.Test.YtkcmkoolcakfjaaHRefLit
namespace Go.Proofs.Ytkcmkoolcakfjaa.P
open Go.RowKit Go.Proofs.YtkcmkoolcakfjaaW.PrintWords Go.Proofs.YtkcmkoolcakfjaaW.PrintLast Go.Proofs.YtkcmkoolcakfjaaW.PrintMore Go.Proofs.Ytkcmkoolcakfjaa.Aid
set_option linter.unusedVariables false
set_option linter.unusedSimpArgs false

set_option maxRecDepth 100000 in
set_option maxHeartbeats 2000000 in
theorem Check11.calls (T : S24) (A : Option Addr) (c : Nat) (n : Int) (w : World) (hC : Kd.C k24 w A T.f3.length T.f3) (hc : T.f3.length ≤ c) (hsz : sizeT T ≤ 1048576) :
    Calls Try.prog 30 #[.agg #[.int .i64 T.f0, .int .i64 T.f1, .int .i64 T.f2, .slice A T.f3.length c], .int .i64 n] w fun e w' => e = .returned (.int .i64 (checkF T n)) ∧ Below w.heap.size w w' := by
  have hb0 := below_alloc (Below.refl w.heap.size w) (.cells #[.int .i64 T.f0, .int .i64 T.f1, .int .i64 T.f2, .slice A T.f3.length c] 24)
  have HMAY := Aside0.mk (may.calls n w 1048576 (Nat.le_refl _) T A c (w.alloc (.cells #[.int .i64 T.f0, .int .i64 T.f1, .int .i64 T.f2, .slice A T.f3.length c] 24)) hsz hb0 hC hc)
  obtain ⟨K, hK⟩ := Size_tells 1048576 (Nat.le_refl _) T.f0 T.f1 T.f2 T.f3 (by rw [eta24]; exact hsz)
  rw [eta24] at hK
  have hbx := blk_new w (.cells #[.int .i64 T.f0, .int .i64 T.f1, .int .i64 T.f2, .slice A T.f3.length c] 24)
  have HB0 := Aside0.mk hb0
  have HBX := Aside0.mk hbx
  have HC := Aside0.mk hC
  have HK := Aside0.mk hK
  clear hb0 hbx hC hK
  by_cases h1 : n < 0
  · have HE : Aside0 (checkF T n = 1) := ⟨by unfold checkF; rw [if_pos h1]⟩
    clear HMAY HC HK
    go_enter Try.func30, Try.ntmps30
    go_wp2_with fail
    go_ret
    exact ⟨by rw [HE.out]; rfl, HB0.out⟩
  · by_cases h2 : 65536 < n
    · have HE : Aside0 (checkF T n = 1) := ⟨by unfold checkF; rw [if_neg h1, if_pos h2]⟩
      clear HMAY HC HK
      go_enter Try.func30, Try.ntmps30
      go_wp2_with fail
      go_ret
      exact ⟨by rw [HE.out]; rfl, HB0.out⟩
    · have HE : Aside0 (checkF T n = if formedT T n = false then 1 else if 65536 < sizeT T then 2 else 0) := ⟨by unfold checkF; rw [if_neg h1, if_neg h2]⟩
      obtain ⟨b, hbf⟩ : ∃ b, formedT T n = b := ⟨_, rfl⟩
      rw [hbf] at HMAY HE
      clear hbf
      cases b
      · replace HE : Aside0 (checkF T n = 1) := ⟨by rw [HE.out]; rfl⟩
        clear HC HK
        go_enter Try.func30, Try.ntmps30
        go_wp2_with (go_at_call 55; refine HMAY.out.mono ?_; rintro e w2 ⟨rfl, hb⟩; have HB2 := Aside0.mk (below_step HB0.out hb); clear hb)
        go_ret
        exact ⟨by rw [HE.out]; rfl, HB2.out⟩
      · replace HE : Aside0 (checkF T n = if 65536 < sizeT T then 2 else 0) := ⟨by rw [HE.out]; rfl⟩
        obtain ⟨sz, hsz2⟩ : ∃ sz, sizeT T = sz := ⟨_, rfl⟩
        rw [hsz2] at HK HE
        clear hsz2 hsz
        by_cases h3 : 65536 < sz
        · rw [if_pos h3] at HE
          have h3' : (65536 : Int) < sz := by omega
          clear h3
          go_enter Try.func30, Try.ntmps30
          go_wp2_with (first | (go_at_call 55; refine HMAY.out.mono ?_; rintro e w2 ⟨rfl, hb⟩; have HB2 := Aside0.mk (below_step HB0.out hb); have hbx2 := blk_below HBX.out hb; have y0 : w2.cell? ⟨w.heap.size, 0, none⟩ = some (.int .i64 T.f0) := (blk_cell hbx2 0).trans rfl; have y1 : w2.cell? ⟨w.heap.size, 1, none⟩ = some (.int .i64 T.f1) := (blk_cell hbx2 1).trans rfl; have y2 : w2.cell? ⟨w.heap.size, 2, none⟩ = some (.int .i64 T.f2) := (blk_cell hbx2 2).trans rfl; have y3 : w2.cell? ⟨w.heap.size, 3, none⟩ = some (.slice A T.f3.length c) := (blk_cell hbx2 3).trans rfl; clear hb hbx2) | (go_at_call 11; refine (chalklineref11_Size.calls K T.f0 T.f1 T.f2 A c T.f3 sz _ (Kd.C_below HC.out HB2.out) hc HK.out).mono ?_; rintro e w3 ⟨rfl, hb⟩; have HB3 := Aside0.mk (below_step HB2.out hb); clear hb))
          go_ret
          exact ⟨by rw [HE.out]; rfl, HB3.out⟩
        · rw [if_neg h3] at HE
          have h3' : ¬ (65536 : Int) < sz := by omega
          clear h3
          go_enter Try.func30, Try.ntmps30
          go_wp2_with (first | (go_at_call 55; refine HMAY.out.mono ?_; rintro e w2 ⟨rfl, hb⟩; have HB2 := Aside0.mk (below_step HB0.out hb); have hbx2 := blk_below HBX.out hb; have y0 : w2.cell? ⟨w.heap.size, 0, none⟩ = some (.int .i64 T.f0) := (blk_cell hbx2 0).trans rfl; have y1 : w2.cell? ⟨w.heap.size, 1, none⟩ = some (.int .i64 T.f1) := (blk_cell hbx2 1).trans rfl; have y2 : w2.cell? ⟨w.heap.size, 2, none⟩ = some (.int .i64 T.f2) := (blk_cell hbx2 2).trans rfl; have y3 : w2.cell? ⟨w.heap.size, 3, none⟩ = some (.slice A T.f3.length c) := (blk_cell hbx2 3).trans rfl; clear hb hbx2) | (go_at_call 11; refine (chalklineref11_Size.calls K T.f0 T.f1 T.f2 A c T.f3 sz _ (Kd.C_below HC.out HB2.out) hc HK.out).mono ?_; rintro e w3 ⟨rfl, hb⟩; have HB3 := Aside0.mk (below_step HB2.out hb); clear hb))
          go_ret
          exact ⟨by rw [HE.out]; rfl, HB3.out⟩

/-- What the reference's Gates answers. -/
def refF (T : S24) (next : Int) : Int × List S40 × Int × Int :=
  if next < 1 then (0, [], 0, 1) else if 65537 < next then (0, [], 0, 1) else if checkF T (next - 1) ≠ 0 then (0, [], 0, checkF T (next - 1)) else if wideT T = true then (0, [], 0, 2) else
  if 65537 < (litF T next).2.2 then (0, [], 0, 2) else ((litF T next).1, (litF T next).2.1, (litF T next).2.2, 0)
theorem refF_made (T : S24) (next : Int) : refF T next = ((madeF [T] next).1.headD 0, (madeF [T] next).2.1, (madeF [T] next).2.2.1, (madeF [T] next).2.2.2) := by
  unfold refF madeF
  by_cases h1 : next < 1
  · simp [h1]
  · by_cases h2 : 65537 < next
    · simp [h1, h2]
    · rw [if_neg h1, if_neg h1, if_neg h2, if_neg h2]
      by_cases h3 : checkF T (next - 1) = 0
      · by_cases h4 : wideT T = true
        · simp [madeE, h3, h4]
        · by_cases h5 : 65537 < (litF T next).2.2
          · simp [madeE, h3, h4, h5]
          · simp [madeE, h3, h4, h5, litsF]
      · simp [madeE, h3]

set_option maxRecDepth 100000 in
set_option maxHeartbeats 4000000 in
theorem rGates.calls (T : S24) (A : Option Addr) (c : Nat) (next : Int) (w : World) (hC : Kd.C k24 w A T.f3.length T.f3) (hc : T.f3.length ≤ c) (hsz : sizeT T ≤ 1048576) :
    Calls Try.prog 13 #[.agg #[.int .i64 T.f0, .int .i64 T.f1, .int .i64 T.f2, .slice A T.f3.length c], .int .i64 next] w fun e w' => ∃ vl, e = .returned (.tuple #[.int .i64 (refF T next).1, vl, .int .i64 (refF T next).2.2.1, .int .i64 (refF T next).2.2.2]) ∧
      Kd.N k40 40 w' w.heap.size (fun q => w.heap.size ≤ q) vl (refF T next).2.1 ∧ Below w.heap.size w w' := by
  have hb0 := below_alloc (Below.refl w.heap.size w) (.cells #[.int .i64 T.f0, .int .i64 T.f1, .int .i64 T.f2, .slice A T.f3.length c] 24)
  have hbx := blk_new w (.cells #[.int .i64 T.f0, .int .i64 T.f1, .int .i64 T.f2, .slice A T.f3.length c] 24)
  have HB0 := Aside0.mk hb0
  have HBX := Aside0.mk hbx
  have HC := Aside0.mk hC
  have HSZ := Aside0.mk hsz
  clear hb0 hbx hC hsz
  by_cases h1 : next < 1
  · have HE : Aside0 (refF T next = (0, [], 0, 1)) := ⟨by unfold refF; rw [if_pos h1]⟩
    clear HC HSZ
    go_enter Try.func13, Try.ntmps13
    go_wp2_with fail
    refine bodyPost_ret (results4 rfl _ _ _) rfl ?_
    rw [HE.out]
    exact ⟨_, rfl, Kd.N_nil _ _ _ _ _, HB0.out⟩
  · by_cases h2 : 65537 < next
    · have HE : Aside0 (refF T next = (0, [], 0, 1)) := ⟨by unfold refF; rw [if_neg h1, if_pos h2]⟩
      clear HC HSZ
      go_enter Try.func13, Try.ntmps13
      go_wp2_with fail
      refine bodyPost_ret (results4 rfl _ _ _) rfl ?_
      rw [HE.out]
      exact ⟨_, rfl, Kd.N_nil _ _ _ _ _, HB0.out⟩
    · have HE : Aside0 (refF T next = if checkF T (next - 1) ≠ 0 then (0, [], 0, checkF T (next - 1)) else if wideT T = true then (0, [], 0, 2) else if 65537 < (litF T next).2.2 then (0, [], 0, 2) else ((litF T next).1, (litF T next).2.1, (litF T next).2.2, 0)) := ⟨by unfold refF; rw [if_neg h1, if_neg h2]⟩
      have HCH := Aside0.mk (Check11.calls T A c (next - 1) (w.alloc (.cells #[.int .i64 T.f0, .int .i64 T.f1, .int .i64 T.f2, .slice A T.f3.length c] 24)) (Kd.C_below HC.out HB0.out) hc HSZ.out)
      obtain ⟨ce, hce⟩ : ∃ ce, checkF T (next - 1) = ce := ⟨_, rfl⟩
      rw [hce] at HE HCH
      by_cases h3 : ce = 0
      · subst h3
        have HFT := Aside0.mk (checkF_zero hce)
        clear hce
        replace HE : Aside0 (refF T next = if wideT T = true then (0, [], 0, 2) else if 65537 < (litF T next).2.2 then (0, [], 0, 2) else ((litF T next).1, (litF T next).2.1, (litF T next).2.2, 0)) := ⟨by rw [HE.out]; simp⟩
        obtain ⟨K, hK⟩ := broad_tells 1048576 (Nat.le_refl _) T.f0 T.f1 T.f2 T.f3 (by rw [eta24]; exact HSZ.out)
        rw [eta24] at hK
        have HK := Aside0.mk hK
        clear hK
        obtain ⟨wd, hwd⟩ : ∃ wd, wideT T = wd := ⟨_, rfl⟩
        rw [hwd] at HE HK
        cases wd
        · replace HE : Aside0 (refF T next = if 65537 < (litF T next).2.2 then (0, [], 0, 2) else ((litF T next).1, (litF T next).2.1, (litF T next).2.2, 0)) := ⟨by rw [HE.out]; simp⟩
          have HWD := Aside0.mk hwd
          clear hwd
          go_enter Try.func13, Try.ntmps13
          go_wp2_with (first | (go_at_call 30; refine HCH.out.mono ?_; rintro e w2 ⟨rfl, hb⟩; have HB2 := Aside0.mk (below_step HB0.out hb); have hbx2 := Aside0.mk (blk_below HBX.out hb); have y0 : w2.cell? ⟨w.heap.size, 0, none⟩ = some (.int .i64 T.f0) := (blk_cell hbx2.out 0).trans rfl; have y1 : w2.cell? ⟨w.heap.size, 1, none⟩ = some (.int .i64 T.f1) := (blk_cell hbx2.out 1).trans rfl; have y2 : w2.cell? ⟨w.heap.size, 2, none⟩ = some (.int .i64 T.f2) := (blk_cell hbx2.out 2).trans rfl; have y3 : w2.cell? ⟨w.heap.size, 3, none⟩ = some (.slice A T.f3.length c) := (blk_cell hbx2.out 3).trans rfl; clear hb HCH) | (go_at_call 31; refine (chalklineref13_broad.calls K T.f0 T.f1 T.f2 A c T.f3 false _ (Kd.C_below HC.out HB2.out) hc HK.out).mono ?_; rintro e w3 ⟨rfl, hb⟩; have HB3 := Aside0.mk (below_step HB2.out hb); have hbx3 := Aside0.mk (blk_below hbx2.out hb); clear y0 y1 y2 y3; have y0 : (w3.alloc (.cells #[.slice none 0 0, .int .i64 next] 62)).cell? ⟨w.heap.size, 0, none⟩ = some (.int .i64 T.f0) := (blk_cell (blk_alloc hbx3.out _) 0).trans rfl; have y1 : (w3.alloc (.cells #[.slice none 0 0, .int .i64 next] 62)).cell? ⟨w.heap.size, 1, none⟩ = some (.int .i64 T.f1) := (blk_cell (blk_alloc hbx3.out _) 1).trans rfl; have y2 : (w3.alloc (.cells #[.slice none 0 0, .int .i64 next] 62)).cell? ⟨w.heap.size, 2, none⟩ = some (.int .i64 T.f2) := (blk_cell (blk_alloc hbx3.out _) 2).trans rfl; have y3 : (w3.alloc (.cells #[.slice none 0 0, .int .i64 next] 62)).cell? ⟨w.heap.size, 3, none⟩ = some (.slice A T.f3.length c) := (blk_cell (blk_alloc hbx3.out _) 3).trans rfl; clear hb HK) | (go_at_call 32; refine (rlit.calls (next - 1) (by omega) w w.heap.size w3.heap.size (Nat.le_refl _) HB3.out.size 1048576 T (fun _ => False) (.slice none 0 0) [] next A c _ HSZ.out (below_step HB3.out (below_alloc (Below.refl _ _) _)) HC.out hc HFT.out HWD.out (blk_new _ _) (Kd.N_nil _ _ _ _ _) (fun _ h => h.elim) (by omega) (by have := HSZ.out; omega) (by simp; omega)).mono ?_; rintro e w4 ⟨rfl, vl, hp⟩; have HP := Aside0.mk hp; obtain ⟨nx, hnx⟩ : ∃ nx, (litF T next).2.2 = nx := ⟨_, rfl⟩; obtain ⟨x, hx⟩ : ∃ x, (litF T next).1 = x := ⟨_, rfl⟩; rw [hnx] at HP HE; rw [hx] at HE ⊢; obtain ⟨Av, cv, ev⟩ := Kd.N_slice HP.out.row; obtain ⟨nv, hnv⟩ : ∃ m, m = ([] ++ (litF T next).2.1).length := ⟨_, rfl⟩; rw [← hnv] at ev; clear hnv; subst ev; have y1 : w4.cell? ⟨w3.heap.size, 1, none⟩ = some (.int .i64 nx) := (blk_cell HP.out.blk 1).trans rfl; clear hp hnx hx))
          · have hbig : 65537 < nx := by omega
            refine bodyPost_ret (results4 rfl _ _ _) rfl ?_
            rw [HE.out, if_pos hbig]
            exact ⟨_, rfl, Kd.N_nil _ _ _ _ _, (below_step HB3.out (below_alloc (Below.refl _ _) _)).trans HP.out.below⟩
          · have hbig : ¬ 65537 < nx := by omega
            rw [if_neg hbig] at HE
            obtain ⟨l1, hl1⟩ : ∃ l1, (litF T next).2.1 = l1 := ⟨_, rfl⟩
            rw [hl1] at HP HE
            clear hl1 y0 y2 y3
            have xG := HP.out.blk
            have HN1 := Aside0.mk (Kd.N_below HP.out.row (below_drew (Below.refl w4.heap.size w4)))
            have HB1 := Aside0.mk (below_step ((below_step HB3.out (below_alloc (Below.refl w3.heap.size w3) (.cells #[.slice none 0 0, .int .i64 next] 62))).trans HP.out.below) (below_drew (Below.refl w4.heap.size w4)))
            have HZ3 := Aside0.mk HB3.out.size
            clear y1 HP
            generalize hG : w3.heap.size = G at xG
            refine start_ (n := 13) (S := fun V => V.heap[G]? = some (.cells #[.slice Av nv cv, .int .i64 nx] 62 (0, 0))) (ds := []) #[false, false, false, false, false, false, false, false, false, false, false, false, false] (by kernel_rfl) rfl rfl xG (fun hHeld => ?_)
            refine pure_ (i := 0) (N := some 37) (v := ?_) (a' := ?_) #[true, false, false, false, false, false, false, false, false, false, false, false, false] rfl rfl (by kernel_rfl) (fun _ _ _ h => h) (Or.inl ⟨by rfl, ?_⟩) ?_ ?_
            rotate_left
            · intro w'
              go_simp
              with_reducible rfl
            rotate_left
            · simp only [Act.put, List.setIfInBounds_toArray, List.set_cons_zero, List.set_cons_succ, i64_w, i32_w]
              rfl
            refine pure_ (i := 1) (N := some 38) (v := ?_) (a' := ?_) #[true, true, false, false, false, false, false, false, false, false, false, false, false] rfl rfl (by kernel_rfl) (fun _ _ _ h => h) (Or.inl ⟨by rfl, ?_⟩) ?_ ?_
            rotate_left
            · intro w'
              go_simp
              with_reducible rfl
            rotate_left
            · simp only [Act.put, List.setIfInBounds_toArray, List.set_cons_zero, List.set_cons_succ, i64_w, i32_w]
              rfl
            refine pure_ (i := 2) (N := some 39) (v := ?_) (a' := ?_) #[true, true, true, false, false, false, false, false, false, false, false, false, false] rfl rfl (by kernel_rfl) (fun _ _ _ h => h) (Or.inl ⟨by rfl, ?_⟩) ?_ ?_
            rotate_left
            · intro w'
              go_simp
              with_reducible rfl
            rotate_left
            · simp only [Act.put, List.setIfInBounds_toArray, List.set_cons_zero, List.set_cons_succ, i64_w, i32_w]
              rfl
            refine pure_ (i := 3) (N := some 40) (v := ?_) (a' := ?_) #[true, true, true, true, false, false, false, false, false, false, false, false, false] rfl rfl (by kernel_rfl) (fun _ _ _ h => h) (Or.inl ⟨by rfl, ?_⟩) ?_ ?_
            rotate_left
            · intro w'
              go_simp
              with_reducible rfl
            rotate_left
            · simp only [Act.put, List.setIfInBounds_toArray, List.set_cons_zero, List.set_cons_succ, i64_w, i32_w]
              rfl
            refine pure_ (i := 5) (N := some 42) (v := ?_) (a' := ?_) #[true, true, true, true, false, true, false, false, false, false, false, false, false] rfl rfl (by kernel_rfl) (fun _ _ _ h => h) (Or.inl ⟨by rfl, ?_⟩) ?_ ?_
            rotate_left
            · intro w'
              go_simp
              with_reducible rfl
            rotate_left
            · simp only [Act.put, List.setIfInBounds_toArray, List.set_cons_zero, List.set_cons_succ, i64_w, i32_w]
              rfl
            refine pure_ (i := 6) (N := some 43) (v := ?_) (a' := ?_) #[true, true, true, true, false, true, true, false, false, false, false, false, false] rfl rfl (by kernel_rfl) (fun _ _ _ h => h) (Or.inl ⟨by rfl, ?_⟩) ?_ ?_
            rotate_left
            · intro w'
              go_simp
              with_reducible rfl
            rotate_left
            · simp only [Act.put, List.setIfInBounds_toArray, List.set_cons_zero, List.set_cons_succ, i64_w, i32_w]
              rfl
            refine pure_ (i := 7) (N := some 44) (v := ?_) (a' := ?_) #[true, true, true, true, false, true, true, true, false, false, false, false, false] rfl rfl (by kernel_rfl) (fun _ _ _ h => h) (Or.inl ⟨by rfl, ?_⟩) ?_ ?_
            rotate_left
            · intro w'
              go_simp
              with_reducible rfl
            rotate_left
            · simp only [Act.put, List.setIfInBounds_toArray, List.set_cons_zero, List.set_cons_succ, i64_w, i32_w]
              rfl
            refine take_ (i := 4) (N := some 41) (v := ?_) (a' := ?_) #[true, true, true, true, true, true, true, true, false, false, false, false, false] rfl rfl (by kernel_rfl) (fun _ _ _ h => h) (Or.inl ⟨by rfl, ?_⟩) hHeld ?_ ?_
            rotate_left
            · rintro w' hw0
              have hc0 := blk_cell hw0 0
              go_simp
              with_reducible rfl
            rotate_left
            · simp only [Act.put, List.setIfInBounds_toArray, List.set_cons_zero, List.set_cons_succ, i64_w, i32_w]
              rfl
            refine take_ (i := 8) (N := some 45) (v := ?_) (a' := ?_) #[true, true, true, true, true, true, true, true, true, false, false, false, false] rfl rfl (by kernel_rfl) (fun _ _ _ h => h) (Or.inl ⟨by rfl, ?_⟩) hHeld ?_ ?_
            rotate_left
            · rintro w' hw0
              have hc0 := blk_cell hw0 1
              go_simp
              with_reducible rfl
            rotate_left
            · simp only [Act.put, List.setIfInBounds_toArray, List.set_cons_zero, List.set_cons_succ, i64_w, i32_w]
              rfl
            refine pure_ (i := 9) (N := some 4) (v := ?_) (a' := ?_) #[true, true, true, true, true, true, true, true, true, true, false, false, false] rfl rfl (by kernel_rfl) (fun _ _ _ h => h) (Or.inl ⟨by rfl, ?_⟩) ?_ ?_
            rotate_left
            · intro w'
              go_simp
              with_reducible rfl
            rotate_left
            · simp only [Act.put, List.setIfInBounds_toArray, List.set_cons_zero, List.set_cons_succ, i64_w, i32_w]
              rfl
            refine pure_ (i := 10) (N := some 5) (v := ?_) (a' := ?_) #[true, true, true, true, true, true, true, true, true, true, true, false, false] rfl rfl (by kernel_rfl) (fun _ _ _ h => h) (Or.inl ⟨by rfl, ?_⟩) ?_ ?_
            rotate_left
            · intro w'
              go_simp
              with_reducible rfl
            rotate_left
            · simp only [Act.put, List.setIfInBounds_toArray, List.set_cons_zero, List.set_cons_succ, i64_w, i32_w]
              rfl
            refine pure_ (i := 11) (N := some 6) (v := ?_) (a' := ?_) #[true, true, true, true, true, true, true, true, true, true, true, true, false] rfl rfl (by kernel_rfl) (fun _ _ _ h => h) (Or.inl ⟨by rfl, ?_⟩) ?_ ?_
            rotate_left
            · intro w'
              go_simp
              with_reducible rfl
            rotate_left
            · simp only [Act.put, List.setIfInBounds_toArray, List.set_cons_zero, List.set_cons_succ, i64_w, i32_w]
              rfl
            refine pure_ (i := 12) (N := some 7) (v := ?_) (a' := ?_) #[true, true, true, true, true, true, true, true, true, true, true, true, true] rfl rfl (by kernel_rfl) (fun _ _ _ h => h) (Or.inl ⟨by rfl, ?_⟩) ?_ ?_
            rotate_left
            · intro w'
              go_simp
              with_reducible rfl
            rotate_left
            · simp only [Act.put, List.setIfInBounds_toArray, List.set_cons_zero, List.set_cons_succ, i64_w, i32_w]
              rfl
            refine done_ (by kernel_rfl) ?_
            go_wp2_with fail
            refine bodyPost_ret (results4 rfl _ _ _) rfl ?_
            rw [HE.out]
            exact ⟨_, rfl, Kd.N_mono HN1.out (fun k hk => by
              rcases hk with hk | hk
              · exact hk.elim
              · rw [World.size_alloc] at hk
                have := HZ3.out
                omega), HB1.out⟩
        · replace HE : Aside0 (refF T next = (0, [], 0, 2)) := ⟨by rw [HE.out]; simp⟩
          clear hwd HFT
          go_enter Try.func13, Try.ntmps13
          go_wp2_with (first | (go_at_call 30; refine HCH.out.mono ?_; rintro e w2 ⟨rfl, hb⟩; have HB2 := Aside0.mk (below_step HB0.out hb); have hbx2 := blk_below HBX.out hb; have y0 : w2.cell? ⟨w.heap.size, 0, none⟩ = some (.int .i64 T.f0) := (blk_cell hbx2 0).trans rfl; have y1 : w2.cell? ⟨w.heap.size, 1, none⟩ = some (.int .i64 T.f1) := (blk_cell hbx2 1).trans rfl; have y2 : w2.cell? ⟨w.heap.size, 2, none⟩ = some (.int .i64 T.f2) := (blk_cell hbx2 2).trans rfl; have y3 : w2.cell? ⟨w.heap.size, 3, none⟩ = some (.slice A T.f3.length c) := (blk_cell hbx2 3).trans rfl; clear hb hbx2 HCH) | (go_at_call 31; refine (chalklineref13_broad.calls K T.f0 T.f1 T.f2 A c T.f3 true _ (Kd.C_below HC.out HB2.out) hc HK.out).mono ?_; rintro e w3 ⟨rfl, hb⟩; have HB3 := Aside0.mk (below_step HB2.out hb); clear hb HK))
          refine bodyPost_ret (results4 rfl _ _ _) rfl ?_
          rw [HE.out]
          exact ⟨_, rfl, Kd.N_nil _ _ _ _ _, HB3.out⟩
      · replace HE : Aside0 (refF T next = (0, [], 0, ce)) := ⟨by rw [HE.out]; simp [h3]⟩
        have h3b : (ce != 0) = true := by simpa using h3
        clear HC HSZ hce
        go_enter Try.func13, Try.ntmps13
        go_wp2_with (go_at_call 30; refine HCH.out.mono ?_; rintro e w2 ⟨rfl, hb⟩; have HB2 := Aside0.mk (below_step HB0.out hb); clear hb)
        refine bodyPost_ret (results4 rfl _ _ _) rfl ?_
        rw [HE.out]
        exact ⟨_, rfl, Kd.N_nil _ _ _ _ _, HB2.out⟩

/-- In the form that printed callers ask for. -/
def chalklineref13_Gates.f (kind v q : Int) (l : List S24) (next : Int) : Option (Int × List S40 × Int × Int) := if sizeT ⟨kind, v, q, l⟩ ≤ 1048576 then some (refF ⟨kind, v, q, l⟩ next) else none
theorem chalklineref13_Gates.calls (kind v q : Int) (A : Option Addr) (c : Nat) (l : List S24) (next : Int) (r1 : Int) (r2 : List S40) (r3 r4 : Int) (w : World) (hC : Kd.C k24 w A l.length l) (hc : l.length ≤ c) (h : chalklineref13_Gates.f kind v q l next = some (r1, r2, r3, r4)) :
    Calls Try.prog 13 #[.agg #[.int .i64 kind, .int .i64 v, .int .i64 q, .slice A l.length c], .int .i64 next] w fun e w' => ∃ v1, e = .returned (.tuple #[.int .i64 r1, v1, .int .i64 r3, .int .i64 r4]) ∧ Kd.N k40 40 w' w.heap.size (fun k_ => w.heap.size ≤ k_) v1 r2 ∧ Below w.heap.size w w' := by
  unfold chalklineref13_Gates.f at h
  by_cases hs : sizeT ⟨kind, v, q, l⟩ ≤ 1048576
  · rw [if_pos hs] at h
    have h := Option.some.inj h
    have hh := rGates.calls ⟨kind, v, q, l⟩ A c next w hC hc hs
    rw [h] at hh
    exact hh
  · rw [if_neg hs] at h
    cases h
end Go.Proofs.Ytkcmkoolcakfjaa.P

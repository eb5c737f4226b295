/- lin.of, lin.fold over whole numbers, and lin.Value: does a constraint hold under an assignment? -/
import Derived.Test.YtkcmkoolcakfjaaHLin
/- lin.of and lin.fold over whole numbers, for whatever function value that has a contract. -/
namespace Go.Proofs.Ytkcmkoolcakfjaa.P
open Go.RowKit Go.Proofs.YtkcmkoolcakfjaaW.PrintWords Go.Proofs.YtkcmkoolcakfjaaW.PrintLast Go.Proofs.YtkcmkoolcakfjaaW.PrintMore Go.Proofs.Ytkcmkoolcakfjaa.Aid
attribute [local go_sem] max2_int min2_int max_two min_two
set_option linter.unusedVariables false
set_option linter.unusedSimpArgs false

/-- The variable of a literal. -/
def absF (x : Int) : Int := if 0 ≤ x then x else -x
theorem of.calls (x : Int) (w : World) (h0 : -65536 ≤ x) (h1 : x ≤ 65536) : Calls Try.prog 45 #[.int .i64 x] w fun e w' => e = .returned (.int .i64 (absF x)) ∧ w = w' := by
  by_cases h : 0 ≤ x
  · have HA : Aside0 (absF x = x) := ⟨if_pos h⟩
    have hlt : decide (x < -x) = false := decide_eq_false (by omega)
    have hlt2 : ¬ x < -x := by omega
    go_enter Try.func45, Try.ntmps45
    go_wp2_with fail
    go_ret
    exact ⟨by rw [HA.out]; first | rfl | simp [hlt2], rfl⟩
  · have HA : Aside0 (absF x = -x) := ⟨if_neg h⟩
    have hlt : decide (x < -x) = true := decide_eq_true (by omega)
    have hlt2 : x < -x := by omega
    go_enter Try.func45, Try.ntmps45
    go_wp2_with fail
    go_ret
    exact ⟨by rw [HA.out]; first | rfl | simp [hlt2], rfl⟩

/-- The first i terms folded. -/
def foldF (g : Int → Int → Int → Int) (cs ls : List Int) (first : Int) : Nat → Int
  | 0 => first
  | i + 1 => g (foldF g cs ls first i) (rd cs i) (rd ls i)

set_option maxRecDepth 100000 in
set_option maxHeartbeats 1000000 in
theorem fold_int.calls (fid : Nat) (cap : Array Value) (g : Int → Int → Int → Int) (A0 : Option Addr) (c0 : Nat) (cs : List Int) (A1 : Option Addr) (c1 : Nat) (ls : List Int) (least first : Int) (w0 w : World) (hW : Below w0.heap.size w0 w) (hC0 : Kd.C (Kd.int .i64) w0 A0 cs.length cs) (hC1 : Kd.C (Kd.int .i64) w0 A1 ls.length ls) (hl : cs.length = ls.length) (hl1 : ls.length ≤ 1099511627776)
    (hent : ∀ args w, (callFunc fid args).run Try.prog w = .ok (.enter fid args) w)
    (hp : ∀ (i : Nat) (_ : i < ls.length) (W : World), Below w.heap.size w W → Calls Try.prog fid (#[.int .i64 (foldF g cs ls first i), .int .i64 (rd cs i), .int .i64 (rd ls i)] ++ cap) W fun e w' => e = .returned (.int .i64 (foldF g cs ls first (i + 1))) ∧ Below W.heap.size W w') :
    Calls Try.prog 47 #[.agg #[.slice A0 cs.length c0, .slice A1 ls.length c1, .int .i64 least], .int .i64 first, .func (.func fid) #[] cap] w fun e w' => e = .returned (.int .i64 (foldF g cs ls first ls.length)) ∧ Below w.heap.size w w' := by
  have HW := Aside0.mk hW
  have HC0 := Aside0.mk hC0
  have HC1 := Aside0.mk hC1
  have HENT := Aside0.mk hent
  have HP := Aside0.mk hp
  have HL := Aside0.mk hl
  have hb0 := below_alloc (Below.refl w.heap.size w) (.cells #[.slice A0 cs.length c0, .slice A1 ls.length c1, .int .i64 least] 40)
  have hx0 := blk_new w (.cells #[.slice A0 cs.length c0, .slice A1 ls.length c1, .int .i64 least] 40)
  have HB0 := Aside0.mk hb0
  have HX0 := Aside0.mk hx0
  clear hW hC0 hC1 hent hp hl hb0 hx0
  go_enter Try.func47, Try.ntmps47
  go_wp2_with fail
  go_loopw [1, 12] (fun v1 v12 wr => ∃ i : Nat, i ≤ ls.length ∧ v12 = .int .i64 i ∧ v1 = .int .i64 (foldF g cs ls first i) ∧ Aside0 (Below w.heap.size w wr) ∧ Aside0 (wr.heap[w.heap.size]? = some (.cells #[.slice A0 cs.length c0, .slice A1 ls.length c1, .int .i64 least] 40 (0, 0)))) (fun _ v12 _ => (ls.length - intOf v12).toNat)
  case atStart => exact ⟨0, by omega, rfl, rfl, HB0, HX0⟩
  case round =>
    obtain ⟨i, hi1, rfl, rfl, HB, HX⟩ := hrel
    by_cases hlt : i < ls.length
    · obtain ⟨ad, rfl, x0⟩ := Kd.at_int HC1.out i (by omega) (by omega)
      obtain ⟨ad0, rfl, x1⟩ := Kd.at_int HC0.out i (by omega) (by have := HL.out; omega)
      have HBW := Aside0.mk (below_step HW.out HB.out)
      replace x0 := (HBW.out.cell (World.block_lt_of_cell? w0 _ x0)).trans x0
      replace x1 := (HBW.out.cell (World.block_lt_of_cell? w0 _ x1)).trans x1
      simp only [Int.toNat_natCast] at x0 x1
      have HCALL := Aside0.mk (HP.out i hlt wr HB.out)
      have hent' := HENT.out
      have y0 : wr.cell? ⟨w.heap.size, 0, none⟩ = some (.slice (some ad0) cs.length c0) := (blk_cell HX.out 0).trans rfl
      have hltc : (i : Int) < cs.length := by have := HL.out; omega
      have hltd : i < cs.length := by have := HL.out; omega
      go_wp2_with fail
      clear x0 x1 y0 HENT hent'
      refine HCALL.out.mono ?_
      rintro e w2 ⟨rfl, hb⟩
      have HB2 := Aside0.mk (below_step HB.out hb)
      have HX2 := Aside0.mk (blk_below HX.out hb)
      clear hb HCALL
      go_wp2_with fail
      go_roundw
      case rel => exact ⟨i + 1, by omega, by go_num, rfl, HB2, HX2⟩
      case measure => simp [intOf]; omega
    · have hi : i = ls.length := by omega
      subst hi
      go_wp2_with fail
      go_ret
      exact ⟨rfl, HB.out⟩
end Go.Proofs.Ytkcmkoolcakfjaa.P

/- lin.Value: does a constraint hold under an assignment? -/
namespace Go.Proofs.Ytkcmkoolcakfjaa.P
open Go.RowKit Go.Proofs.YtkcmkoolcakfjaaW.PrintWords Go.Proofs.YtkcmkoolcakfjaaW.PrintLast Go.Proofs.YtkcmkoolcakfjaaW.PrintMore Go.Proofs.Ytkcmkoolcakfjaa.Aid
set_option linter.unusedVariables false
set_option linter.unusedSimpArgs false

/-- Is a literal true under an assignment? -/
def litT (lit : Int) (a : List Bool) : Bool := (decide (absF lit < (a.length : Int)) && rdOf false a (absF lit)) == decide (0 < lit)
/-- One step of the sum. -/
def valG (a : List Bool) (n c lit : Int) : Int := if litT lit a = true then n + c else n
set_option maxRecDepth 100000 in
set_option maxHeartbeats 1000000 in
theorem valStep.calls (n c lit : Int) (b : Nat) (A : Option Addr) (ca : Nat) (a : List Bool) (w : World) (hbox : w.heap[b]? = some (.cells #[.slice A a.length ca] 43 (0, 0))) (hC : Kd.C Kd.bool w A a.length a) (hl : a.length ≤ 1099511627776)
    (h0 : -65536 ≤ lit) (h1 : lit ≤ 65536) (hn0 : -4611686018427387904 ≤ n) (hn1 : n ≤ 4611686018427387904) (hc0 : -1099511627776 ≤ c) (hc1 : c ≤ 1099511627776) :
    Calls Try.prog 60 #[.int .i64 n, .int .i64 c, .int .i64 lit, .pointer (some ⟨b, 0, none⟩)] w fun e w' => e = .returned (.int .i64 (valG a n c lit)) ∧ w = w' := by
  have z0 : w.cell? ⟨b, 0, none⟩ = some (.slice A a.length ca) := (blk_cell hbox 0).trans rfl
  have ha0 : 0 ≤ absF lit := by unfold absF; split <;> omega
  have ha1 : absF lit ≤ 65536 := by unfold absF; split <;> omega
  have HOF := Aside0.mk (fun W => of.calls lit W h0 h1)
  have HC := Aside0.mk hC
  clear hbox hC
  obtain ⟨p, hp⟩ : ∃ p, decide (0 < lit) = p := ⟨_, rfl⟩
  by_cases hlt : absF lit < (a.length : Int)
  · have hltb : decide (absF lit < (a.length : Int)) = true := decide_eq_true hlt
    obtain ⟨ad, rfl, x0⟩ := Kd.at_bool HC.out (absF lit) ha0 hlt
    obtain ⟨r, hr⟩ : ∃ r, rdOf false a (absF lit) = r := ⟨_, rfl⟩
    rw [hr] at x0
    have HO : Aside0 (valG a n c lit = if (r == p) = true then n + c else n) := ⟨by simp only [valG, litT, hltb, hr, hp, Bool.true_and]⟩
    clear hr
    obtain ⟨y, hy⟩ : ∃ y, absF lit = y := ⟨_, rfl⟩
    rw [hy] at hlt hltb x0 ha0 ha1 HOF
    clear hy
    have HP : Aside0 (decide (0 < lit) = p) := ⟨hp⟩
    cases p <;> cases r
    all_goals
      go_enter Try.func60, Try.ntmps60
      go_wp2_with (go_at_call 45; refine (HOF.out _).mono ?_; rintro e w2 ⟨rfl, rfl⟩)
      go_ret
      exact ⟨by rw [HO.out]; rfl, rfl⟩
  · have hltb : decide (absF lit < (a.length : Int)) = false := decide_eq_false hlt
    have HO : Aside0 (valG a n c lit = if (false == p) = true then n + c else n) := ⟨by simp only [valG, litT, hltb, hp, Bool.false_and]⟩
    obtain ⟨y, hy⟩ : ∃ y, absF lit = y := ⟨_, rfl⟩
    rw [hy] at hlt hltb ha0 ha1 HOF
    clear hy
    cases p
    all_goals
      go_enter Try.func60, Try.ntmps60
      go_wp2_with (go_at_call 45; refine (HOF.out _).mono ?_; rintro e w2 ⟨rfl, rfl⟩)
      go_ret
      exact ⟨by rw [HO.out]; rfl, rfl⟩
/-- What lin.Value says. -/
def linValF (cs ls : List Int) (least : Int) (a : List Bool) : Bool := if linF cs ls least 65536 = 0 then decide (least ≤ foldF (valG a) cs ls 0 ls.length) else false
theorem right.calls (A0 : Option Addr) (c0 : Nat) (cs : List Int) (A1 : Option Addr) (c1 : Nat) (ls : List Int) (least : Int) (w0 w : World) (hW : Below w0.heap.size w0 w) (hC0 : Kd.C (Kd.int .i64) w0 A0 cs.length cs) (hc0 : cs.length ≤ c0) (hC1 : Kd.C (Kd.int .i64) w0 A1 ls.length ls) (hc1 : ls.length ≤ c1) (hl0 : cs.length ≤ 1099511627776) (hl1 : ls.length ≤ 1099511627776) :
    Calls Try.prog 44 #[.agg #[.slice A0 cs.length c0, .slice A1 ls.length c1, .int .i64 least]] w fun e w' => e = .returned (.int .i64 (linF cs ls least 65536)) ∧ Below w.heap.size w w' := by
  have hb0 := below_alloc (Below.refl w.heap.size w) (.cells #[.slice A0 cs.length c0, .slice A1 ls.length c1, .int .i64 least] 40)
  have HB0 := Aside0.mk hb0
  have HCALL := Aside0.mk (linCheck.calls A0 c0 cs A1 c1 ls least 65536 _ (Kd.C_below hC0 (below_step hW hb0)) hc0 (Kd.C_below hC1 (below_step hW hb0)) hc1 hl0 hl1)
  clear hb0 hW hC0 hC1
  go_enter Try.func44, Try.ntmps44
  go_wp2_with (go_at_call 19; refine HCALL.out.mono ?_; rintro e w2 ⟨rfl, hb⟩; have HB := Aside0.mk (below_step HB0.out hb); clear hb)
  go_ret
  exact ⟨rfl, HB.out⟩
/-- A constraint that lin.Check passes. -/
theorem linF_zero {cs ls : List Int} {least n : Int} (h : linF cs ls least n = 0) : 0 ≤ n ∧ n ≤ 65536 ∧ cs.length = ls.length ∧ oddF least = false ∧ (∀ c ∈ cs, -1099511627776 ≤ c ∧ c ≤ 1099511627776) ∧ (∀ y ∈ ls, y ≠ 0 ∧ -n ≤ y ∧ y ≤ n) ∧ ls.length ≤ 4096 := by
  unfold linF at h
  split at h
  · cases h
  · split at h
    · cases h
    · split at h
      · cases h
      · split at h
        · cases h
        · split at h
          · cases h
          · split at h
            · cases h
            · split at h
              · cases h
              · rename_i h1 h2 h3 h4 h5 h6 h7
                refine ⟨by omega, by omega, by omega, by simpa using h4, fun c hc => ?_, fun y hy => ?_, by omega⟩
                · simp only [List.any_eq_true, not_exists, not_and] at h5
                  have h8 := h5 c hc
                  simp only [oddF, Bool.not_eq_true', Bool.not_eq_false', Bool.and_eq_true, decide_eq_true_eq, Bool.not_eq_true, Bool.not_eq_false] at h8
                  simpa using h8
                · simp only [List.any_eq_true, not_exists, not_and] at h6
                  have h8 := h6 y hy
                  simp [wrongF] at h8
                  omega
theorem rd_mem' {l : List Int} {i : Nat} (h : i < l.length) : rd l i ∈ l := by
  unfold rd
  rw [Int.toNat_natCast, List.getD_eq_getElem?_getD, List.getElem?_eq_getElem h]
  exact List.getElem_mem _
theorem foldF_bound {a : List Bool} {cs ls : List Int} (hc : ∀ c ∈ cs, -1099511627776 ≤ c ∧ c ≤ 1099511627776) : ∀ i : Nat, i ≤ cs.length → -(1099511627776 * (i : Int)) ≤ foldF (valG a) cs ls 0 i ∧ foldF (valG a) cs ls 0 i ≤ 1099511627776 * (i : Int)
  | 0, _ => by simp [foldF]
  | i + 1, h => by
    have ih := foldF_bound (a := a) (ls := ls) hc i (by omega)
    have h1 := hc _ (rd_mem' (l := cs) (i := i) (by omega))
    simp only [foldF, valG]
    split <;> omega
set_option maxRecDepth 100000 in
set_option maxHeartbeats 2000000 in
theorem linValue.calls (A0 : Option Addr) (c0 : Nat) (cs : List Int) (A1 : Option Addr) (c1 : Nat) (ls : List Int) (least : Int) (A2 : Option Addr) (c2 : Nat) (a : List Bool) (w : World) (hC0 : Kd.C (Kd.int .i64) w A0 cs.length cs) (hc0 : cs.length ≤ c0) (hC1 : Kd.C (Kd.int .i64) w A1 ls.length ls) (hc1 : ls.length ≤ c1) (hC2 : Kd.C Kd.bool w A2 a.length a) (hl0 : cs.length ≤ 1099511627776) (hl1 : ls.length ≤ 1099511627776) (hl2 : a.length ≤ 1099511627776) :
    Calls Try.prog 43 #[.agg #[.slice A0 cs.length c0, .slice A1 ls.length c1, .int .i64 least], .slice A2 a.length c2] w fun e w' => e = .returned (.bool (linValF cs ls least a)) ∧ Below w.heap.size w w' := by
  have hb0 := below_alloc (below_alloc (Below.refl w.heap.size w) (.cells #[.slice A0 cs.length c0, .slice A1 ls.length c1, .int .i64 least] 40)) (.cells #[.slice A2 a.length c2] 43)
  have hx0 := blk_alloc (blk_new w (.cells #[.slice A0 cs.length c0, .slice A1 ls.length c1, .int .i64 least] 40)) (.cells #[.slice A2 a.length c2] 43)
  have ha0 : ((w.alloc (.cells #[.slice A0 cs.length c0, .slice A1 ls.length c1, .int .i64 least] 40)).alloc (.cells #[.slice A2 a.length c2] 43)).heap[w.heap.size + 1]? = some (.cells #[.slice A2 a.length c2] 43 (0, 0)) := by
    have h := blk_new (w.alloc (.cells #[.slice A0 cs.length c0, .slice A1 ls.length c1, .int .i64 least] 40)) (.cells #[.slice A2 a.length c2] 43)
    rwa [World.size_alloc] at h
  have HRIGHT := Aside0.mk (right.calls A0 c0 cs A1 c1 ls least w _ hb0 hC0 hc0 hC1 hc1 hl0 hl1)
  have HB0 := Aside0.mk hb0
  have HX0 := Aside0.mk hx0
  have HA0 := Aside0.mk ha0
  obtain ⟨lf, hlf⟩ : ∃ lf, linF cs ls least 65536 = lf := ⟨_, rfl⟩
  have HV : Aside0 (linValF cs ls least a = if lf = 0 then decide (least ≤ foldF (valG a) cs ls 0 ls.length) else false) := ⟨by unfold linValF; rw [hlf]⟩
  by_cases h : lf = 0
  · subst h
    obtain ⟨_, _, h3, _, h5, h6, h7⟩ := linF_zero hlf
    have HFOLD : Aside0 (∀ W, Below w.heap.size w W → W.heap[w.heap.size + 1]? = some (.cells #[.slice A2 a.length c2] 43 (0, 0)) → Calls Try.prog 47 #[.agg #[.slice A0 cs.length c0, .slice A1 ls.length c1, .int .i64 least], .int .i64 0, .func (.func 60) #[] #[.pointer (some ⟨w.heap.size + 1, 0, none⟩)]] W fun e w' => e = .returned (.int .i64 (foldF (valG a) cs ls 0 ls.length)) ∧ Below W.heap.size W w') := ⟨fun W hW hbx =>
      fold_int.calls 60 #[.pointer (some ⟨w.heap.size + 1, 0, none⟩)] (valG a) A0 c0 cs A1 c1 ls least 0 w W hW hC0 hC1 h3 hl1 (fun args w => enters_ Try.func60 (by kernel_rfl) rfl args w) (fun i hi W' hW' => by
        have hb := foldF_bound (a := a) (ls := ls) h5 i (by omega)
        have hci := h5 _ (rd_mem' (l := cs) (i := i) (by omega))
        have hli := h6 _ (rd_mem' hi)
        exact (valStep.calls _ _ _ (w.heap.size + 1) A2 c2 a W' (blk_below hbx hW') (Kd.C_below hC2 (below_step hW hW')) hl2 (by omega) (by omega) (by omega) (by omega) hci.1 hci.2).mono (fun e w' hh => ⟨hh.1, by rw [← hh.2]; exact Below.refl _ _⟩))⟩
    have hfb := foldF_bound (a := a) (ls := ls) h5 ls.length (by omega)
    rw [hlf] at HRIGHT
    clear hlf hC0 hC1 hC2 hb0 hx0 ha0 h3 h5 h6
    go_enter Try.func43, Try.ntmps43
    go_wp2_with (go_at_call 44; refine HRIGHT.out.mono ?_; rintro e w1 ⟨rfl, hb⟩; have HB1 := Aside0.mk (below_step HB0.out hb); have HBX1 := Aside0.mk (blk_below HX0.out hb); have HBA1 := Aside0.mk (blk_below HA0.out hb); clear hb)
    refine start_ (n := 7) (S := fun V => V.heap[w.heap.size]? = some (.cells #[.slice A0 cs.length c0, .slice A1 ls.length c1, .int .i64 least] 40 (0, 0))) (ds := []) #[false, false, false, false, false, false, false] (by kernel_rfl) rfl rfl HBX1.out (fun hHeld => ?_)
    generalize hW0 : w1.drew = W0 at hHeld ⊢
    have HW0 := Aside0.mk (show Below w.heap.size w W0 by rw [← hW0]; exact below_step HB1.out (below_drew (Below.refl w1.heap.size w1)))
    have HBA0 := Aside0.mk (show W0.heap[w.heap.size + 1]? = some (.cells #[.slice A2 a.length c2] 43 (0, 0)) by rw [← hW0]; exact blk_below HBA1.out (below_drew (Below.refl w1.heap.size w1)))
    clear hW0 HB1 HBX1 HBA1
    refine pure_ (i := 1) (N := some 9) (v := ?_) (a' := ?_) #[false, true, false, false, false, false, false] rfl rfl (by kernel_rfl) (fun _ _ _ h => h) (Or.inl ⟨by rfl, ?_⟩) ?_ ?_
    rotate_left
    · intro w'
      rfl
    rotate_left
    · simp only [Act.put, List.setIfInBounds_toArray, List.set_cons_zero, List.set_cons_succ, i64_w, i32_w]
      rfl
    refine pure_ (i := 3) (N := some 11) (v := ?_) (a' := ?_) #[false, true, false, true, false, false, false] rfl rfl (by kernel_rfl) (fun _ _ _ h => h) (Or.inl ⟨by rfl, ?_⟩) ?_ ?_
    rotate_left
    · intro w'
      go_simp
      with_reducible rfl
    rotate_left
    · simp only [Act.put, List.setIfInBounds_toArray, List.set_cons_zero, List.set_cons_succ, i64_w, i32_w]
      rfl
    refine take_ (i := 0) (N := some 8) (v := ?_) (a' := ?_) #[true, true, false, true, false, false, false] rfl rfl (by kernel_rfl) (fun _ _ _ h => h) (Or.inl ⟨by rfl, ?_⟩) hHeld ?_ ?_
    rotate_left
    · rintro w' hw0
      have hc0 := blk_cell hw0 0; have hc1 := blk_cell hw0 1; have hc2 := blk_cell hw0 2
      go_simp
      with_reducible rfl
    rotate_left
    · simp only [Act.put, List.setIfInBounds_toArray, List.set_cons_zero, List.set_cons_succ, i64_w, i32_w]
      rfl
    refine take_ (i := 4) (N := some 12) (v := ?_) (a' := ?_) #[true, true, false, true, true, false, false] rfl rfl (by kernel_rfl) (fun _ _ _ h => h) (Or.inl ⟨by rfl, ?_⟩) hHeld ?_ ?_
    rotate_left
    · rintro w' hw0
      have hc0 := blk_cell hw0 2
      go_simp
      with_reducible rfl
    rotate_left
    · simp only [Act.put, List.setIfInBounds_toArray, List.set_cons_zero, List.set_cons_succ, i64_w, i32_w]
      rfl
    refine one_ (i := 2) (N := some 10) #[true, true, true, true, true, false, false] rfl rfl (by kernel_rfl) (by decide) (fun K hK => ?_)
    refine goes_ Try.func47 (by kernel_rfl) rfl #[.agg #[.slice A0 cs.length c0, .slice A1 ls.length c1, .int .i64 least], .int .i64 0, .func (.func 60) #[] #[.pointer (some ⟨w.heap.size + 1, 0, none⟩)]] (by rfl) rfl rfl (by simp only [List.map_toArray, List.map_cons, List.map_nil]; rfl) ?_
    refine (HFOLD.out W0 HW0.out HBA0.out).mono ?_
    rintro e w3 ⟨rfl, hb3⟩
    refine ⟨_, rfl, ?_⟩
    have HB3 := Aside0.mk (below_step HW0.out hb3)
    refine hK.out _ _ (blk_below hHeld hb3) (fun hHeld => ?_)
    clear hK K hb3
    refine norm_ (a' := ?_) ?_ ?_
    rotate_left
    · show Act.put _ (some 10) _ = _
      simp only [Act.put, List.setIfInBounds_toArray, List.set_cons_zero, List.set_cons_succ, i64_w, i32_w]
      rfl
    refine pure_ (i := 5) (N := some 13) (v := ?_) (a' := ?_) #[true, true, true, true, true, true, false] rfl rfl (by kernel_rfl) (fun _ _ _ h => h) (Or.inl ⟨by rfl, ?_⟩) ?_ ?_
    rotate_left
    · intro w'
      go_simp
      with_reducible rfl
    rotate_left
    · simp only [Act.put, List.setIfInBounds_toArray, List.set_cons_zero, List.set_cons_succ, i64_w, i32_w]
      rfl
    refine pure_ (i := 6) (N := some 4) (v := ?_) (a' := ?_) #[true, true, true, true, true, true, true] rfl rfl (by kernel_rfl) (fun _ _ _ h => h) (Or.inl ⟨by rfl, ?_⟩) ?_ ?_
    rotate_left
    · intro w'
      go_simp
      with_reducible rfl
    rotate_left
    · simp only [Act.put, List.setIfInBounds_toArray, List.set_cons_zero, List.set_cons_succ, i64_w, i32_w]
      rfl
    refine done_ (by kernel_rfl) ?_
    go_wp2_with fail
    go_ret
    exact ⟨by rw [HV.out]; first | rfl | simp, HB3.out⟩
  · rw [hlf] at HRIGHT
    clear hlf hC0 hC1 hC2 hb0 hx0 ha0
    have hne : (lf != 0) = true := by simpa using h
    have HV' : Aside0 (linValF cs ls least a = false) := ⟨by rw [HV.out, if_neg h]⟩
    clear HV
    go_enter Try.func43, Try.ntmps43
    go_wp2_with (go_at_call 44; refine HRIGHT.out.mono ?_; rintro e w1 ⟨rfl, hb⟩; have HB1 := Aside0.mk (below_step HB0.out hb); clear hb)
    go_ret
    exact ⟨by rw [HV'.out]; rfl, HB1.out⟩
/-- In the form that printed callers ask for. -/
def lin_Value.f (cs ls : List Int) (least : Int) (a : List Bool) : Option Bool := if cs.length ≤ 1099511627776 ∧ ls.length ≤ 1099511627776 ∧ a.length ≤ 1099511627776 then some (linValF cs ls least a) else none
theorem lin_Value.calls (A0 : Option Addr) (c0 : Nat) (cs : List Int) (A1 : Option Addr) (c1 : Nat) (ls : List Int) (least : Int) (A2 : Option Addr) (c2 : Nat) (a : List Bool) (r : Bool) (w : World) (hC0 : Kd.C (Kd.int .i64) w A0 cs.length cs) (hc0 : cs.length ≤ c0) (hC1 : Kd.C (Kd.int .i64) w A1 ls.length ls) (hc1 : ls.length ≤ c1) (hC2 : Kd.C Kd.bool w A2 a.length a) (hc2 : a.length ≤ c2) (h : lin_Value.f cs ls least a = some r) :
    Calls Try.prog 43 #[.agg #[.slice A0 cs.length c0, .slice A1 ls.length c1, .int .i64 least], .slice A2 a.length c2] w fun e w' => e = .returned (.bool r) ∧ Below w.heap.size w w' := by
  unfold lin_Value.f at h
  split at h
  · rename_i hs
    obtain rfl := Option.some.inj h
    exact linValue.calls A0 c0 cs A1 c1 ls least A2 c2 a w hC0 hc0 hC1 hc1 hC2 hs.1 hs.2.1 hs.2.2
  · cases h
end Go.Proofs.Ytkcmkoolcakfjaa.P

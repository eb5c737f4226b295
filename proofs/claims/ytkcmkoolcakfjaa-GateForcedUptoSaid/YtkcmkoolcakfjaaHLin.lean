/- lin.Check: a constraint's form. -/
import Derived.Test.YtkcmkoolcakfjaaHWide
namespace Go.Proofs.Ytkcmkoolcakfjaa.P
open Go.RowKit Go.Proofs.YtkcmkoolcakfjaaW.PrintWords Go.Proofs.YtkcmkoolcakfjaaW.PrintLast Go.Proofs.YtkcmkoolcakfjaaW.PrintMore Go.Proofs.Ytkcmkoolcakfjaa.Aid
set_option linter.unusedVariables false
set_option linter.unusedSimpArgs false

set_option maxRecDepth 100000 in
set_option maxHeartbeats 1000000 in
theorem IndexFunc_int.calls (fid : Nat) (cap : Array Value) (p : Int → Bool) (A : Option Addr) (c : Nat) (ts : List Int) (w : World) (hC : Kd.C (Kd.int .i64) w A ts.length ts) (hc : ts.length ≤ c) (hl : ts.length ≤ 1099511627776)
    (hent : ∀ args w, (callFunc fid args).run Try.prog w = .ok (.enter fid args) w)
    (hp : ∀ x W, Below w.heap.size w W → Calls Try.prog fid (#[.int .i64 x] ++ cap) W fun e w' => e = .returned (.bool (p x)) ∧ Below W.heap.size W w') :
    Calls Try.prog 57 #[.slice A ts.length c, .func (.func fid) #[] cap] w fun e w' => e = .returned (.int .i64 (idxF p ts 0)) ∧ Below w.heap.size w w' := by
  have HC := Aside0.mk hC
  have HENT := Aside0.mk hent
  have HP := Aside0.mk hp
  clear hC hent hp
  go_enter Try.func57, Try.ntmps57
  go_wp2_with fail
  go_loopw [8] (fun v8 wr => ∃ i : Int, 0 ≤ i ∧ i ≤ ts.length ∧ v8 = .int .i64 i ∧ Aside0 (idxF p ts 0 = idxF p (ts.drop i.toNat) i) ∧ Aside0 (Below w.heap.size w wr)) (fun v8 _ => (ts.length - intOf v8).toNat)
  case atStart => exact ⟨0, by omega, by omega, rfl, ⟨by simp⟩, ⟨Below.refl _ _⟩⟩
  case round =>
    obtain ⟨i, hi0, hi1, rfl, HX, HB⟩ := hrel
    by_cases hlt : i < ts.length
    · obtain ⟨ad, rfl, x0⟩ := Kd.at_int HC.out i hi0 hlt
      replace x0 := pw_cell_below HB.out x0
      have hdr := idxF_drop p ts 0 i hi0 hlt
      have HDR := Aside0.mk hdr
      clear hdr
      have HCALL := Aside0.mk (HP.out (rd ts i) wr HB.out)
      have hent' := HENT.out
      go_wp2_with fail
      clear x0 HENT hent'
      by_cases hpx : p (rd ts i) = true
      · refine HCALL.out.mono ?_
        rintro e w2 ⟨rfl, hb⟩
        have HB2 := Aside0.mk (below_step HB.out hb)
        have HR : Aside0 (idxF p ts 0 = i) := ⟨by rw [HX.out, HDR.out]; exact if_pos hpx⟩
        clear hb HCALL HDR HX
        go_wp2_with fail
        go_ret
        exact ⟨by rw [HR.out]; rfl, HB2.out⟩
      · have hpf : p (rd ts i) = false := by simpa using hpx
        refine HCALL.out.mono ?_
        rintro e w2 ⟨rfl, hb⟩
        have HB2 := Aside0.mk (below_step HB.out hb)
        have HR : Aside0 (idxF p ts 0 = idxF p (ts.drop (i + 1).toNat) (i + 1)) := ⟨by rw [HX.out, HDR.out]; exact if_neg hpx⟩
        clear hb HCALL HDR HX
        go_wp2_with fail
        go_roundw
        case rel => exact ⟨i + 1, by omega, by omega, by go_num, HR, HB2⟩
        case measure => simp [intOf]; omega
    · have hi : i = ts.length := by omega
      subst hi
      have HR : Aside0 (idxF p ts 0 = -1) := ⟨by rw [HX.out, Int.toNat_natCast, List.drop_length]; rfl⟩
      clear hlt hi0 hi1 HX
      go_wp2_with fail
      go_ret
      exact ⟨by rw [HR.out]; rfl, HB.out⟩

set_option maxRecDepth 100000 in
set_option maxHeartbeats 1000000 in
theorem ContainsFunc_int.calls (fid : Nat) (cap : Array Value) (p : Int → Bool) (A : Option Addr) (c : Nat) (ts : List Int) (w : World) (hC : Kd.C (Kd.int .i64) w A ts.length ts) (hc : ts.length ≤ c) (hl : ts.length ≤ 1099511627776)
    (hent : ∀ args w, (callFunc fid args).run Try.prog w = .ok (.enter fid args) w)
    (hp : ∀ x W, Below w.heap.size w W → Calls Try.prog fid (#[.int .i64 x] ++ cap) W fun e w' => e = .returned (.bool (p x)) ∧ Below W.heap.size W w') :
    Calls Try.prog 37 #[.slice A ts.length c, .func (.func fid) #[] cap] w fun e w' => e = .returned (.bool (ts.any p)) ∧ Below w.heap.size w w' := by
  have HI := Aside0.mk (IndexFunc_int.calls fid cap p A c ts w hC hc hl hent hp)
  have HX := Aside0.mk (idxF_any p ts 0 (by omega))
  clear hC hent hp
  go_enter Try.func37, Try.ntmps37
  go_wp2_with (go_at_call 57; refine HI.out.mono ?_; rintro e w2 ⟨rfl, hb⟩; have HB := Aside0.mk hb; clear hb)
  go_ret
  exact ⟨by rw [← HX.out]; rfl, HB.out⟩

/-- A coefficient or bound out of range. -/
def oddF (n : Int) : Bool := !(decide (-1099511627776 ≤ n) && decide (n ≤ 1099511627776))
/-- No literal of the variables 1 to n. -/
def wrongF (n lit : Int) : Bool := lit == 0 || decide (n < lit) || decide (lit < -n)
set_option maxRecDepth 100000 in
theorem within.calls (n : Int) (w : World) : Calls Try.prog 35 #[.int .i64 n] w fun e w' => e = .returned (.bool (!(oddF n))) ∧ Below w.heap.size w w' := by
  by_cases h1 : (-1099511627776 : Int) ≤ n
  · by_cases h2 : n ≤ 1099511627776
    · have HO : Aside0 (oddF n = false) := ⟨by simp [oddF, h1, h2]⟩
      go_enter Try.func35, Try.ntmps35
      go_wp2_with fail
      go_ret
      exact ⟨by rw [HO.out]; rfl, Below.refl _ _⟩
    · have HO : Aside0 (oddF n = true) := ⟨by simp [oddF, h1]; omega⟩
      go_enter Try.func35, Try.ntmps35
      go_wp2_with fail
      go_ret
      exact ⟨by rw [HO.out]; rfl, Below.refl _ _⟩
  · have HO : Aside0 (oddF n = true) := ⟨by simp [oddF]; omega⟩
    go_enter Try.func35, Try.ntmps35
    go_wp2_with fail
    go_ret
    exact ⟨by rw [HO.out]; rfl, Below.refl _ _⟩
set_option maxRecDepth 100000 in
theorem odd.calls (n : Int) (w : World) : Calls Try.prog 34 #[.int .i64 n] w fun e w' => e = .returned (.bool (oddF n)) ∧ Below w.heap.size w w' := by
  go_enter Try.func34, Try.ntmps34
  go_wp2_with (go_at_call 35; refine (within.calls n _).mono ?_; rintro e w2 ⟨rfl, hb⟩; have HB := Aside0.mk hb; clear hb)
  go_ret
  exact ⟨by simp, HB.out⟩
set_option maxRecDepth 100000 in
theorem wrong.calls (n lit : Int) (b : Nat) (w : World) (hn : 0 ≤ n) (hn2 : n ≤ 65536) (hb : w.heap[b]? = some (.cells #[.int .i64 n] 3 (0, 0))) : Calls Try.prog 36 #[.int .i64 lit, .pointer (some ⟨b, 0, none⟩)] w fun e w' => e = .returned (.bool (wrongF n lit)) ∧ Below w.heap.size w w' := by
  have z0 : w.cell? ⟨b, 0, none⟩ = some (.int .i64 n) := (blk_cell hb 0).trans rfl
  clear hb
  by_cases h1 : lit = 0
  · subst h1
    go_enter Try.func36, Try.ntmps36
    go_wp2_with fail
    go_ret
    exact ⟨by simp [wrongF], Below.refl _ _⟩
  · have h1b : (lit == 0) = false := by simpa using h1
    by_cases h2 : n < lit
    · have HO : Aside0 (wrongF n lit = true) := ⟨by simp [wrongF, h2]⟩
      go_enter Try.func36, Try.ntmps36
      go_wp2_with fail
      go_ret
      exact ⟨by rw [HO.out]; rfl, Below.refl _ _⟩
    · have HO : Aside0 (wrongF n lit = decide (lit < -n)) := ⟨by simp [wrongF, h1b, h2]⟩
      go_enter Try.func36, Try.ntmps36
      go_wp2_with fail
      go_ret
      exact ⟨by rw [HO.out]; rfl, Below.refl _ _⟩

/-- What lin.Check says. -/
def linF (cs ls : List Int) (least n : Int) : Int :=
  if n < 0 then 1 else if 65536 < n then 1 else if (cs.length : Int) ≠ ls.length then 1 else if oddF least = true then 1 else if cs.any oddF = true then 1 else if ls.any (wrongF n) = true then 1 else if (4096 : Int) < ls.length then 2 else 0
set_option maxRecDepth 100000 in
set_option maxHeartbeats 2000000 in
theorem linCheck.calls (A0 : Option Addr) (c0 : Nat) (cs : List Int) (A1 : Option Addr) (c1 : Nat) (ls : List Int) (least n : Int) (w : World) (hC0 : Kd.C (Kd.int .i64) w A0 cs.length cs) (hc0 : cs.length ≤ c0) (hC1 : Kd.C (Kd.int .i64) w A1 ls.length ls) (hc1 : ls.length ≤ c1) (hl0 : cs.length ≤ 1099511627776) (hl1 : ls.length ≤ 1099511627776) :
    Calls Try.prog 19 #[.agg #[.slice A0 cs.length c0, .slice A1 ls.length c1, .int .i64 least], .int .i64 n] w fun e w' => e = .returned (.int .i64 (linF cs ls least n)) ∧ Below w.heap.size w w' := by
  have hmf : ∀ (fn : Fn) (first cap : Array Value) (w : World), (Instr.makeFunc fn first cap).run Try.prog w = .ok (.func fn first cap) w := fun _ _ _ _ => rfl
  have hb0 := below_alloc (below_alloc (Below.refl w.heap.size w) (.cells #[.slice A0 cs.length c0, .slice A1 ls.length c1, .int .i64 least] 40)) (.cells #[.int .i64 n] 3)
  have hx0 := blk_alloc (blk_new w (.cells #[.slice A0 cs.length c0, .slice A1 ls.length c1, .int .i64 least] 40)) (.cells #[.int .i64 n] 3)
  have hxn : ((w.alloc (.cells #[.slice A0 cs.length c0, .slice A1 ls.length c1, .int .i64 least] 40)).alloc (.cells #[.int .i64 n] 3)).heap[w.heap.size + 1]? = some (.cells #[.int .i64 n] 3 (0, 0)) := by
    have h := blk_new (w.alloc (.cells #[.slice A0 cs.length c0, .slice A1 ls.length c1, .int .i64 least] 40)) (.cells #[.int .i64 n] 3)
    rwa [World.size_alloc] at h
  have HB0 := Aside0.mk hb0
  have HX0 := Aside0.mk hx0
  have HXN := Aside0.mk hxn
  have HC0 := Aside0.mk hC0
  have HC1 := Aside0.mk hC1
  clear hb0 hx0 hxn hC0 hC1
  by_cases h1 : n < 0
  · have HO : Aside0 (linF cs ls least n = 1) := ⟨by unfold linF; rw [if_pos h1]⟩
    go_enter Try.func19, Try.ntmps19
    go_wp2_with fail
    go_ret
    exact ⟨by rw [HO.out]; rfl, HB0.out⟩
  · by_cases h2 : 65536 < n
    · have HO : Aside0 (linF cs ls least n = 1) := ⟨by unfold linF; rw [if_neg h1, if_pos h2]⟩
      go_enter Try.func19, Try.ntmps19
      go_wp2_with fail
      go_ret
      exact ⟨by rw [HO.out]; rfl, HB0.out⟩
    · by_cases h3 : (cs.length : Int) = ls.length
      · have h3b : ((cs.length : Int) != ls.length) = false := by simp [h3]
        by_cases h4 : oddF least = true
        · have HO : Aside0 (linF cs ls least n = 1) := ⟨by unfold linF; rw [if_neg h1, if_neg h2, if_neg (by simpa using h3), if_pos h4]⟩
          clear h3
          go_enter Try.func19, Try.ntmps19
          go_wp2_with (go_at_call 34; refine (odd.calls least _).mono ?_; rintro e w2 ⟨rfl, hb⟩; have HB2 := Aside0.mk (below_step HB0.out hb); clear hb; rw [h4])
          go_ret
          exact ⟨by rw [HO.out]; rfl, HB2.out⟩
        · have h4b : oddF least = false := by simpa using h4
          obtain ⟨o1, ho1⟩ : ∃ o1, cs.any oddF = o1 := ⟨_, rfl⟩
          have HO : Aside0 (linF cs ls least n = if o1 = true then 1 else if ls.any (wrongF n) = true then 1 else if (4096 : Int) < ls.length then 2 else 0) := ⟨by unfold linF; rw [if_neg h1, if_neg h2, if_neg (by simpa using h3), if_neg h4, ho1]⟩
          have HO1 := Aside0.mk ho1
          clear h3 ho1
          cases o1
          · obtain ⟨o2, ho2⟩ : ∃ o2, ls.any (wrongF n) = o2 := ⟨_, rfl⟩
            rw [ho2] at HO
            have HO2 := Aside0.mk ho2
            clear ho2
            have hn1 : 0 ≤ n := by omega
            have hn2 : n ≤ 65536 := by omega
            go_enter Try.func19, Try.ntmps19
            go_wp2_with (first | (go_at_call 34; refine (odd.calls least _).mono ?_; rintro e w2 ⟨rfl, hb⟩; have HB2 := Aside0.mk (below_step HB0.out hb); have hbx2 := Aside0.mk (blk_below HX0.out hb); have hbn2 := Aside0.mk (blk_below HXN.out hb); have y0 : w2.cell? ⟨w.heap.size, 0, none⟩ = some (.slice A0 cs.length c0) := (blk_cell hbx2.out 0).trans rfl; clear hb; rw [h4b]) | (go_at_call 37; first | (refine (ContainsFunc_int.calls 34 #[] oddF A0 c0 cs _ (Kd.C_below HC0.out HB2.out) hc0 hl0 (fun args w => enters_ Try.func34 (by kernel_rfl) rfl args w) (fun x W _ => odd.calls x W)).mono ?_; rintro e w3 ⟨rfl, hb⟩; have HB3 := Aside0.mk (below_step HB2.out hb); have hbx3 := Aside0.mk (blk_below hbx2.out hb); have hbn3 := Aside0.mk (blk_below hbn2.out hb); have y1 : w3.cell? ⟨w.heap.size, 1, none⟩ = some (.slice A1 ls.length c1) := (blk_cell hbx3.out 1).trans rfl; clear hb y0; rw [HO1.out]) | (refine (ContainsFunc_int.calls 36 #[.pointer (some ⟨w.heap.size + 1, 0, none⟩)] (wrongF n) A1 c1 ls _ (Kd.C_below HC1.out HB3.out) hc1 hl1 (fun args w => enters_ Try.func36 (by kernel_rfl) rfl args w) (fun x W hW => wrong.calls n x (w.heap.size + 1) W hn1 hn2 (blk_below hbn3.out hW))).mono ?_; rintro e w4 ⟨rfl, hb⟩; have HB4 := Aside0.mk (below_step HB3.out hb); have hbx4 := Aside0.mk (blk_below hbx3.out hb); have y2 : w4.cell? ⟨w.heap.size, 1, none⟩ = some (.slice A1 ls.length c1) := (blk_cell hbx4.out 1).trans rfl; clear hb y1; rw [HO2.out]; cases o2)))
            · have hlen : (4096 : Int) < ls.length := by omega
              go_ret
              exact ⟨by rw [HO.out, if_neg (by simp), if_neg (by simp), if_pos hlen]; rfl, HB4.out⟩
            · have hlen : ¬ (4096 : Int) < ls.length := by omega
              go_ret
              exact ⟨by rw [HO.out, if_neg (by simp), if_neg (by simp), if_neg hlen]; rfl, HB4.out⟩
            · go_ret
              exact ⟨by rw [HO.out, if_neg (by simp)]; rfl, HB4.out⟩
          · replace HO : Aside0 (linF cs ls least n = 1) := ⟨by rw [HO.out]; rfl⟩
            go_enter Try.func19, Try.ntmps19
            go_wp2_with (first | (go_at_call 34; refine (odd.calls least _).mono ?_; rintro e w2 ⟨rfl, hb⟩; have HB2 := Aside0.mk (below_step HB0.out hb); have hbx2 := Aside0.mk (blk_below HX0.out hb); have y0 : w2.cell? ⟨w.heap.size, 0, none⟩ = some (.slice A0 cs.length c0) := (blk_cell hbx2.out 0).trans rfl; clear hb; rw [h4b]) | (go_at_call 37; refine (ContainsFunc_int.calls 34 #[] oddF A0 c0 cs _ (Kd.C_below HC0.out HB2.out) hc0 hl0 (fun args w => enters_ Try.func34 (by kernel_rfl) rfl args w) (fun x W _ => odd.calls x W)).mono ?_; rintro e w3 ⟨rfl, hb⟩; have HB3 := Aside0.mk (below_step HB2.out hb); clear hb; rw [HO1.out]))
            go_ret
            exact ⟨by rw [HO.out]; rfl, HB3.out⟩
      · have h3b : ((cs.length : Int) != ls.length) = true := by simpa using h3
        have HO : Aside0 (linF cs ls least n = 1) := ⟨by unfold linF; rw [if_neg h1, if_neg h2, if_pos (by simpa using h3)]⟩
        clear h3
        go_enter Try.func19, Try.ntmps19
        go_wp2_with fail
        go_ret
        exact ⟨by rw [HO.out]; rfl, HB0.out⟩
/-- In the form that printed callers ask for. -/
def lin_Check.f (cs ls : List Int) (least n : Int) : Option Int := if cs.length ≤ 1099511627776 ∧ ls.length ≤ 1099511627776 then some (linF cs ls least n) else none
theorem lin_Check.calls (A0 : Option Addr) (c0 : Nat) (cs : List Int) (A1 : Option Addr) (c1 : Nat) (ls : List Int) (least n : Int) (r : Int) (w : World) (hC0 : Kd.C (Kd.int .i64) w A0 cs.length cs) (hc0 : cs.length ≤ c0) (hC1 : Kd.C (Kd.int .i64) w A1 ls.length ls) (hc1 : ls.length ≤ c1) (h : lin_Check.f cs ls least n = some r) :
    Calls Try.prog 19 #[.agg #[.slice A0 cs.length c0, .slice A1 ls.length c1, .int .i64 least], .int .i64 n] w fun e w' => e = .returned (.int .i64 r) ∧ Below w.heap.size w w' := by
  unfold lin_Check.f at h
  split at h
  · rename_i hs
    obtain rfl := Option.some.inj h
    exact linCheck.calls A0 c0 cs A1 c1 ls least n w hC0 hc0 hC1 hc1 hs.1 hs.2
  · cases h
end Go.Proofs.Ytkcmkoolcakfjaa.P

import Derived.Test.YtkbjbkmaokebgaaSame
set_option linter.unusedVariables false
set_option linter.unusedSimpArgs false
namespace Go.Proofs.Ytkbjbkmaokebgaa.Gz
open Go.RowKit Go.Proofs.YtkbjbkmaokebgaaW.PrintWords
open Ki
/-- May a record be? -/
def rrSound (r : RR) : Bool := nSound r.name && decide (DOk r.typ r.data) && fits r.cls 2 && decide (0 ≤ r.ttl) && decide (r.ttl < 2147483648)
/-- May two records not be in one zone? -/
def clash (a b : RR) : Bool := nEq a.name b.name && (if a.typ = b.typ then decide (a.typ = 5) || !decide (a.ttl = b.ttl) || dSame a.data b.data else decide (a.typ = 5) || decide (b.typ = 5))
set_option maxHeartbeats 4000000 in
set_option maxRecDepth 100000 in
theorem rrsound_calls (r : RR) (cr : List Value) (w : World) (hr : kR.K w (fun _ => True) r cr) :
    Calls Try.prog 69 #[.agg cr.toArray] w fun e w' => e = .returned (.bool (rrSound r)) ∧ Below w.heap.size w w' := by
  have HD : Aside0 ((rrSound r) = true ↔ (nSound r.name = true ∧ DOk r.typ r.data ∧ fits r.cls 2 = true ∧ 0 ≤ r.ttl ∧ r.ttl < 2147483648)) := ⟨by unfold rrSound; simp [Bool.and_eq_true, and_assoc]⟩
  have Kr := Aside0.mk hr
  obtain ⟨vvr, cdr, rfl, hvr, htr, hcr, hlr, hdr⟩ := hr
  have RVr := Aside0.mk hvr
  have KDr := Aside0.mk hdr
  have RTr := Aside0.mk htr
  have RCr := Aside0.mk hcr
  clear htr hcr hlr
  obtain ⟨vbr, vhr, vmr, vnr, vtr, rfl, _⟩ := hdr
  clear hvr
  have BX : Aside0 (Below w.heap.size w (w.alloc (.cells #[vvr, .int .i64 r.typ, .int .i64 r.cls, .int .i64 r.ttl, vbr, vhr, vmr, vnr, vtr] 44))) := ⟨below_alloc (Below.refl _ _) _⟩
  have HB0 : Aside0 (Below (w.alloc (.cells #[vvr, .int .i64 r.typ, .int .i64 r.cls, .int .i64 r.ttl, vbr, vhr, vmr, vnr, vtr] 44)).heap.size (w.alloc (.cells #[vvr, .int .i64 r.typ, .int .i64 r.cls, .int .i64 r.ttl, vbr, vhr, vmr, vnr, vtr] 44)) (w.alloc (.cells #[vvr, .int .i64 r.typ, .int .i64 r.cls, .int .i64 r.ttl, vbr, vhr, vmr, vnr, vtr] 44))) := ⟨Below.refl _ _⟩
  by_cases q_na : nSound r.name = true
  rotate_left
  · have HN : Aside0 ((rrSound r) = false) := ⟨eq_false_of_ne_true fun h => q_na (by obtain ⟨g_na, g_da, g_cl, g_lo, g_hi⟩ := HD.out.1 h; exact g_na)⟩
    have e_na := Aside0.mk q_na
    clear q_na
    go_enter Try.func69, Try.ntmps69
    go_wp2_with fail
    refine (bv (sound_calls _ r.name _ (RVr.out.below pS (BX.out.trans (HB0.out.mono (by simp; try omega))))) (eq_false_of_ne_true e_na.out)).mono ?_
    rintro e w1 ⟨rfl, hb1⟩
    have HB1 := Aside0.mk (HB0.out.trans (hb1.mono HB0.out.size))
    clear hb1
    obtain ⟨bc, bf⟩ := bcell HB1.out
    go_wp2_with fail
    go_ret
    refine ⟨?_, (BX.out.trans (HB1.out.mono (by simp; try omega)))⟩
    rw [HN.out]; rfl
  have e_na := Aside0.mk q_na
  clear q_na
  by_cases q_da : DOk r.typ r.data
  rotate_left
  · have HN : Aside0 ((rrSound r) = false) := ⟨eq_false_of_ne_true fun h => q_da (by obtain ⟨g_na, g_da, g_cl, g_lo, g_hi⟩ := HD.out.1 h; exact g_da)⟩
    have e_da := Aside0.mk q_da
    clear q_da
    go_enter Try.func69, Try.ntmps69
    go_wp2_with fail
    refine (bv (sound_calls _ r.name _ (RVr.out.below pS (BX.out.trans (HB0.out.mono (by simp; try omega))))) (e_na.out)).mono ?_
    rintro e w1 ⟨rfl, hb1⟩
    have HB1 := Aside0.mk (HB0.out.trans (hb1.mono HB0.out.size))
    clear hb1
    obtain ⟨bc, bf⟩ := bcell HB1.out
    go_wp2_with fail
    refine (bv (dsound_calls r.typ r.data _ _ (K_below KDr.out (BX.out.trans (HB1.out.mono (by simp; try omega))))) (decide_eq_false e_da.out)).mono ?_
    rintro e w2 ⟨rfl, hb2⟩
    have HB2 := Aside0.mk (HB1.out.trans (hb2.mono HB1.out.size))
    clear hb2
    clear bc bf
    obtain ⟨bc, bf⟩ := bcell HB2.out
    go_wp2_with fail
    go_ret
    refine ⟨?_, (BX.out.trans (HB2.out.mono (by simp; try omega)))⟩
    rw [HN.out]; rfl
  have e_da := Aside0.mk q_da
  clear q_da
  by_cases q_cl : fits r.cls 2 = true
  rotate_left
  · have HN : Aside0 ((rrSound r) = false) := ⟨eq_false_of_ne_true fun h => q_cl (by obtain ⟨g_na, g_da, g_cl, g_lo, g_hi⟩ := HD.out.1 h; exact g_cl)⟩
    have e_cl := Aside0.mk q_cl
    clear q_cl
    go_enter Try.func69, Try.ntmps69
    go_wp2_with fail
    refine (bv (sound_calls _ r.name _ (RVr.out.below pS (BX.out.trans (HB0.out.mono (by simp; try omega))))) (e_na.out)).mono ?_
    rintro e w1 ⟨rfl, hb1⟩
    have HB1 := Aside0.mk (HB0.out.trans (hb1.mono HB0.out.size))
    clear hb1
    obtain ⟨bc, bf⟩ := bcell HB1.out
    go_wp2_with fail
    refine (bv (dsound_calls r.typ r.data _ _ (K_below KDr.out (BX.out.trans (HB1.out.mono (by simp; try omega))))) (decide_eq_true e_da.out)).mono ?_
    rintro e w2 ⟨rfl, hb2⟩
    have HB2 := Aside0.mk (HB1.out.trans (hb2.mono HB1.out.size))
    clear hb2
    clear bc bf
    obtain ⟨bc, bf⟩ := bcell HB2.out
    go_wp2_with fail
    refine (bv (fits_calls r.cls 2 _ RCr.out r64_2) (eq_false_of_ne_true e_cl.out)).mono ?_
    rintro e w3 ⟨rfl, rfl⟩
    have HB3 := HB2
    go_wp2_with fail
    go_ret
    refine ⟨?_, (BX.out.trans (HB3.out.mono (by simp; try omega)))⟩
    rw [HN.out]; rfl
  have e_cl := Aside0.mk q_cl
  clear q_cl
  by_cases q_lo : 0 ≤ r.ttl
  rotate_left
  · have HN : Aside0 ((rrSound r) = false) := ⟨eq_false_of_ne_true fun h => q_lo (by obtain ⟨g_na, g_da, g_cl, g_lo, g_hi⟩ := HD.out.1 h; exact g_lo)⟩
    have f_lo : ¬ 0 ≤ r.ttl := q_lo
    have e_lo := Aside0.mk q_lo
    clear q_lo
    go_enter Try.func69, Try.ntmps69
    go_wp2_with fail
    refine (bv (sound_calls _ r.name _ (RVr.out.below pS (BX.out.trans (HB0.out.mono (by simp; try omega))))) (e_na.out)).mono ?_
    rintro e w1 ⟨rfl, hb1⟩
    have HB1 := Aside0.mk (HB0.out.trans (hb1.mono HB0.out.size))
    clear hb1
    obtain ⟨bc, bf⟩ := bcell HB1.out
    go_wp2_with fail
    refine (bv (dsound_calls r.typ r.data _ _ (K_below KDr.out (BX.out.trans (HB1.out.mono (by simp; try omega))))) (decide_eq_true e_da.out)).mono ?_
    rintro e w2 ⟨rfl, hb2⟩
    have HB2 := Aside0.mk (HB1.out.trans (hb2.mono HB1.out.size))
    clear hb2
    clear bc bf
    obtain ⟨bc, bf⟩ := bcell HB2.out
    go_wp2_with fail
    refine (bv (fits_calls r.cls 2 _ RCr.out r64_2) (e_cl.out)).mono ?_
    rintro e w3 ⟨rfl, rfl⟩
    have HB3 := HB2
    go_wp2_with fail
    go_ret
    refine ⟨?_, (BX.out.trans (HB3.out.mono (by simp; try omega)))⟩
    rw [HN.out]; rfl
  have f_lo : 0 ≤ r.ttl := q_lo
  have e_lo := Aside0.mk q_lo
  clear q_lo
  by_cases q_hi : r.ttl < 2147483648
  rotate_left
  · have HN : Aside0 ((rrSound r) = false) := ⟨eq_false_of_ne_true fun h => q_hi (by obtain ⟨g_na, g_da, g_cl, g_lo, g_hi⟩ := HD.out.1 h; exact g_hi)⟩
    have f_hi : decide (r.ttl < 2147483648) = false := decide_eq_false q_hi
    have e_hi := Aside0.mk q_hi
    clear q_hi
    go_enter Try.func69, Try.ntmps69
    go_wp2_with fail
    refine (bv (sound_calls _ r.name _ (RVr.out.below pS (BX.out.trans (HB0.out.mono (by simp; try omega))))) (e_na.out)).mono ?_
    rintro e w1 ⟨rfl, hb1⟩
    have HB1 := Aside0.mk (HB0.out.trans (hb1.mono HB0.out.size))
    clear hb1
    obtain ⟨bc, bf⟩ := bcell HB1.out
    go_wp2_with fail
    refine (bv (dsound_calls r.typ r.data _ _ (K_below KDr.out (BX.out.trans (HB1.out.mono (by simp; try omega))))) (decide_eq_true e_da.out)).mono ?_
    rintro e w2 ⟨rfl, hb2⟩
    have HB2 := Aside0.mk (HB1.out.trans (hb2.mono HB1.out.size))
    clear hb2
    clear bc bf
    obtain ⟨bc, bf⟩ := bcell HB2.out
    go_wp2_with fail
    refine (bv (fits_calls r.cls 2 _ RCr.out r64_2) (e_cl.out)).mono ?_
    rintro e w3 ⟨rfl, rfl⟩
    have HB3 := HB2
    go_wp2_with fail
    go_ret
    refine ⟨?_, (BX.out.trans (HB3.out.mono (by simp; try omega)))⟩
    rw [HN.out]; rfl
  have f_hi : decide (r.ttl < 2147483648) = true := decide_eq_true q_hi
  have e_hi := Aside0.mk q_hi
  clear q_hi
  have HY : Aside0 ((rrSound r) = true) := ⟨HD.out.2 ⟨e_na.out, e_da.out, e_cl.out, e_lo.out, e_hi.out⟩⟩
  go_enter Try.func69, Try.ntmps69
  go_wp2_with fail
  refine (bv (sound_calls _ r.name _ (RVr.out.below pS (BX.out.trans (HB0.out.mono (by simp; try omega))))) (e_na.out)).mono ?_
  rintro e w1 ⟨rfl, hb1⟩
  have HB1 := Aside0.mk (HB0.out.trans (hb1.mono HB0.out.size))
  clear hb1
  obtain ⟨bc, bf⟩ := bcell HB1.out
  go_wp2_with fail
  refine (bv (dsound_calls r.typ r.data _ _ (K_below KDr.out (BX.out.trans (HB1.out.mono (by simp; try omega))))) (decide_eq_true e_da.out)).mono ?_
  rintro e w2 ⟨rfl, hb2⟩
  have HB2 := Aside0.mk (HB1.out.trans (hb2.mono HB1.out.size))
  clear hb2
  clear bc bf
  obtain ⟨bc, bf⟩ := bcell HB2.out
  go_wp2_with fail
  refine (bv (fits_calls r.cls 2 _ RCr.out r64_2) (e_cl.out)).mono ?_
  rintro e w3 ⟨rfl, rfl⟩
  have HB3 := HB2
  go_wp2_with fail
  go_ret
  refine ⟨?_, (BX.out.trans (HB3.out.mono (by simp; try omega)))⟩
  rw [HY.out]; rfl
set_option maxHeartbeats 4000000 in
set_option maxRecDepth 100000 in
theorem rrrsound_calls (r : RR) (cr : List Value) (w : World) (hr : kR.K w (fun _ => True) r cr) :
    Calls Try.prog 35 #[.agg cr.toArray] w fun e w' => e = .returned (.bool (rrSound r)) ∧ Below w.heap.size w w' := by
  have HD : Aside0 ((rrSound r) = true ↔ (nSound r.name = true ∧ DOk r.typ r.data ∧ fits r.cls 2 = true ∧ 0 ≤ r.ttl ∧ r.ttl < 2147483648)) := ⟨by unfold rrSound; simp [Bool.and_eq_true, and_assoc]⟩
  have Kr := Aside0.mk hr
  obtain ⟨vvr, cdr, rfl, hvr, htr, hcr, hlr, hdr⟩ := hr
  have RVr := Aside0.mk hvr
  have KDr := Aside0.mk hdr
  have RTr := Aside0.mk htr
  have RCr := Aside0.mk hcr
  clear htr hcr hlr
  obtain ⟨vbr, vhr, vmr, vnr, vtr, rfl, _⟩ := hdr
  clear hvr
  have BX : Aside0 (Below w.heap.size w (w.alloc (.cells #[vvr, .int .i64 r.typ, .int .i64 r.cls, .int .i64 r.ttl, vbr, vhr, vmr, vnr, vtr] 44))) := ⟨below_alloc (Below.refl _ _) _⟩
  have HB0 : Aside0 (Below (w.alloc (.cells #[vvr, .int .i64 r.typ, .int .i64 r.cls, .int .i64 r.ttl, vbr, vhr, vmr, vnr, vtr] 44)).heap.size (w.alloc (.cells #[vvr, .int .i64 r.typ, .int .i64 r.cls, .int .i64 r.ttl, vbr, vhr, vmr, vnr, vtr] 44)) (w.alloc (.cells #[vvr, .int .i64 r.typ, .int .i64 r.cls, .int .i64 r.ttl, vbr, vhr, vmr, vnr, vtr] 44))) := ⟨Below.refl _ _⟩
  by_cases q_na : nSound r.name = true
  rotate_left
  · have HN : Aside0 ((rrSound r) = false) := ⟨eq_false_of_ne_true fun h => q_na (by obtain ⟨g_na, g_da, g_cl, g_lo, g_hi⟩ := HD.out.1 h; exact g_na)⟩
    have e_na := Aside0.mk q_na
    clear q_na
    go_enter Try.func35, Try.ntmps35
    go_wp2_with fail
    refine (bv (rsound_calls _ r.name _ (RVr.out.below pS (BX.out.trans (HB0.out.mono (by simp; try omega))))) (eq_false_of_ne_true e_na.out)).mono ?_
    rintro e w1 ⟨rfl, rfl⟩
    have HB1 := HB0
    go_wp2_with fail
    go_ret
    refine ⟨?_, (BX.out.trans (HB1.out.mono (by simp; try omega)))⟩
    rw [HN.out]; rfl
  have e_na := Aside0.mk q_na
  clear q_na
  by_cases q_da : DOk r.typ r.data
  rotate_left
  · have HN : Aside0 ((rrSound r) = false) := ⟨eq_false_of_ne_true fun h => q_da (by obtain ⟨g_na, g_da, g_cl, g_lo, g_hi⟩ := HD.out.1 h; exact g_da)⟩
    have e_da := Aside0.mk q_da
    clear q_da
    go_enter Try.func35, Try.ntmps35
    go_wp2_with fail
    refine (bv (rsound_calls _ r.name _ (RVr.out.below pS (BX.out.trans (HB0.out.mono (by simp; try omega))))) (e_na.out)).mono ?_
    rintro e w1 ⟨rfl, rfl⟩
    have HB1 := HB0
    go_wp2_with fail
    refine (bv (rdata_calls r.typ r.data _ _ (K_below KDr.out (BX.out.trans (HB1.out.mono (by simp; try omega))))) (decide_eq_false e_da.out)).mono ?_
    rintro e w2 ⟨rfl, hb2⟩
    have HB2 := Aside0.mk (HB1.out.trans (hb2.mono HB1.out.size))
    clear hb2
    obtain ⟨bc, bf⟩ := bcell HB2.out
    go_wp2_with fail
    go_ret
    refine ⟨?_, (BX.out.trans (HB2.out.mono (by simp; try omega)))⟩
    rw [HN.out]; rfl
  have e_da := Aside0.mk q_da
  clear q_da
  by_cases q_cl : fits r.cls 2 = true
  rotate_left
  · have HN : Aside0 ((rrSound r) = false) := ⟨eq_false_of_ne_true fun h => q_cl (by obtain ⟨g_na, g_da, g_cl, g_lo, g_hi⟩ := HD.out.1 h; exact g_cl)⟩
    have e_cl := Aside0.mk q_cl
    clear q_cl
    go_enter Try.func35, Try.ntmps35
    go_wp2_with fail
    refine (bv (rsound_calls _ r.name _ (RVr.out.below pS (BX.out.trans (HB0.out.mono (by simp; try omega))))) (e_na.out)).mono ?_
    rintro e w1 ⟨rfl, rfl⟩
    have HB1 := HB0
    go_wp2_with fail
    refine (bv (rdata_calls r.typ r.data _ _ (K_below KDr.out (BX.out.trans (HB1.out.mono (by simp; try omega))))) (decide_eq_true e_da.out)).mono ?_
    rintro e w2 ⟨rfl, hb2⟩
    have HB2 := Aside0.mk (HB1.out.trans (hb2.mono HB1.out.size))
    clear hb2
    obtain ⟨bc, bf⟩ := bcell HB2.out
    go_wp2_with fail
    refine (bv (rfits_calls r.cls 2 _ RCr.out r64_2) (eq_false_of_ne_true e_cl.out)).mono ?_
    rintro e w3 ⟨rfl, rfl⟩
    have HB3 := HB2
    go_wp2_with fail
    go_ret
    refine ⟨?_, (BX.out.trans (HB3.out.mono (by simp; try omega)))⟩
    rw [HN.out]; rfl
  have e_cl := Aside0.mk q_cl
  clear q_cl
  by_cases q_lo : 0 ≤ r.ttl
  rotate_left
  · have HN : Aside0 ((rrSound r) = false) := ⟨eq_false_of_ne_true fun h => q_lo (by obtain ⟨g_na, g_da, g_cl, g_lo, g_hi⟩ := HD.out.1 h; exact g_lo)⟩
    have f_lo : ¬ 0 ≤ r.ttl := q_lo
    have e_lo := Aside0.mk q_lo
    clear q_lo
    go_enter Try.func35, Try.ntmps35
    go_wp2_with fail
    refine (bv (rsound_calls _ r.name _ (RVr.out.below pS (BX.out.trans (HB0.out.mono (by simp; try omega))))) (e_na.out)).mono ?_
    rintro e w1 ⟨rfl, rfl⟩
    have HB1 := HB0
    go_wp2_with fail
    refine (bv (rdata_calls r.typ r.data _ _ (K_below KDr.out (BX.out.trans (HB1.out.mono (by simp; try omega))))) (decide_eq_true e_da.out)).mono ?_
    rintro e w2 ⟨rfl, hb2⟩
    have HB2 := Aside0.mk (HB1.out.trans (hb2.mono HB1.out.size))
    clear hb2
    obtain ⟨bc, bf⟩ := bcell HB2.out
    go_wp2_with fail
    refine (bv (rfits_calls r.cls 2 _ RCr.out r64_2) (e_cl.out)).mono ?_
    rintro e w3 ⟨rfl, rfl⟩
    have HB3 := HB2
    go_wp2_with fail
    go_ret
    refine ⟨?_, (BX.out.trans (HB3.out.mono (by simp; try omega)))⟩
    rw [HN.out]; rfl
  have f_lo : 0 ≤ r.ttl := q_lo
  have e_lo := Aside0.mk q_lo
  clear q_lo
  by_cases q_hi : r.ttl < 2147483648
  rotate_left
  · have HN : Aside0 ((rrSound r) = false) := ⟨eq_false_of_ne_true fun h => q_hi (by obtain ⟨g_na, g_da, g_cl, g_lo, g_hi⟩ := HD.out.1 h; exact g_hi)⟩
    have f_hi : decide (r.ttl < 2147483648) = false := decide_eq_false q_hi
    have e_hi := Aside0.mk q_hi
    clear q_hi
    go_enter Try.func35, Try.ntmps35
    go_wp2_with fail
    refine (bv (rsound_calls _ r.name _ (RVr.out.below pS (BX.out.trans (HB0.out.mono (by simp; try omega))))) (e_na.out)).mono ?_
    rintro e w1 ⟨rfl, rfl⟩
    have HB1 := HB0
    go_wp2_with fail
    refine (bv (rdata_calls r.typ r.data _ _ (K_below KDr.out (BX.out.trans (HB1.out.mono (by simp; try omega))))) (decide_eq_true e_da.out)).mono ?_
    rintro e w2 ⟨rfl, hb2⟩
    have HB2 := Aside0.mk (HB1.out.trans (hb2.mono HB1.out.size))
    clear hb2
    obtain ⟨bc, bf⟩ := bcell HB2.out
    go_wp2_with fail
    refine (bv (rfits_calls r.cls 2 _ RCr.out r64_2) (e_cl.out)).mono ?_
    rintro e w3 ⟨rfl, rfl⟩
    have HB3 := HB2
    go_wp2_with fail
    go_ret
    refine ⟨?_, (BX.out.trans (HB3.out.mono (by simp; try omega)))⟩
    rw [HN.out]; rfl
  have f_hi : decide (r.ttl < 2147483648) = true := decide_eq_true q_hi
  have e_hi := Aside0.mk q_hi
  clear q_hi
  have HY : Aside0 ((rrSound r) = true) := ⟨HD.out.2 ⟨e_na.out, e_da.out, e_cl.out, e_lo.out, e_hi.out⟩⟩
  go_enter Try.func35, Try.ntmps35
  go_wp2_with fail
  refine (bv (rsound_calls _ r.name _ (RVr.out.below pS (BX.out.trans (HB0.out.mono (by simp; try omega))))) (e_na.out)).mono ?_
  rintro e w1 ⟨rfl, rfl⟩
  have HB1 := HB0
  go_wp2_with fail
  refine (bv (rdata_calls r.typ r.data _ _ (K_below KDr.out (BX.out.trans (HB1.out.mono (by simp; try omega))))) (decide_eq_true e_da.out)).mono ?_
  rintro e w2 ⟨rfl, hb2⟩
  have HB2 := Aside0.mk (HB1.out.trans (hb2.mono HB1.out.size))
  clear hb2
  obtain ⟨bc, bf⟩ := bcell HB2.out
  go_wp2_with fail
  refine (bv (rfits_calls r.cls 2 _ RCr.out r64_2) (e_cl.out)).mono ?_
  rintro e w3 ⟨rfl, rfl⟩
  have HB3 := HB2
  go_wp2_with fail
  go_ret
  refine ⟨?_, (BX.out.trans (HB3.out.mono (by simp; try omega)))⟩
  rw [HY.out]; rfl
set_option maxHeartbeats 4000000 in
set_option maxRecDepth 100000 in
theorem clash_calls (a b : RR) (ca cb : List Value) (w : World) (ha : kR.K w (fun _ => True) a ca) (hb : kR.K w (fun _ => True) b cb) :
    Calls Try.prog 72 #[.agg ca.toArray, .agg cb.toArray] w fun e w' => e = .returned (.bool (clash a b)) ∧ Below w.heap.size w w' := by
  have Ka := Aside0.mk ha
  obtain ⟨vva, cda, rfl, hva, hta, hca, hla, hda⟩ := ha
  have RVa := Aside0.mk hva
  have KDa := Aside0.mk hda
  have RTa := Aside0.mk hta
  have RCa := Aside0.mk hca
  clear hta hca hla
  obtain ⟨vba, vha, vma, vna, vta, rfl, _⟩ := hda
  clear hva
  have Kb := Aside0.mk hb
  obtain ⟨vvb, cdb, rfl, hvb, htb, hcb, hlb, hdb⟩ := hb
  have RVb := Aside0.mk hvb
  have KDb := Aside0.mk hdb
  have RTb := Aside0.mk htb
  have RCb := Aside0.mk hcb
  clear htb hcb hlb
  obtain ⟨vbb, vhb, vmb, vnb, vtb, rfl, _⟩ := hdb
  clear hvb
  have BX : Aside0 (Below w.heap.size w ((w.alloc (.cells #[vva, .int .i64 a.typ, .int .i64 a.cls, .int .i64 a.ttl, vba, vha, vma, vna, vta] 44)).alloc (.cells #[vvb, .int .i64 b.typ, .int .i64 b.cls, .int .i64 b.ttl, vbb, vhb, vmb, vnb, vtb] 44))) := ⟨below_alloc (below_alloc (Below.refl _ _) _) _⟩
  by_cases qe : nEq a.name b.name = true
  rotate_left
  · have HE := Aside0.mk (eq_false_of_ne_true qe)
    have HR : Aside0 (clash a b = false) := ⟨by unfold clash; rw [HE.out]; rfl⟩
    clear qe
    go_enter Try.func72, Try.ntmps72
    go_wp2_with fail
    refine (bv (equal_calls _ _ a.name b.name _ (RVa.out.below pS BX.out) (RVb.out.below pS BX.out)) HE.out).mono ?_
    rintro e w1 ⟨rfl, hb1⟩
    have HB1 := Aside0.mk (BX.out.trans (hb1.mono (by simp; try omega)))
    obtain ⟨bc, bf⟩ := bcell hb1
    clear hb1
    go_wp2_with fail
    go_ret
    refine ⟨?_, HB1.out⟩
    rw [HR.out]; rfl
  have HE := Aside0.mk qe
  clear qe
  by_cases qt : a.typ = b.typ
  rotate_left
  · have f1 : (a.typ != b.typ) = true := bne_iff_ne.mpr qt
    by_cases q5 : a.typ = 5
    · have f5 : (a.typ == 5) = true := beq_iff_eq.mpr q5
      have HR : Aside0 (clash a b = true) := ⟨by unfold clash; rw [HE.out, if_neg qt, decide_eq_true q5]; rfl⟩
      clear q5 qt
      go_enter Try.func72, Try.ntmps72
      go_wp2_with fail
      refine (bv (equal_calls _ _ a.name b.name _ (RVa.out.below pS BX.out) (RVb.out.below pS BX.out)) HE.out).mono ?_
      rintro e w1 ⟨rfl, hb1⟩
      have HB1 := Aside0.mk (BX.out.trans (hb1.mono (by simp; try omega)))
      obtain ⟨bc, bf⟩ := bcell hb1
      clear hb1
      go_wp2_with fail
      go_ret
      refine ⟨?_, HB1.out⟩
      rw [HR.out]; rfl
    · have f5 : (a.typ == 5) = false := beq_eq_false_iff_ne.mpr q5
      have HR : Aside0 (clash a b = (b.typ == 5)) := ⟨by unfold clash; rw [HE.out, if_neg qt, decide_eq_false q5, Bool.true_and, Bool.false_or]; rfl⟩
      clear q5 qt
      go_enter Try.func72, Try.ntmps72
      go_wp2_with fail
      refine (bv (equal_calls _ _ a.name b.name _ (RVa.out.below pS BX.out) (RVb.out.below pS BX.out)) HE.out).mono ?_
      rintro e w1 ⟨rfl, hb1⟩
      have HB1 := Aside0.mk (BX.out.trans (hb1.mono (by simp; try omega)))
      obtain ⟨bc, bf⟩ := bcell hb1
      clear hb1
      go_wp2_with fail
      go_ret
      refine ⟨?_, HB1.out⟩
      rw [HR.out]; rfl
  have f1 : (a.typ != b.typ) = false := bne_eq_false_iff_eq.mpr qt
  by_cases q5 : a.typ = 5
  · have f5 : (a.typ == 5) = true := beq_iff_eq.mpr q5
    have HR : Aside0 (clash a b = true) := ⟨by unfold clash; rw [HE.out, if_pos qt, decide_eq_true q5]; rfl⟩
    clear q5 qt
    go_enter Try.func72, Try.ntmps72
    go_wp2_with fail
    refine (bv (equal_calls _ _ a.name b.name _ (RVa.out.below pS BX.out) (RVb.out.below pS BX.out)) HE.out).mono ?_
    rintro e w1 ⟨rfl, hb1⟩
    have HB1 := Aside0.mk (BX.out.trans (hb1.mono (by simp; try omega)))
    obtain ⟨bc, bf⟩ := bcell hb1
    clear hb1
    go_wp2_with fail
    go_ret
    refine ⟨?_, HB1.out⟩
    rw [HR.out]; rfl
  have f5 : (a.typ == 5) = false := beq_eq_false_iff_ne.mpr q5
  by_cases ql : a.ttl = b.ttl
  rotate_left
  · have fl : (a.ttl != b.ttl) = true := bne_iff_ne.mpr ql
    have HR : Aside0 (clash a b = true) := ⟨by unfold clash; rw [HE.out, if_pos qt, decide_eq_false q5, decide_eq_false ql]; rfl⟩
    clear q5 qt ql
    go_enter Try.func72, Try.ntmps72
    go_wp2_with fail
    refine (bv (equal_calls _ _ a.name b.name _ (RVa.out.below pS BX.out) (RVb.out.below pS BX.out)) HE.out).mono ?_
    rintro e w1 ⟨rfl, hb1⟩
    have HB1 := Aside0.mk (BX.out.trans (hb1.mono (by simp; try omega)))
    obtain ⟨bc, bf⟩ := bcell hb1
    clear hb1
    go_wp2_with fail
    go_ret
    refine ⟨?_, HB1.out⟩
    rw [HR.out]; rfl
  have fl : (a.ttl != b.ttl) = false := bne_eq_false_iff_eq.mpr ql
  have HR : Aside0 (clash a b = dSame a.data b.data) := ⟨by unfold clash; rw [HE.out, if_pos qt, decide_eq_false q5, decide_eq_true ql, Bool.true_and, Bool.false_or]; rfl⟩
  clear q5 qt ql
  go_enter Try.func72, Try.ntmps72
  go_wp2_with fail
  refine (bv (equal_calls _ _ a.name b.name _ (RVa.out.below pS BX.out) (RVb.out.below pS BX.out)) HE.out).mono ?_
  rintro e w1 ⟨rfl, hb1⟩
  have HB1 := Aside0.mk (BX.out.trans (hb1.mono (by simp; try omega)))
  obtain ⟨bc, bf⟩ := bcell hb1
  clear hb1
  go_wp2_with fail
  refine (dsame_calls a.data b.data _ _ _ (K_below KDa.out HB1.out) (K_below KDb.out HB1.out)).mono ?_
  rintro e w2 ⟨rfl, hb2⟩
  have HB2 := Aside0.mk (HB1.out.trans (hb2.mono HB1.out.size))
  clear hb2
  go_wp2_with fail
  go_ret
  refine ⟨?_, HB2.out⟩
  rw [HR.out]; rfl
end Go.Proofs.Ytkbjbkmaokebgaa.Gz

import Derived.Test.YtkbjbkmaokebgaaAsk
import Derived.Test.YtkbjbkmaokebgaaLaw17b
set_option linter.unusedVariables false
set_option linter.unusedSimpArgs false
namespace Go.Proofs.Ytkbjbkmaokebgaa.Gz
open Go.RowKit Go.Proofs.YtkbjbkmaokebgaaW.PrintWords
open Ki
theorem under_len {a b : List ByteArray} (h : nUnder a b = true) : nEq a b = decide (a.length = b.length) := by
  by_cases hl : a.length = b.length
  · rw [under_eq h hl, decide_eq_true hl]
  · rw [decide_eq_false hl]
    cases he : nEq a b with
    | false => rfl
    | true => exact absurd (map_len ((nEq_iff _ _).1 he)) hl
theorem any_take (l : List RR) (p : RR → Bool) (k : Nat) (h : k < l.length) : (l.take (k + 1)).any p = ((l.take k).any p || p l[k]) := by
  rw [List.take_succ_eq_append_getElem h, List.any_append]; simp
theorem any_take_of (l : List RR) (p : RR → Bool) (j k : Nat) (hj : j < k) (hk : k ≤ l.length) (h : p (l[j]'(by omega)) = true) : (l.take k).any p = true := by
  refine List.any_eq_true.2 ⟨l[j]'(by omega), ?_, h⟩
  rw [List.mem_take_iff_getElem]
  exact ⟨j, by omega, rfl⟩
set_option maxHeartbeats 16000000 in
set_option maxRecDepth 100000 in
theorem snd17_calls (z : Zone) (cz : List Value) (w : World) (hz : kZ.K w (fun _ => True) z cz) :
    Calls Try.prog 13 #[.agg cz.toArray] w fun e w' => e = .returned (.bool (zSound z)) ∧ Below w.heap.size w w' := by
  obtain ⟨vn, vr, rfl, hn, hr⟩ := hz
  have RN := Aside0.mk hn
  have RR' := Aside0.mk hr
  have hmax := hr.max
  obtain ⟨An, cn, rfl, hln, _⟩ := hn
  obtain ⟨Ar, cr, rfl, hlr, _⟩ := hr
  generalize hW0 : w.alloc (.cells #[.slice An z.name.length cn, .slice Ar z.recs.length cr] 31) = W0
  have BX : Aside0 (Below w.heap.size w W0) := ⟨by rw [← hW0]; exact below_alloc (Below.refl _ _) _⟩
  have hs0 : W0.heap.size = w.heap.size + 1 := by rw [← hW0]; simp
  have z0 : Aside0 (W0.cell? ⟨w.heap.size, 0, none⟩ = some (.slice An z.name.length cn) ∧ W0.cell? ⟨w.heap.size, 1, none⟩ = some (.slice Ar z.recs.length cr)) := ⟨by rw [← hW0]; simp, by rw [← hW0]; simp⟩
  have HW0 := Aside0.mk hW0
  have HS0 := Aside0.mk hs0
  have y0 := z0.out.1
  have y1 := z0.out.2
  have hl0 : w.heap.size < W0.heap.size := by omega
  clear hW0 hs0
  cases h1 : nSound z.name with
  | false =>
    have HR : Aside0 (zSound z = false) := ⟨by unfold zSound; rw [h1]; rfl⟩
    have H1 := Aside0.mk h1
    clear h1
    go_enter Try.func13, Try.ntmps13
    go_wp2_with fail
    rw [HW0.out]
    refine (bv (rsound_calls _ z.name _ (RN.out.below pS BX.out)) (H1.out)).mono ?_
    rintro e w1 ⟨rfl, rfl⟩
    have HB := BX
    go_wp2_with fail
    go_ret
    refine ⟨?_, HB.out⟩
    rw [HR.out]; rfl
  | true =>
    have H1 := Aside0.mk h1
    clear h1
    by_cases q1 : 1 ≤ z.recs.length
    rotate_left
    · have f1 : z.recs.length < 1 := by omega
      have HR : Aside0 (zSound z = false) := ⟨by unfold zSound; rw [decide_eq_false q1]; simp⟩
      clear q1
      go_enter Try.func13, Try.ntmps13
      go_wp2_with fail
      rw [HW0.out]
      refine (bv (rsound_calls _ z.name _ (RN.out.below pS BX.out)) (H1.out)).mono ?_
      rintro e w1 ⟨rfl, rfl⟩
      have HB := BX
      go_wp2_with fail
      go_ret
      refine ⟨?_, HB.out⟩
      rw [HR.out]; rfl
    by_cases q2 : z.recs.length ≤ 256
    rotate_left
    · have f1 : ¬ z.recs.length < 1 := by omega
      have f2 : 256 < z.recs.length := by omega
      have HR : Aside0 (zSound z = false) := ⟨by unfold zSound; rw [decide_eq_false q2]; simp⟩
      clear q1 q2
      go_enter Try.func13, Try.ntmps13
      go_wp2_with fail
      rw [HW0.out]
      refine (bv (rsound_calls _ z.name _ (RN.out.below pS BX.out)) (H1.out)).mono ?_
      rintro e w1 ⟨rfl, rfl⟩
      have HB := BX
      go_wp2_with fail
      go_ret
      refine ⟨?_, HB.out⟩
      rw [HR.out]; rfl
    have f1 : ¬ z.recs.length < 1 := by omega
    have f2 : ¬ 256 < z.recs.length := by omega
    have Q1 := Aside0.mk q1
    have Q2 := Aside0.mk q2
    clear q1 q2
    go_enter Try.func13, Try.ntmps13
    go_wp2_with fail
    rw [HW0.out]
    refine (bv (rsound_calls _ z.name _ (RN.out.below pS BX.out)) (H1.out)).mono ?_
    rintro e w1 ⟨rfl, rfl⟩
    have HB1 := Aside0.mk (Below.refl W0.heap.size W0)
    go_wp2_with fail
    go_loopg [3, 4] z.recs.length (fun gg s3 s4 wr => ∃ k : Nat, k ≤ z.recs.length ∧ z.recs.length - k ≤ gg ∧ s4 = .int .i64 k ∧ s3 = .int .i64 (soas (z.recs.take k) : Nat) ∧ Aside0 (Below W0.heap.size W0 wr) ∧ Aside0 (zall z.name [] z.recs = zall z.name (z.recs.take k) (z.recs.drop k)))
    case atStart => exact ⟨0, Nat.zero_le _, by omega, rfl, rfl, HB1, ⟨rfl⟩⟩
    case round =>
      obtain ⟨k, hk, hg, rfl, rfl, HB, HA⟩ := hrel
      clear y0 y1
      obtain ⟨wo, rfl⟩ : ∃ wo : World, wo = wr := ⟨_, rfl⟩
      have y0 := (HB.out.cell (p := ⟨w.heap.size, 0, none⟩) (by rw [HS0.out]; simp)).trans z0.out.1
      have y1 := (HB.out.cell (p := ⟨w.heap.size, 1, none⟩) (by rw [HS0.out]; simp)).trans z0.out.2
      by_cases hlt : k < z.recs.length
      · have hbw := BX.out.trans (HB.out.mono BX.out.size)
        have hszr : w.heap.size < wo.heap.size := by have := HB.out.size; rw [HS0.out] at this; omega
        obtain ⟨Ar', cr', he, _, hrow⟩ := RR'.out.below pR hbw
        obtain ⟨rfl, rfl⟩ : Ar = Ar' ∧ cr = cr' := by injection he with h1 _ h3; exact ⟨h1, h3⟩
        have HROW := Aside0.mk hrow
        obtain ⟨ad, vv, c4, c5, c6, c7, c8, rfl, hK, e0, e1, e2, e3, e4, e5, e6, e7, e8⟩ := cell_r hrow k hlt
        have HLT := Aside0.mk hlt
        have HA2 := Aside0.mk (zall_step z.name z.recs k hlt)
        have HC2 : Aside0 (soas (z.recs.take (k + 1)) = soas (z.recs.take k) + if z.recs[k].typ = 6 then 1 else 0) := ⟨by rw [List.take_succ_eq_append_getElem hlt, soas_snoc]⟩
        have hcl : soas (z.recs.take k) ≤ 256 := by have := soas_le (z.recs.take k); rw [List.length_take] at this; have := Q2.out; omega
        generalize soas (z.recs.take k) = S at hcl HC2
        generalize hy : z.recs[k] = r at hK e1 e2 e3 HA2 HC2
        have HY := Aside0.mk hy
        obtain ⟨A0, k0, A4, k4, A5, k5, A6, k6, A7, k7, A8, k8, rfl, rfl, rfl, rfl, rfl, rfl⟩ := kR_form hK
        have HK := Aside0.mk hK
        have hKn := hK
        obtain ⟨v0, cd0, hcs, hv0, _, _, _, hd0⟩ := hKn
        obtain ⟨rfl, _, _, _, rfl⟩ : Value.slice A0 r.name.length k0 = v0 ∧ _ ∧ _ ∧ _ ∧ _ = cd0 := by simpa only [List.cons.injEq] using hcs
        have HV := Aside0.mk hv0
        have HD := Aside0.mk hd0
        clear hy hK hrow he hcs hv0 hd0
        go_wp2_with fail
        generalize hW1 : wo.alloc (.cells #[.slice A0 r.name.length k0, .int .i64 r.typ, .int .i64 r.cls, .int .i64 r.ttl, .slice A4 r.data.bytes.length k4, .slice A5 r.data.host.length k5, .slice A6 r.data.mail.length k6, .slice A7 r.data.nums.length k7, .slice A8 r.data.texts.length k8] 44) = W1
        have hs1 : W1.heap.size = wo.heap.size + 1 := by rw [← hW1]; simp
        have BWr : Below wo.heap.size wo W1 := by rw [← hW1]; exact below_alloc (Below.refl _ _) _
        have BW : Aside0 (Below w.heap.size w W1) := ⟨hbw.trans (BWr.mono hbw.size)⟩
        have BWr := Aside0.mk BWr
        have x0 : W1.cell? ⟨wo.heap.size, 0, none⟩ = some (Value.slice A0 r.name.length k0) := by rw [← hW1, cellN rfl]; rfl
        have x1 : W1.cell? ⟨wo.heap.size, 1, none⟩ = some (.int .i64 r.typ) := by rw [← hW1, cellN rfl]; rfl
        have x2 : W1.cell? ⟨wo.heap.size, 2, none⟩ = some (.int .i64 r.cls) := by rw [← hW1, cellN rfl]; rfl
        have x3 : W1.cell? ⟨wo.heap.size, 3, none⟩ = some (.int .i64 r.ttl) := by rw [← hW1, cellN rfl]; rfl
        have x4 : W1.cell? ⟨wo.heap.size, 4, none⟩ = some (.slice A4 r.data.bytes.length k4) := by rw [← hW1, cellN rfl]; rfl
        have x5 : W1.cell? ⟨wo.heap.size, 5, none⟩ = some (.slice A5 r.data.host.length k5) := by rw [← hW1, cellN rfl]; rfl
        have x6 : W1.cell? ⟨wo.heap.size, 6, none⟩ = some (.slice A6 r.data.mail.length k6) := by rw [← hW1, cellN rfl]; rfl
        have x7 : W1.cell? ⟨wo.heap.size, 7, none⟩ = some (.slice A7 r.data.nums.length k7) := by rw [← hW1, cellN rfl]; rfl
        have x8 : W1.cell? ⟨wo.heap.size, 8, none⟩ = some (.slice A8 r.data.texts.length k8) := by rw [← hW1, cellN rfl]; rfl
        have y0' := (BWr.out.cell (p := ⟨w.heap.size, 0, none⟩) hszr).trans y0
        have y1' := (BWr.out.cell (p := ⟨w.heap.size, 1, none⟩) hszr).trans y1
        have hl1 : w.heap.size < W1.heap.size := by omega
        have hl2 : wo.heap.size < W1.heap.size := by omega
        have HS1 := Aside0.mk hs1
        have HBW := Aside0.mk hbw
        clear hW1 hs1 e0 e1 e2 e3 e4 e5 e6 e7 e8 y0 y1 hbw
        cases p1 : rrSound r with
        | false =>
          have P1 := Aside0.mk p1
          clear p1
          refine (bv (rrrsound_calls r _ _ (K_below HK.out BWr.out)) P1.out).mono ?_
          rintro e w1 ⟨rfl, hb1⟩
          have HB1 := Aside0.mk (hb1)
          clear hb1
          obtain ⟨bc, bf⟩ := bcell HB1.out
          have HR : Aside0 (zSound z = false) := ⟨zSound_no k HLT.out HA.out (by rw [HY.out]; unfold zrec; rw [P1.out]; rfl)⟩
          go_wp2_with fail
          go_ret
          refine ⟨?_, BW.out.trans (HB1.out.mono (by have := BW.out.size; omega))⟩
          rw [HR.out]; rfl
        | true =>
          have P1 := Aside0.mk p1
          clear p1
          refine (bv (rrrsound_calls r _ _ (K_below HK.out BWr.out)) P1.out).mono ?_
          rintro e w1 ⟨rfl, hb1⟩
          have HB1 := Aside0.mk (hb1)
          clear hb1
          obtain ⟨bc, bf⟩ := bcell HB1.out
          by_cases p2 : r.cls = 1
          rotate_left
          · have f3 : (r.cls != 1) = true := bne_iff_ne.mpr p2
            have P2 := Aside0.mk p2
            clear p2
            have HR : Aside0 (zSound z = false) := ⟨zSound_no k HLT.out HA.out (by rw [HY.out]; unfold zrec; rw [decide_eq_false P2.out]; simp)⟩
            go_wp2_with fail
            go_ret
            refine ⟨?_, BW.out.trans (HB1.out.mono (by have := BW.out.size; omega))⟩
            rw [HR.out]; rfl
          have f3 : (r.cls != 1) = false := bne_eq_false_iff_eq.mpr p2
          have P2 := Aside0.mk p2
          clear p2
          by_cases p4 : r.typ = 41
          · have f4 : (r.typ == 41) = true := beq_iff_eq.mpr p4
            have P4 := Aside0.mk p4
            clear p4
            have HR : Aside0 (zSound z = false) := ⟨zSound_no k HLT.out HA.out (by rw [HY.out]; unfold zrec; rw [decide_eq_true P4.out]; simp)⟩
            go_wp2_with fail
            go_ret
            refine ⟨?_, BW.out.trans (HB1.out.mono (by have := BW.out.size; omega))⟩
            rw [HR.out]; rfl
          have f4 : (r.typ == 41) = false := beq_eq_false_iff_ne.mpr p4
          have P4 := Aside0.mk p4
          clear p4
          by_cases p5 : r.typ = 255
          · have f5 : (r.typ == 255) = true := beq_iff_eq.mpr p5
            have P5 := Aside0.mk p5
            clear p5
            have HR : Aside0 (zSound z = false) := ⟨zSound_no k HLT.out HA.out (by rw [HY.out]; unfold zrec; rw [decide_eq_true P5.out]; simp)⟩
            go_wp2_with fail
            go_ret
            refine ⟨?_, BW.out.trans (HB1.out.mono (by have := BW.out.size; omega))⟩
            rw [HR.out]; rfl
          have f5 : (r.typ == 255) = false := beq_eq_false_iff_ne.mpr p5
          have P5 := Aside0.mk p5
          clear p5
          go_wp2_with fail
          cases p3 : nUnder r.name z.name with
          | false =>
            have P3 := Aside0.mk p3
            clear p3
            refine (bv (runder_calls _ _ r.name z.name _ (HV.out.below pS (BWr.out.trans (HB1.out.mono BWr.out.size))) (RN.out.below pS (BW.out.trans (HB1.out.mono BW.out.size)))) P3.out).mono ?_
            rintro e w2 ⟨rfl, hb2⟩
            have HB2 := Aside0.mk (HB1.out.trans (hb2.mono HB1.out.size))
            clear hb2 bc bf
            obtain ⟨bc, bf⟩ := bcell HB2.out
            have HR : Aside0 (zSound z = false) := ⟨zSound_no k HLT.out HA.out (by rw [HY.out]; unfold zrec; rw [P3.out]; simp)⟩
            go_wp2_with fail
            go_ret
            refine ⟨?_, BW.out.trans (HB2.out.mono (by have := BW.out.size; omega))⟩
            rw [HR.out]; rfl
          | true =>
            have P3 := Aside0.mk p3
            clear p3
            refine (bv (runder_calls _ _ r.name z.name _ (HV.out.below pS (BWr.out.trans (HB1.out.mono BWr.out.size))) (RN.out.below pS (BW.out.trans (HB1.out.mono BW.out.size)))) P3.out).mono ?_
            rintro e w2 ⟨rfl, hb2⟩
            have HB2 := Aside0.mk (HB1.out.trans (hb2.mono HB1.out.size))
            clear hb2 bc bf
            obtain ⟨bc, bf⟩ := bcell HB2.out
            by_cases p7 : r.typ = 6
            · have f10 : (r.typ == 6) = true := beq_iff_eq.mpr p7
              have P7 := Aside0.mk p7
              clear p7
              go_wp2_with fail
              cases p8 : nEq r.name z.name with
              | false =>
                have P8 := Aside0.mk p8
                clear p8
                refine (bv (requal_calls _ _ r.name z.name _ (HV.out.below pS (BWr.out.trans (HB2.out.mono BWr.out.size))) (RN.out.below pS (BW.out.trans (HB2.out.mono BW.out.size)))) P8.out).mono ?_
                rintro e w3 ⟨rfl, hb3⟩
                have HB3 := Aside0.mk (HB2.out.trans (hb3.mono HB2.out.size))
                clear hb3 bc bf
                obtain ⟨bc, bf⟩ := bcell HB3.out
                have HR : Aside0 (zSound z = false) := ⟨zSound_no k HLT.out HA.out (by
                  have h8 := P8.out
                  rw [under_len P3.out] at h8
                  rw [HY.out]; unfold zrec; rw [decide_eq_true P7.out, h8]; simp)⟩
                go_wp2_with fail
                go_ret
                refine ⟨?_, BW.out.trans (HB3.out.mono (by have := BW.out.size; omega))⟩
                rw [HR.out]; rfl
              | true =>
                have P8' := Aside0.mk p8
                have P8 : Aside0 (r.name.length = z.name.length) := ⟨map_len ((nEq_iff _ _).1 p8)⟩
                clear p8
                refine (bv (requal_calls _ _ r.name z.name _ (HV.out.below pS (BWr.out.trans (HB2.out.mono BWr.out.size))) (RN.out.below pS (BW.out.trans (HB2.out.mono BW.out.size)))) P8'.out).mono ?_
                rintro e w3 ⟨rfl, hb3⟩
                have HB3 := Aside0.mk (HB2.out.trans (hb3.mono HB2.out.size))
                clear hb3 bc bf
                obtain ⟨bc, bf⟩ := bcell HB3.out
                go_wp2_with fail
                have z1c := (bc w.heap.size 1 hl1).trans y1'
                have z0c := (bc w.heap.size 0 hl1).trans y0'
                have xx0 := (bc wo.heap.size 0 hl2).trans x0
                have xx1 := (bc wo.heap.size 1 hl2).trans x1
                have xx3 := (bc wo.heap.size 3 hl2).trans x3
                have xx4 := (bc wo.heap.size 4 hl2).trans x4
                have xx5 := (bc wo.heap.size 5 hl2).trans x5
                have xx6 := (bc wo.heap.size 6 hl2).trans x6
                have xx7 := (bc wo.heap.size 7 hl2).trans x7
                have xx8 := (bc wo.heap.size 8 hl2).trans x8
                have hl3 : w.heap.size < w3.heap.size := Nat.lt_of_lt_of_le hl1 HB3.out.size
                have hl4 : wo.heap.size < w3.heap.size := Nat.lt_of_lt_of_le hl2 HB3.out.size
                have BWW : Aside0 (Below w.heap.size w w3) := ⟨BW.out.trans (HB3.out.mono BW.out.size)⟩
                have BW0 : Aside0 (Below W0.heap.size W0 w3) := ⟨(HB.out.trans (BWr.out.mono HB.out.size)).trans (HB3.out.mono (HB.out.trans (BWr.out.mono HB.out.size)).size)⟩
                have BWR : Aside0 (Below wo.heap.size wo w3) := ⟨BWr.out.trans (HB3.out.mono BWr.out.size)⟩
                have XX := Aside0.mk (And.intro z1c (And.intro xx0 (And.intro xx1 (And.intro xx3 (And.intro xx4 (And.intro xx5 (And.intro xx6 (And.intro xx7 xx8))))))))
                clear bc bf x0 x1 x2 x3 x4 x5 x6 x7 x8 y0' y1' z0c z1c xx0 xx1 xx3 xx4 xx5 xx6 xx7 xx8
                go_loopg [6] z.recs.length (fun gg s6 wr => ∃ j : Nat, j ≤ k ∧ k - j ≤ gg ∧ s6 = .int .i64 j ∧ Aside0 (Below w3.heap.size w3 wr) ∧ Aside0 ((z.recs.take j).any (fun o => clash o r) = false))
                case atStart => exact ⟨0, Nat.zero_le _, by omega, rfl, ⟨Below.refl _ _⟩, ⟨rfl⟩⟩
                case round =>
                  obtain ⟨j, hj, hg2, rfl, HBI, HI⟩ := hrel
                  by_cases hjk : j < k
                  · have hjl : j < z.recs.length := by omega
                    have hwr1 : wo.heap.size < wr.heap.size := Nat.lt_of_lt_of_le hl4 HBI.out.size
                    have hwr2 : w.heap.size < wr.heap.size := Nat.lt_of_lt_of_le hl3 HBI.out.size
                    have BWi : Aside0 (Below w.heap.size w wr) := ⟨BWW.out.trans (HBI.out.mono BWW.out.size)⟩
                    have BRi : Aside0 (Below wo.heap.size wo wr) := ⟨BWR.out.trans (HBI.out.mono BWR.out.size)⟩
                    have y1 := (HBI.out.cell (p := ⟨w.heap.size, 1, none⟩) hl3).trans XX.out.1
                    have t0 := (HBI.out.cell (p := ⟨wo.heap.size, 0, none⟩) hl4).trans XX.out.2.1
                    have t1 := (HBI.out.cell (p := ⟨wo.heap.size, 1, none⟩) hl4).trans XX.out.2.2.1
                    have t3 := (HBI.out.cell (p := ⟨wo.heap.size, 3, none⟩) hl4).trans XX.out.2.2.2.1
                    have t4 := (HBI.out.cell (p := ⟨wo.heap.size, 4, none⟩) hl4).trans XX.out.2.2.2.2.1
                    have t5 := (HBI.out.cell (p := ⟨wo.heap.size, 5, none⟩) hl4).trans XX.out.2.2.2.2.2.1
                    have t6 := (HBI.out.cell (p := ⟨wo.heap.size, 6, none⟩) hl4).trans XX.out.2.2.2.2.2.2.1
                    have t7 := (HBI.out.cell (p := ⟨wo.heap.size, 7, none⟩) hl4).trans XX.out.2.2.2.2.2.2.2.1
                    have t8 := (HBI.out.cell (p := ⟨wo.heap.size, 8, none⟩) hl4).trans XX.out.2.2.2.2.2.2.2.2
                    obtain ⟨Ar2, cr2, he2, _, hrow2⟩ := RR'.out.below pR BWi.out
                    obtain ⟨rfl, rfl⟩ : some ad = Ar2 ∧ cr = cr2 := by injection he2 with h1 _ h3; exact ⟨h1, h3⟩
                    obtain ⟨ad2, vw, d4, d5, d6, d7, d8, had, hK, e0, e1, e2, e3, e4, e5, e6, e7, e8⟩ := cell_r hrow2 j hjl
                    obtain rfl : ad = ad2 := by injection had
                    have HST := Aside0.mk (any_take z.recs (fun o => clash o r) j hjl)
                    have HTK := Aside0.mk (fun h => any_take_of z.recs (fun o => clash o r) j k hjk hk h)
                    generalize hy : z.recs[j] = o at hK e1 e2 e3 HST HTK
                    obtain ⟨A0o, k0o, A4o, k4o, A5o, k5o, A6o, k6o, A7o, k7o, A8o, k8o, rfl, rfl, rfl, rfl, rfl, rfl⟩ := kR_form hK
                    have hKn := hK
                    obtain ⟨v0, cd0, hcs, hv0, _, _, _, hd0⟩ := hKn
                    obtain ⟨rfl, _, _, _, rfl⟩ : Value.slice A0o o.name.length k0o = v0 ∧ _ ∧ _ ∧ _ ∧ _ = cd0 := by simpa only [List.cons.injEq] using hcs
                    have HVo := Aside0.mk hv0
                    have HDo := Aside0.mk hd0
                    clear hy hK hrow2 he2 hcs hv0 hd0 had
                    have HJ := Aside0.mk hjk
                    have hj256 : j ≤ 256 := by have := Q2.out; omega
                    go_wp2_with fail
                    generalize hW5 : wr.alloc (.cells #[.slice A0o o.name.length k0o, .int .i64 o.typ, .int .i64 o.cls, .int .i64 o.ttl, .slice A4o o.data.bytes.length k4o, .slice A5o o.data.host.length k5o, .slice A6o o.data.mail.length k6o, .slice A7o o.data.nums.length k7o, .slice A8o o.data.texts.length k8o] 44) = W5
                    have hs5 : W5.heap.size = wr.heap.size + 1 := by rw [← hW5]; simp
                    have B5 : Below wr.heap.size wr W5 := by rw [← hW5]; exact below_alloc (Below.refl _ _) _
                    have u0 : W5.cell? ⟨wr.heap.size, 0, none⟩ = some (Value.slice A0o o.name.length k0o) := by rw [← hW5, cellN rfl]; rfl
                    have u1 : W5.cell? ⟨wr.heap.size, 1, none⟩ = some (.int .i64 o.typ) := by rw [← hW5, cellN rfl]; rfl
                    have u3 : W5.cell? ⟨wr.heap.size, 3, none⟩ = some (.int .i64 o.ttl) := by rw [← hW5, cellN rfl]; rfl
                    have u4 : W5.cell? ⟨wr.heap.size, 4, none⟩ = some (.slice A4o o.data.bytes.length k4o) := by rw [← hW5, cellN rfl]; rfl
                    have u5 : W5.cell? ⟨wr.heap.size, 5, none⟩ = some (.slice A5o o.data.host.length k5o) := by rw [← hW5, cellN rfl]; rfl
                    have u6 : W5.cell? ⟨wr.heap.size, 6, none⟩ = some (.slice A6o o.data.mail.length k6o) := by rw [← hW5, cellN rfl]; rfl
                    have u7 : W5.cell? ⟨wr.heap.size, 7, none⟩ = some (.slice A7o o.data.nums.length k7o) := by rw [← hW5, cellN rfl]; rfl
                    have u8 : W5.cell? ⟨wr.heap.size, 8, none⟩ = some (.slice A8o o.data.texts.length k8o) := by rw [← hW5, cellN rfl]; rfl
                    replace t0 := (B5.cell (p := ⟨wo.heap.size, 0, none⟩) hwr1).trans t0
                    replace t1 := (B5.cell (p := ⟨wo.heap.size, 1, none⟩) hwr1).trans t1
                    replace t3 := (B5.cell (p := ⟨wo.heap.size, 3, none⟩) hwr1).trans t3
                    replace t4 := (B5.cell (p := ⟨wo.heap.size, 4, none⟩) hwr1).trans t4
                    replace t5 := (B5.cell (p := ⟨wo.heap.size, 5, none⟩) hwr1).trans t5
                    replace t6 := (B5.cell (p := ⟨wo.heap.size, 6, none⟩) hwr1).trans t6
                    replace t7 := (B5.cell (p := ⟨wo.heap.size, 7, none⟩) hwr1).trans t7
                    replace t8 := (B5.cell (p := ⟨wo.heap.size, 8, none⟩) hwr1).trans t8
                    have BB5 := Aside0.mk B5
                    have BI5 : Aside0 (Below w3.heap.size w3 W5) := ⟨HBI.out.trans (B5.mono HBI.out.size)⟩
                    have hl5 : wr.heap.size < W5.heap.size := by omega
                    have hl6 : wo.heap.size < W5.heap.size := by omega
                    clear hW5 hs5 B5 e0 e1 e2 e3 e4 e5 e6 e7 e8 y1
                    cases g1 : nEq o.name r.name with
                    | false =>
                      have G1 := Aside0.mk g1
                      clear g1
                      refine (bv (requal_calls _ _ o.name r.name _ (HVo.out.below pS BB5.out) (HV.out.below pS (BRi.out.trans (BB5.out.mono BRi.out.size)))) G1.out).mono ?_
                      rintro e w6 ⟨rfl, hb6⟩
                      have HB6 := Aside0.mk hb6
                      clear hb6
                      have NX : Aside0 (clash o r = false) := ⟨by unfold clash; rw [G1.out]; rfl⟩
                      go_wp2_with fail
                      go_roundg (k - (j + 1))
                      case measure => have := HLT.out; have := HJ.out; omega
                      case rel => exact ⟨j + 1, by have := HJ.out; omega, by omega, by go_num, ⟨BI5.out.trans (HB6.out.mono BI5.out.size)⟩, ⟨by rw [HST.out, HI.out, NX.out]; rfl⟩⟩
                    | true =>
                      have G1 := Aside0.mk g1
                      clear g1
                      refine (bv (requal_calls _ _ o.name r.name _ (HVo.out.below pS BB5.out) (HV.out.below pS (BRi.out.trans (BB5.out.mono BRi.out.size)))) G1.out).mono ?_
                      rintro e w6 ⟨rfl, hb6⟩
                      have HB6 := Aside0.mk hb6
                      have BI6 : Aside0 (Below w3.heap.size w3 w6) := ⟨BI5.out.trans (HB6.out.mono BI5.out.size)⟩
                      obtain ⟨bc, bf⟩ := bcell hb6
                      clear hb6
                      by_cases g2 : o.typ = 5
                      · have f6 : (o.typ == 5) = true := beq_iff_eq.mpr g2
                        have CL : Aside0 (clash o r = true) := ⟨by unfold clash; rw [G1.out, decide_eq_true g2]; split <;> rfl⟩
                        clear g2
                        have HR : Aside0 (zSound z = false) := ⟨zSound_no k HLT.out HA.out (by rw [HY.out]; unfold zrec; rw [HTK.out CL.out]; simp)⟩
                        go_wp2_with fail
                        go_ret
                        refine ⟨?_, BWW.out.trans (BI6.out.mono BWW.out.size)⟩
                        rw [HR.out]; rfl
                      have f6 : (o.typ == 5) = false := beq_eq_false_iff_ne.mpr g2
                      by_cases g3 : r.typ = 5
                      · have f7 : (r.typ == 5) = true := beq_iff_eq.mpr g3
                        have CL : Aside0 (clash o r = true) := ⟨by unfold clash; rw [G1.out, if_neg (fun h => g2 (h.trans g3)), decide_eq_true g3]; simp⟩
                        clear g2 g3
                        have HR : Aside0 (zSound z = false) := ⟨zSound_no k HLT.out HA.out (by rw [HY.out]; unfold zrec; rw [HTK.out CL.out]; simp)⟩
                        go_wp2_with fail
                        go_ret
                        refine ⟨?_, BWW.out.trans (BI6.out.mono BWW.out.size)⟩
                        rw [HR.out]; rfl
                      have f7 : (r.typ == 5) = false := beq_eq_false_iff_ne.mpr g3
                      by_cases g4 : o.typ = r.typ
                      rotate_left
                      · have f8 : (o.typ == r.typ) = false := beq_eq_false_iff_ne.mpr g4
                        have NX : Aside0 (clash o r = false) := ⟨by unfold clash; rw [if_neg g4, decide_eq_false g2, decide_eq_false g3]; simp⟩
                        clear g2 g3 g4
                        go_wp2_with fail
                        go_roundg (k - (j + 1))
                        case measure => have := HLT.out; have := HJ.out; omega
                        case rel => exact ⟨j + 1, by have := HJ.out; omega, by omega, by go_num, BI6, ⟨by rw [HST.out, HI.out, NX.out]; rfl⟩⟩
                      have f8 : (o.typ == r.typ) = true := beq_iff_eq.mpr g4
                      by_cases g5 : o.ttl = r.ttl
                      rotate_left
                      · have f9 : (o.ttl != r.ttl) = true := bne_iff_ne.mpr g5
                        have CL : Aside0 (clash o r = true) := ⟨by unfold clash; rw [G1.out, if_pos g4, decide_eq_false g5]; simp⟩
                        clear g2 g3 g4 g5
                        have HR : Aside0 (zSound z = false) := ⟨zSound_no k HLT.out HA.out (by rw [HY.out]; unfold zrec; rw [HTK.out CL.out]; simp)⟩
                        go_wp2_with fail
                        go_ret
                        refine ⟨?_, BWW.out.trans (BI6.out.mono BWW.out.size)⟩
                        rw [HR.out]; rfl
                      have f9 : (o.ttl != r.ttl) = false := bne_eq_false_iff_eq.mpr g5
                      have G2 := Aside0.mk g2
                      have G4 := Aside0.mk g4
                      have G5 := Aside0.mk g5
                      clear g2 g3 g4 g5
                      go_wp2_with fail
                      cases g6 : dSame o.data r.data with
                      | true =>
                        have G6 := Aside0.mk g6
                        clear g6
                        refine (bv (rdsame_calls o.data r.data _ _ _ (K_below HDo.out (BB5.out.trans (HB6.out.mono BB5.out.size))) (K_below HD.out ((BRi.out.trans (BB5.out.mono BRi.out.size)).trans (HB6.out.mono (BRi.out.trans (BB5.out.mono BRi.out.size)).size)))) G6.out).mono ?_
                        rintro e w7 ⟨rfl, hb7⟩
                        have BI7 : Aside0 (Below w3.heap.size w3 w7) := ⟨BI6.out.trans (hb7.mono BI6.out.size)⟩
                        clear hb7
                        have CL : Aside0 (clash o r = true) := ⟨by unfold clash; rw [G1.out, if_pos G4.out, G6.out]; simp⟩
                        have HR : Aside0 (zSound z = false) := ⟨zSound_no k HLT.out HA.out (by rw [HY.out]; unfold zrec; rw [HTK.out CL.out]; simp)⟩
                        go_wp2_with fail
                        go_ret
                        refine ⟨?_, BWW.out.trans (BI7.out.mono BWW.out.size)⟩
                        rw [HR.out]; rfl
                      | false =>
                        have G6 := Aside0.mk g6
                        clear g6
                        refine (bv (rdsame_calls o.data r.data _ _ _ (K_below HDo.out (BB5.out.trans (HB6.out.mono BB5.out.size))) (K_below HD.out ((BRi.out.trans (BB5.out.mono BRi.out.size)).trans (HB6.out.mono (BRi.out.trans (BB5.out.mono BRi.out.size)).size)))) G6.out).mono ?_
                        rintro e w7 ⟨rfl, hb7⟩
                        have BI7 : Aside0 (Below w3.heap.size w3 w7) := ⟨BI6.out.trans (hb7.mono BI6.out.size)⟩
                        clear hb7
                        have NX : Aside0 (clash o r = false) := ⟨by unfold clash; rw [G1.out, if_pos G4.out, G6.out, decide_eq_false G2.out, decide_eq_true G5.out]; rfl⟩
                        go_wp2_with fail
                        go_roundg (k - (j + 1))
                        case measure => have := HLT.out; have := HJ.out; omega
                        case rel => exact ⟨j + 1, by have := HJ.out; omega, by omega, by go_num, BI7, ⟨by rw [HST.out, HI.out, NX.out]; rfl⟩⟩
                  · have hkj : j = k := by omega
                    have HKJ := Aside0.mk hkj
                    have P6 : Aside0 ((z.recs.take k).any (fun o => clash o r) = false) := ⟨by have h := HI.out; rw [hkj] at h; exact h⟩
                    have BL : Aside0 (Below W0.heap.size W0 wr) := ⟨BW0.out.trans (HBI.out.mono BW0.out.size)⟩
                    clear hkj
                    go_wp2_with fail
                    go_roundg (z.recs.length - (k + 1))
                    case measure => have := HLT.out; omega
                    case rel =>
                      refine ⟨k + 1, by have := HLT.out; omega, by omega, by go_num, by rw [HC2.out, if_pos P7.out]; go_num, BL, ⟨?_⟩⟩
                      rw [HA.out, HA2.out]
                      unfold zrec
                      rw [P1.out, decide_eq_true P2.out, P3.out, decide_eq_false P4.out, decide_eq_false P5.out, P6.out, decide_eq_true P7.out, decide_eq_true P8.out]; rfl
            · have f10 : (r.typ == 6) = false := beq_eq_false_iff_ne.mpr p7
              have P7 := Aside0.mk p7
              clear p7
              go_wp2_with fail
              have z1c := (bc w.heap.size 1 hl1).trans y1'
              have z0c := (bc w.heap.size 0 hl1).trans y0'
              have xx0 := (bc wo.heap.size 0 hl2).trans x0
              have xx1 := (bc wo.heap.size 1 hl2).trans x1
              have xx3 := (bc wo.heap.size 3 hl2).trans x3
              have xx4 := (bc wo.heap.size 4 hl2).trans x4
              have xx5 := (bc wo.heap.size 5 hl2).trans x5
              have xx6 := (bc wo.heap.size 6 hl2).trans x6
              have xx7 := (bc wo.heap.size 7 hl2).trans x7
              have xx8 := (bc wo.heap.size 8 hl2).trans x8
              have hl3 : w.heap.size < w2.heap.size := Nat.lt_of_lt_of_le hl1 HB2.out.size
              have hl4 : wo.heap.size < w2.heap.size := Nat.lt_of_lt_of_le hl2 HB2.out.size
              have BWW : Aside0 (Below w.heap.size w w2) := ⟨BW.out.trans (HB2.out.mono BW.out.size)⟩
              have BW0 : Aside0 (Below W0.heap.size W0 w2) := ⟨(HB.out.trans (BWr.out.mono HB.out.size)).trans (HB2.out.mono (HB.out.trans (BWr.out.mono HB.out.size)).size)⟩
              have BWR : Aside0 (Below wo.heap.size wo w2) := ⟨BWr.out.trans (HB2.out.mono BWr.out.size)⟩
              have XX := Aside0.mk (And.intro z1c (And.intro xx0 (And.intro xx1 (And.intro xx3 (And.intro xx4 (And.intro xx5 (And.intro xx6 (And.intro xx7 xx8))))))))
              clear bc bf x0 x1 x2 x3 x4 x5 x6 x7 x8 y0' y1' z0c z1c xx0 xx1 xx3 xx4 xx5 xx6 xx7 xx8
              go_loopg [6] z.recs.length (fun gg s6 wr => ∃ j : Nat, j ≤ k ∧ k - j ≤ gg ∧ s6 = .int .i64 j ∧ Aside0 (Below w2.heap.size w2 wr) ∧ Aside0 ((z.recs.take j).any (fun o => clash o r) = false))
              case atStart => exact ⟨0, Nat.zero_le _, by omega, rfl, ⟨Below.refl _ _⟩, ⟨rfl⟩⟩
              case round =>
                obtain ⟨j, hj, hg2, rfl, HBI, HI⟩ := hrel
                by_cases hjk : j < k
                · have hjl : j < z.recs.length := by omega
                  have hwr1 : wo.heap.size < wr.heap.size := Nat.lt_of_lt_of_le hl4 HBI.out.size
                  have hwr2 : w.heap.size < wr.heap.size := Nat.lt_of_lt_of_le hl3 HBI.out.size
                  have BWi : Aside0 (Below w.heap.size w wr) := ⟨BWW.out.trans (HBI.out.mono BWW.out.size)⟩
                  have BRi : Aside0 (Below wo.heap.size wo wr) := ⟨BWR.out.trans (HBI.out.mono BWR.out.size)⟩
                  have y1 := (HBI.out.cell (p := ⟨w.heap.size, 1, none⟩) hl3).trans XX.out.1
                  have t0 := (HBI.out.cell (p := ⟨wo.heap.size, 0, none⟩) hl4).trans XX.out.2.1
                  have t1 := (HBI.out.cell (p := ⟨wo.heap.size, 1, none⟩) hl4).trans XX.out.2.2.1
                  have t3 := (HBI.out.cell (p := ⟨wo.heap.size, 3, none⟩) hl4).trans XX.out.2.2.2.1
                  have t4 := (HBI.out.cell (p := ⟨wo.heap.size, 4, none⟩) hl4).trans XX.out.2.2.2.2.1
                  have t5 := (HBI.out.cell (p := ⟨wo.heap.size, 5, none⟩) hl4).trans XX.out.2.2.2.2.2.1
                  have t6 := (HBI.out.cell (p := ⟨wo.heap.size, 6, none⟩) hl4).trans XX.out.2.2.2.2.2.2.1
                  have t7 := (HBI.out.cell (p := ⟨wo.heap.size, 7, none⟩) hl4).trans XX.out.2.2.2.2.2.2.2.1
                  have t8 := (HBI.out.cell (p := ⟨wo.heap.size, 8, none⟩) hl4).trans XX.out.2.2.2.2.2.2.2.2
                  obtain ⟨Ar2, cr2, he2, _, hrow2⟩ := RR'.out.below pR BWi.out
                  obtain ⟨rfl, rfl⟩ : some ad = Ar2 ∧ cr = cr2 := by injection he2 with h1 _ h3; exact ⟨h1, h3⟩
                  obtain ⟨ad2, vw, d4, d5, d6, d7, d8, had, hK, e0, e1, e2, e3, e4, e5, e6, e7, e8⟩ := cell_r hrow2 j hjl
                  obtain rfl : ad = ad2 := by injection had
                  have HST := Aside0.mk (any_take z.recs (fun o => clash o r) j hjl)
                  have HTK := Aside0.mk (fun h => any_take_of z.recs (fun o => clash o r) j k hjk hk h)
                  generalize hy : z.recs[j] = o at hK e1 e2 e3 HST HTK
                  obtain ⟨A0o, k0o, A4o, k4o, A5o, k5o, A6o, k6o, A7o, k7o, A8o, k8o, rfl, rfl, rfl, rfl, rfl, rfl⟩ := kR_form hK
                  have hKn := hK
                  obtain ⟨v0, cd0, hcs, hv0, _, _, _, hd0⟩ := hKn
                  obtain ⟨rfl, _, _, _, rfl⟩ : Value.slice A0o o.name.length k0o = v0 ∧ _ ∧ _ ∧ _ ∧ _ = cd0 := by simpa only [List.cons.injEq] using hcs
                  have HVo := Aside0.mk hv0
                  have HDo := Aside0.mk hd0
                  clear hy hK hrow2 he2 hcs hv0 hd0 had
                  have HJ := Aside0.mk hjk
                  have hj256 : j ≤ 256 := by have := Q2.out; omega
                  go_wp2_with fail
                  generalize hW5 : wr.alloc (.cells #[.slice A0o o.name.length k0o, .int .i64 o.typ, .int .i64 o.cls, .int .i64 o.ttl, .slice A4o o.data.bytes.length k4o, .slice A5o o.data.host.length k5o, .slice A6o o.data.mail.length k6o, .slice A7o o.data.nums.length k7o, .slice A8o o.data.texts.length k8o] 44) = W5
                  have hs5 : W5.heap.size = wr.heap.size + 1 := by rw [← hW5]; simp
                  have B5 : Below wr.heap.size wr W5 := by rw [← hW5]; exact below_alloc (Below.refl _ _) _
                  have u0 : W5.cell? ⟨wr.heap.size, 0, none⟩ = some (Value.slice A0o o.name.length k0o) := by rw [← hW5, cellN rfl]; rfl
                  have u1 : W5.cell? ⟨wr.heap.size, 1, none⟩ = some (.int .i64 o.typ) := by rw [← hW5, cellN rfl]; rfl
                  have u3 : W5.cell? ⟨wr.heap.size, 3, none⟩ = some (.int .i64 o.ttl) := by rw [← hW5, cellN rfl]; rfl
                  have u4 : W5.cell? ⟨wr.heap.size, 4, none⟩ = some (.slice A4o o.data.bytes.length k4o) := by rw [← hW5, cellN rfl]; rfl
                  have u5 : W5.cell? ⟨wr.heap.size, 5, none⟩ = some (.slice A5o o.data.host.length k5o) := by rw [← hW5, cellN rfl]; rfl
                  have u6 : W5.cell? ⟨wr.heap.size, 6, none⟩ = some (.slice A6o o.data.mail.length k6o) := by rw [← hW5, cellN rfl]; rfl
                  have u7 : W5.cell? ⟨wr.heap.size, 7, none⟩ = some (.slice A7o o.data.nums.length k7o) := by rw [← hW5, cellN rfl]; rfl
                  have u8 : W5.cell? ⟨wr.heap.size, 8, none⟩ = some (.slice A8o o.data.texts.length k8o) := by rw [← hW5, cellN rfl]; rfl
                  replace t0 := (B5.cell (p := ⟨wo.heap.size, 0, none⟩) hwr1).trans t0
                  replace t1 := (B5.cell (p := ⟨wo.heap.size, 1, none⟩) hwr1).trans t1
                  replace t3 := (B5.cell (p := ⟨wo.heap.size, 3, none⟩) hwr1).trans t3
                  replace t4 := (B5.cell (p := ⟨wo.heap.size, 4, none⟩) hwr1).trans t4
                  replace t5 := (B5.cell (p := ⟨wo.heap.size, 5, none⟩) hwr1).trans t5
                  replace t6 := (B5.cell (p := ⟨wo.heap.size, 6, none⟩) hwr1).trans t6
                  replace t7 := (B5.cell (p := ⟨wo.heap.size, 7, none⟩) hwr1).trans t7
                  replace t8 := (B5.cell (p := ⟨wo.heap.size, 8, none⟩) hwr1).trans t8
                  have BB5 := Aside0.mk B5
                  have BI5 : Aside0 (Below w2.heap.size w2 W5) := ⟨HBI.out.trans (B5.mono HBI.out.size)⟩
                  have hl5 : wr.heap.size < W5.heap.size := by omega
                  have hl6 : wo.heap.size < W5.heap.size := by omega
                  clear hW5 hs5 B5 e0 e1 e2 e3 e4 e5 e6 e7 e8 y1
                  cases g1 : nEq o.name r.name with
                  | false =>
                    have G1 := Aside0.mk g1
                    clear g1
                    refine (bv (requal_calls _ _ o.name r.name _ (HVo.out.below pS BB5.out) (HV.out.below pS (BRi.out.trans (BB5.out.mono BRi.out.size)))) G1.out).mono ?_
                    rintro e w6 ⟨rfl, hb6⟩
                    have HB6 := Aside0.mk hb6
                    clear hb6
                    have NX : Aside0 (clash o r = false) := ⟨by unfold clash; rw [G1.out]; rfl⟩
                    go_wp2_with fail
                    go_roundg (k - (j + 1))
                    case measure => have := HLT.out; have := HJ.out; omega
                    case rel => exact ⟨j + 1, by have := HJ.out; omega, by omega, by go_num, ⟨BI5.out.trans (HB6.out.mono BI5.out.size)⟩, ⟨by rw [HST.out, HI.out, NX.out]; rfl⟩⟩
                  | true =>
                    have G1 := Aside0.mk g1
                    clear g1
                    refine (bv (requal_calls _ _ o.name r.name _ (HVo.out.below pS BB5.out) (HV.out.below pS (BRi.out.trans (BB5.out.mono BRi.out.size)))) G1.out).mono ?_
                    rintro e w6 ⟨rfl, hb6⟩
                    have HB6 := Aside0.mk hb6
                    have BI6 : Aside0 (Below w2.heap.size w2 w6) := ⟨BI5.out.trans (HB6.out.mono BI5.out.size)⟩
                    obtain ⟨bc, bf⟩ := bcell hb6
                    clear hb6
                    by_cases g2 : o.typ = 5
                    · have f6 : (o.typ == 5) = true := beq_iff_eq.mpr g2
                      have CL : Aside0 (clash o r = true) := ⟨by unfold clash; rw [G1.out, decide_eq_true g2]; split <;> rfl⟩
                      clear g2
                      have HR : Aside0 (zSound z = false) := ⟨zSound_no k HLT.out HA.out (by rw [HY.out]; unfold zrec; rw [HTK.out CL.out]; simp)⟩
                      go_wp2_with fail
                      go_ret
                      refine ⟨?_, BWW.out.trans (BI6.out.mono BWW.out.size)⟩
                      rw [HR.out]; rfl
                    have f6 : (o.typ == 5) = false := beq_eq_false_iff_ne.mpr g2
                    by_cases g3 : r.typ = 5
                    · have f7 : (r.typ == 5) = true := beq_iff_eq.mpr g3
                      have CL : Aside0 (clash o r = true) := ⟨by unfold clash; rw [G1.out, if_neg (fun h => g2 (h.trans g3)), decide_eq_true g3]; simp⟩
                      clear g2 g3
                      have HR : Aside0 (zSound z = false) := ⟨zSound_no k HLT.out HA.out (by rw [HY.out]; unfold zrec; rw [HTK.out CL.out]; simp)⟩
                      go_wp2_with fail
                      go_ret
                      refine ⟨?_, BWW.out.trans (BI6.out.mono BWW.out.size)⟩
                      rw [HR.out]; rfl
                    have f7 : (r.typ == 5) = false := beq_eq_false_iff_ne.mpr g3
                    by_cases g4 : o.typ = r.typ
                    rotate_left
                    · have f8 : (o.typ == r.typ) = false := beq_eq_false_iff_ne.mpr g4
                      have NX : Aside0 (clash o r = false) := ⟨by unfold clash; rw [if_neg g4, decide_eq_false g2, decide_eq_false g3]; simp⟩
                      clear g2 g3 g4
                      go_wp2_with fail
                      go_roundg (k - (j + 1))
                      case measure => have := HLT.out; have := HJ.out; omega
                      case rel => exact ⟨j + 1, by have := HJ.out; omega, by omega, by go_num, BI6, ⟨by rw [HST.out, HI.out, NX.out]; rfl⟩⟩
                    have f8 : (o.typ == r.typ) = true := beq_iff_eq.mpr g4
                    by_cases g5 : o.ttl = r.ttl
                    rotate_left
                    · have f9 : (o.ttl != r.ttl) = true := bne_iff_ne.mpr g5
                      have CL : Aside0 (clash o r = true) := ⟨by unfold clash; rw [G1.out, if_pos g4, decide_eq_false g5]; simp⟩
                      clear g2 g3 g4 g5
                      have HR : Aside0 (zSound z = false) := ⟨zSound_no k HLT.out HA.out (by rw [HY.out]; unfold zrec; rw [HTK.out CL.out]; simp)⟩
                      go_wp2_with fail
                      go_ret
                      refine ⟨?_, BWW.out.trans (BI6.out.mono BWW.out.size)⟩
                      rw [HR.out]; rfl
                    have f9 : (o.ttl != r.ttl) = false := bne_eq_false_iff_eq.mpr g5
                    have G2 := Aside0.mk g2
                    have G4 := Aside0.mk g4
                    have G5 := Aside0.mk g5
                    clear g2 g3 g4 g5
                    go_wp2_with fail
                    cases g6 : dSame o.data r.data with
                    | true =>
                      have G6 := Aside0.mk g6
                      clear g6
                      refine (bv (rdsame_calls o.data r.data _ _ _ (K_below HDo.out (BB5.out.trans (HB6.out.mono BB5.out.size))) (K_below HD.out ((BRi.out.trans (BB5.out.mono BRi.out.size)).trans (HB6.out.mono (BRi.out.trans (BB5.out.mono BRi.out.size)).size)))) G6.out).mono ?_
                      rintro e w7 ⟨rfl, hb7⟩
                      have BI7 : Aside0 (Below w2.heap.size w2 w7) := ⟨BI6.out.trans (hb7.mono BI6.out.size)⟩
                      clear hb7
                      have CL : Aside0 (clash o r = true) := ⟨by unfold clash; rw [G1.out, if_pos G4.out, G6.out]; simp⟩
                      have HR : Aside0 (zSound z = false) := ⟨zSound_no k HLT.out HA.out (by rw [HY.out]; unfold zrec; rw [HTK.out CL.out]; simp)⟩
                      go_wp2_with fail
                      go_ret
                      refine ⟨?_, BWW.out.trans (BI7.out.mono BWW.out.size)⟩
                      rw [HR.out]; rfl
                    | false =>
                      have G6 := Aside0.mk g6
                      clear g6
                      refine (bv (rdsame_calls o.data r.data _ _ _ (K_below HDo.out (BB5.out.trans (HB6.out.mono BB5.out.size))) (K_below HD.out ((BRi.out.trans (BB5.out.mono BRi.out.size)).trans (HB6.out.mono (BRi.out.trans (BB5.out.mono BRi.out.size)).size)))) G6.out).mono ?_
                      rintro e w7 ⟨rfl, hb7⟩
                      have BI7 : Aside0 (Below w2.heap.size w2 w7) := ⟨BI6.out.trans (hb7.mono BI6.out.size)⟩
                      clear hb7
                      have NX : Aside0 (clash o r = false) := ⟨by unfold clash; rw [G1.out, if_pos G4.out, G6.out, decide_eq_false G2.out, decide_eq_true G5.out]; rfl⟩
                      go_wp2_with fail
                      go_roundg (k - (j + 1))
                      case measure => have := HLT.out; have := HJ.out; omega
                      case rel => exact ⟨j + 1, by have := HJ.out; omega, by omega, by go_num, BI7, ⟨by rw [HST.out, HI.out, NX.out]; rfl⟩⟩
                · have hkj : j = k := by omega
                  have HKJ := Aside0.mk hkj
                  have P6 : Aside0 ((z.recs.take k).any (fun o => clash o r) = false) := ⟨by have h := HI.out; rw [hkj] at h; exact h⟩
                  have BL : Aside0 (Below W0.heap.size W0 wr) := ⟨BW0.out.trans (HBI.out.mono BW0.out.size)⟩
                  clear hkj
                  go_wp2_with fail
                  go_roundg (z.recs.length - (k + 1))
                  case measure => have := HLT.out; omega
                  case rel =>
                    refine ⟨k + 1, by have := HLT.out; omega, by omega, by go_num, by rw [HC2.out, if_neg P7.out]; rfl, BL, ⟨?_⟩⟩
                    rw [HA.out, HA2.out]
                    unfold zrec
                    rw [P1.out, decide_eq_true P2.out, P3.out, decide_eq_false P4.out, decide_eq_false P5.out, P6.out, decide_eq_false P7.out]; rfl
      · have hka : k = z.recs.length := by omega
        have HK := Aside0.mk hka
        clear hka
        go_wp2
        go_ret
        refine ⟨?_, BX.out.trans (HB.out.mono BX.out.size)⟩
        have h1 := HA.out
        rw [HK.out, List.take_length, List.drop_length] at h1
        have h2 : zSound z = (((soas (z.recs.take k) : Nat) : Int) == 1) := by
          unfold zSound
          rw [H1.out, decide_eq_true Q1.out, decide_eq_true Q2.out, h1, HK.out, List.take_length]
          simp only [zall, Bool.true_and]
          rw [Bool.eq_iff_iff, decide_eq_true_eq, beq_iff_eq]; omega
        rw [h2]; rfl
end Go.Proofs.Ytkbjbkmaokebgaa.Gz

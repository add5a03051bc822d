import Derived.Test.YtkbjbkmaokebgaaMid
set_option linter.unusedVariables false
set_option linter.unusedSimpArgs false
namespace Go.Proofs.Ytkbjbkmaokebgaa.Gz
open Go.RowKit Go.Proofs.YtkbjbkmaokebgaaW.PrintWords
open Ki
theorem keep7 {W0 W w1 : World} (hb : Below W.heap.size W w1) {a0 a1 a2 a3 a4 a5 a6 : Addr} {x0 x1 x2 x3 x4 x5 x6 : Value} (h : Below W0.heap.size W0 W ∧ W.cell? a0 = some x0 ∧ W.cell? a1 = some x1 ∧ W.cell? a2 = some x2 ∧ W.cell? a3 = some x3 ∧ W.cell? a4 = some x4 ∧ W.cell? a5 = some x5 ∧ W.cell? a6 = some x6) : Below W0.heap.size W0 w1 ∧ w1.cell? a0 = some x0 ∧ w1.cell? a1 = some x1 ∧ w1.cell? a2 = some x2 ∧ w1.cell? a3 = some x3 ∧ w1.cell? a4 = some x4 ∧ w1.cell? a5 = some x5 ∧ w1.cell? a6 = some x6 := by
  obtain ⟨h1, k0, k1, k2, k3, k4, k5, k6⟩ := h
  exact ⟨h1.trans (hb.mono h1.size), (hb.cell (World.block_lt_of_cell? W _ k0)).trans k0, (hb.cell (World.block_lt_of_cell? W _ k1)).trans k1, (hb.cell (World.block_lt_of_cell? W _ k2)).trans k2, (hb.cell (World.block_lt_of_cell? W _ k3)).trans k3, (hb.cell (World.block_lt_of_cell? W _ k4)).trans k4, (hb.cell (World.block_lt_of_cell? W _ k5)).trans k5, (hb.cell (World.block_lt_of_cell? W _ k6)).trans k6⟩
set_option maxHeartbeats 16000000 in
set_option maxRecDepth 100000 in
theorem zonekeeps_calls (z : Zone) (cz : List Value) (q : Qn) (cq : List Value) (w : World) (hz : kZ.K w (fun _ => True) z cz) (hq : kQ.K w (fun _ => True) q cq) :
    Calls Try.prog 6 #[.agg cz.toArray, .agg cq.toArray] w fun e w' => e = .returned (.bool true) ∧ Below w.heap.size w w' := by
  obtain ⟨An, cn, Ar, cr, rfl⟩ := kZ_form hz
  obtain ⟨vq, rfl, hqn, hqt, hqc⟩ := hq
  have HQ : Aside0 (kQ.K w (fun _ => True) q [vq, .int .i64 q.typ, .int .i64 q.cls]) := ⟨⟨_, rfl, hqn, hqt, hqc⟩⟩
  have HQN := Aside0.mk hqn
  have HQL := Aside0.mk hqn.room
  obtain ⟨Aq, cq', rfl, _, _⟩ := hqn
  have HZ := Aside0.mk hz
  have hzz : kS.Rd w (fun _ => True) (.slice An z.name.length cn) z.name ∧ kR.Rd w (fun _ => True) (.slice Ar z.recs.length cr) z.recs := by
    obtain ⟨u1, u2, e, h1, h2⟩ := hz
    simp only [List.cons.injEq, and_true] at e
    rw [e.1, e.2]; exact ⟨h1, h2⟩
  have HZZ := Aside0.mk hzz
  clear hz hzz
  generalize hW0 : (w.alloc (.cells #[.slice An z.name.length cn, .slice Ar z.recs.length cr] 25)).alloc (.cells #[.slice Aq q.name.length cq', .int .i64 q.typ, .int .i64 q.cls] 27) = W0
  have HW0 := Aside0.mk hW0
  have BX : Aside0 (Below w.heap.size w W0) := ⟨by rw [← hW0]; exact below_alloc (below_alloc (Below.refl _ _) _) _⟩
  have hs0 : W0.heap.size = w.heap.size + 2 := by rw [← hW0]; simp
  have y0 : W0.cell? ⟨w.heap.size, 0, none⟩ = some (.slice An z.name.length cn) := by rw [← hW0, cellA (by simp)]; simp
  have y1 : W0.cell? ⟨w.heap.size, 1, none⟩ = some (.slice Ar z.recs.length cr) := by rw [← hW0, cellA (by simp)]; simp
  have q0 : W0.cell? ⟨w.heap.size + 1, 0, none⟩ = some (.slice Aq q.name.length cq') := by rw [← hW0, cellN (by simp)]; rfl
  have q1 : W0.cell? ⟨w.heap.size + 1, 1, none⟩ = some (.int .i64 q.typ) := by rw [← hW0, cellN (by simp)]; rfl
  have q2 : W0.cell? ⟨w.heap.size + 1, 2, none⟩ = some (.int .i64 q.cls) := by rw [← hW0, cellN (by simp)]; rfl
  have HY := Aside0.mk (And.intro y0 (And.intro y1 (And.intro q0 (And.intro q1 q2))))
  have HS0 := Aside0.mk hs0
  have hl0 : w.heap.size < W0.heap.size := by omega
  have hl1 : w.heap.size + 1 < W0.heap.size := by omega
  clear hW0 hs0
  go_enter Try.func6, Try.ntmps6
  go_wp2_with fail
  rw [HW0.out]
  refine (answers_calls W0).mono ?_
  rintro e w1 ⟨rfl, hb1⟩
  have HB1 := Aside0.mk hb1
  obtain ⟨bc, bf⟩ := bcell hb1
  clear hb1
  go_wp2_with fail
  refine (light_calls z _ w1 (K_below HZ.out (BX.out.trans (HB1.out.mono BX.out.size)))).mono ?_
  rintro e w2 ⟨b2, rfl, hb2⟩
  have HB2 := Aside0.mk (HB1.out.trans (hb2.mono HB1.out.size))
  clear hb2 bc bf
  obtain ⟨bc, bf⟩ := bcell HB2.out
  cases b2 with
  | false =>
    go_wp2_with fail
    refine (answers_calls _).mono ?_
    rintro e wf ⟨rfl, hbf⟩
    have HBF := Aside0.mk ((BX.out.trans (HB2.out.mono BX.out.size)).trans (hbf.mono (BX.out.trans (HB2.out.mono BX.out.size)).size))
    clear hbf
    go_wp2_with fail
    go_ret
    exact ⟨rfl, HBF.out⟩
  | true =>
    by_cases n1 : 130 < q.name.length
    · skip
      go_wp2_with fail
      refine (answers_calls _).mono ?_
      rintro e wf ⟨rfl, hbf⟩
      have HBF := Aside0.mk ((BX.out.trans (HB2.out.mono BX.out.size)).trans (hbf.mono (BX.out.trans (HB2.out.mono BX.out.size)).size))
      clear hbf
      go_wp2_with fail
      go_ret
      exact ⟨rfl, HBF.out⟩
    go_wp2_with fail
    refine (lawown_calls z _ w2 (K_below HZ.out (BX.out.trans (HB2.out.mono BX.out.size)))).mono ?_
    rintro e w3 ⟨c1, rfl, hk1, hb3⟩
    obtain ⟨Bn, bn, Br, br, rfl⟩ := kZ_form hk1
    have HK1 : Aside0 (kZ.K w3 (fun _ => True) z [.slice Bn z.name.length bn, .slice Br z.recs.length br]) := ⟨kZ.mono (fun _ _ => trivial) hk1⟩
    have HB3 := Aside0.mk (HB2.out.trans (hb3.mono HB2.out.size))
    have hx0 : w.heap.size < w3.heap.size := Nat.lt_of_lt_of_le hl0 HB3.out.size
    have hx1 : w.heap.size + 1 < w3.heap.size := Nat.lt_of_lt_of_le hl1 HB3.out.size
    clear hb3 hk1 bc bf
    go_upto_region 4 with (fail)
    generalize hW3 : w3.alloc (.cells #[.slice Bn z.name.length bn, .slice Br z.recs.length br] 25) = W3
    have B3 : Aside0 (Below w3.heap.size w3 W3) := ⟨by rw [← hW3]; exact below_alloc (Below.refl _ _) _⟩
    have hx3 : w3.heap.size < W3.heap.size := by rw [← hW3]; simp
    have i0 : W3.cell? ⟨w3.heap.size, 0, none⟩ = some (.slice Bn z.name.length bn) := by rw [← hW3, cellN rfl]; rfl
    have i1 : W3.cell? ⟨w3.heap.size, 1, none⟩ = some (.slice Br z.recs.length br) := by rw [← hW3, cellN rfl]; rfl
    have j0 := (B3.out.cell (p := ⟨w.heap.size, 0, none⟩) hx0).trans ((HB3.out.cell (p := ⟨w.heap.size, 0, none⟩) hl0).trans HY.out.1)
    have j1 := (B3.out.cell (p := ⟨w.heap.size, 1, none⟩) hx0).trans ((HB3.out.cell (p := ⟨w.heap.size, 1, none⟩) hl0).trans HY.out.2.1)
    have j2 := (B3.out.cell (p := ⟨w.heap.size + 1, 0, none⟩) hx1).trans ((HB3.out.cell (p := ⟨w.heap.size + 1, 0, none⟩) hl1).trans HY.out.2.2.1)
    have j3 := (B3.out.cell (p := ⟨w.heap.size + 1, 1, none⟩) hx1).trans ((HB3.out.cell (p := ⟨w.heap.size + 1, 1, none⟩) hl1).trans HY.out.2.2.2.1)
    have j4 := (B3.out.cell (p := ⟨w.heap.size + 1, 2, none⟩) hx1).trans ((HB3.out.cell (p := ⟨w.heap.size + 1, 2, none⟩) hl1).trans HY.out.2.2.2.2)
    have BW3 : Aside0 (Below w.heap.size w W3) := ⟨(BX.out.trans (HB3.out.mono BX.out.size)).trans (B3.out.mono (BX.out.trans (HB3.out.mono BX.out.size)).size)⟩
    have OL : Aside0 (kS.Own 9 (W3.alloc (.cells #[] 9)) W3.heap.size (fun _ => True) (.slice (some ⟨W3.heap.size, 0, none⟩) 0 0) []) := ⟨Own.lit0 kS 9 W3 W3.heap.size (fun _ => True) (Nat.le_refl _)⟩
    have BA3 : Aside0 (Below W3.heap.size W3 (W3.alloc (.cells #[] 9))) := ⟨below_alloc (Below.refl _ _) _⟩
    have RL : Aside0 (kS.Rd (W3.alloc (.cells #[] 9)) (fun _ => True) (.slice Aq q.name.length cq') q.name) := ⟨(HQN.out.below pS BW3.out).below pS BA3.out⟩
    have CE3 := Aside0.mk (And.intro (Below.refl W3.heap.size W3) (And.intro j0 (And.intro j1 (And.intro j2 (And.intro j3 (And.intro j4 (And.intro i0 i1)))))))
    have jj2 := (BA3.out.cell (p := ⟨w.heap.size + 1, 0, none⟩) (Nat.lt_of_lt_of_le hx1 B3.out.size)).trans j2
    clear hW3 y0 y1 q0 q1 q2
    go_upto_region 5 with (at_builtin; refine Own.append_zero kS W3.heap.size rfl (.tmp 31) (.tmp 33) 22 9 (.string ⟨#[]⟩) rfl Try.underlying22 info_s rfl (by decide) (by decide) _ _ q.name (fun _ => True) rfl rfl OL.out RL.out BA3.out.size HQL.out ?_; intro v4 w4 ho4 hb4)
    have BV4 : Aside0 (Below W3.heap.size W3 w4) := ⟨BA3.out.trans (hb4.mono BA3.out.size)⟩
    have CE4 := Aside0.mk (keep7 BV4.out CE3.out)
    have HO4 : Aside0 (kS.Own 9 w4 W3.heap.size (fun _ => True) v4 q.name) := ⟨ho4⟩
    obtain ⟨C4, c4, rfl, _⟩ := ho4.slice_
    have BW4 : Aside0 (Below w.heap.size w w4) := ⟨BW3.out.trans (BV4.out.mono BW3.out.size)⟩
    clear hb4 j0 j1 j2 j3 j4 i0 i1 jj2
    obtain ⟨_, j0, j1, j2, j3, j4, i0, i1⟩ := CE4.out
    go_wp2_with fail
    refine (zans_calls z _ q _ w4 (K_below HK1.out (B3.out.trans (BV4.out.mono B3.out.size))) (K_below HQ.out BW4.out)).mono ?_
    rintro e w6 ⟨m, hm, c, rfl, hk, hb6⟩
    have HB6 := Aside0.mk hb6
    have HM := Aside0.mk hm
    have hkl := kM.low hk
    obtain ⟨A8, k8, A9, k9, A10, k10, A11, k11, rfl, r8, r9, r10, r11⟩ := kM_form hkl
    have RQ := Aside0.mk r8
    have RA := Aside0.mk r9
    have RB := Aside0.mk r10
    have RE := Aside0.mk r11
    have hmq := r8.max
    clear hm hk hb6 hkl r8 r9 r10 r11 j0 j1 j2 j3 j4 i0 i1
    go_upto_region 6 with (fail)
    generalize hW : w6.alloc (.cells #[.int .i64 m.id, .bool m.resp, .int .i64 m.opc, .bool m.aa, .bool m.tc, .bool m.rd, .bool m.ra, .int .i64 m.rcode, .slice A8 m.qs.length k8, .slice A9 m.ans.length k9, .slice A10 m.auth.length k10, .slice A11 m.extra.length k11, .bool m.edns, .int .i64 m.size] 35) = W
    have hH2 : w6.heap.size < W.heap.size := by rw [← hW]; simp
    have HH2 := Aside0.mk hH2
    have BM : Aside0 (Below w6.heap.size w6 W) := ⟨by rw [← hW]; exact below_alloc (Below.refl _ _) _⟩
    have m8 : W.cell? ⟨w6.heap.size, 8, none⟩ = some (.slice A8 m.qs.length k8) := by rw [← hW, cellN rfl]; rfl
    have m9 : W.cell? ⟨w6.heap.size, 9, none⟩ = some (.slice A9 m.ans.length k9) := by rw [← hW, cellN rfl]; rfl
    have m10 : W.cell? ⟨w6.heap.size, 10, none⟩ = some (.slice A10 m.auth.length k10) := by rw [← hW, cellN rfl]; rfl
    have m11 : W.cell? ⟨w6.heap.size, 11, none⟩ = some (.slice A11 m.extra.length k11) := by rw [← hW, cellN rfl]; rfl
    have M8 := Aside0.mk m8
    clear hW
    have HA1 : Aside0 (∀ W1, Below W.heap.size W W1 → kR.Rd W1 (fun k => w4.heap.size ≤ k ∧ k < w6.heap.size) (.slice A9 m.ans.length k9) m.ans) := ⟨fun W1 h => (RA.out.below pR BM.out).below pR h⟩
    have HB1' : Aside0 (∀ W1, Below W.heap.size W W1 → kR.Rd W1 (fun k => w4.heap.size ≤ k ∧ k < w6.heap.size) (.slice A10 m.auth.length k10) m.auth) := ⟨fun W1 h => (RB.out.below pR BM.out).below pR h⟩
    have HX1 : Aside0 (∀ W1, Below W.heap.size W W1 → kR.Rd W1 (fun k => w4.heap.size ≤ k ∧ k < w6.heap.size) (.slice A11 m.extra.length k11) m.extra) := ⟨fun W1 h => (RE.out.below pR BM.out).below pR h⟩
    have HLT2 : Aside0 (∀ k, (w4.heap.size ≤ k ∧ k < w6.heap.size) → k < W.heap.size) := ⟨fun k hk => Nat.lt_trans hk.2 HH2.out⟩
    have OL2 : Aside0 (kR.Own 44 (W.alloc (.cells #[] 44)).drew W.heap.size (fun k => w4.heap.size ≤ k ∧ k < w6.heap.size) (.slice (some ⟨W.heap.size, 0, none⟩) 0 0) []) := ⟨Own.lit0 kR 44 W.drew W.heap.size _ (Nat.le_refl _)⟩
    have BD1 : Aside0 (Below W.heap.size W (W.alloc (.cells #[] 44)).drew) := ⟨(below_alloc (Below.refl _ _) _).drew⟩
    have few := answers_few HM.out
    have hby : kR.bytes = 168 := rfl
    have L1 : Aside0 (m.ans.length * kR.bytes ≤ B47) := ⟨by rw [hby]; unfold B47; omega⟩
    have L2 : Aside0 ((m.ans.length + m.auth.length) * kR.bytes ≤ B47) := ⟨by rw [hby]; unfold B47; omega⟩
    have L3 : Aside0 (∀ mid, mid = m.ans ++ m.auth → (mid.length + m.extra.length) * kR.bytes ≤ B47) := ⟨fun mid h => by rw [hby, h, List.length_append]; unfold B47; omega⟩
    have hst : Below W.heap.size W W.drew ∧ W.drew.cell? ⟨w6.heap.size, 9, none⟩ = some (.slice A9 m.ans.length k9) ∧ W.drew.cell? ⟨w6.heap.size, 10, none⟩ = some (.slice A10 m.auth.length k10) ∧ W.drew.cell? ⟨w6.heap.size, 11, none⟩ = some (.slice A11 m.extra.length k11) := ⟨(Below.refl _ _).drew, m9, m10, m11⟩
    have HST2 : Aside0 (Below W.heap.size W (W.alloc (.cells #[] 44)).drew ∧ (W.alloc (.cells #[] 44)).drew.cell? ⟨w6.heap.size, 9, none⟩ = some (.slice A9 m.ans.length k9) ∧ (W.alloc (.cells #[] 44)).drew.cell? ⟨w6.heap.size, 10, none⟩ = some (.slice A10 m.auth.length k10) ∧ (W.alloc (.cells #[] 44)).drew.cell? ⟨w6.heap.size, 11, none⟩ = some (.slice A11 m.extra.length k11)) := ⟨BD1.out, (BD1.out.cell (p := ⟨w6.heap.size, 9, none⟩) hH2).trans m9, (BD1.out.cell (p := ⟨w6.heap.size, 10, none⟩) hH2).trans m10, (BD1.out.cell (p := ⟨w6.heap.size, 11, none⟩) hH2).trans m11⟩
    have FW := Aside0.mk few
    clear few hby
    go_region_held3 (fun w' => Below W.heap.size W w' ∧ w'.cell? ⟨w6.heap.size, 9, none⟩ = some (.slice A9 m.ans.length k9) ∧ w'.cell? ⟨w6.heap.size, 10, none⟩ = some (.slice A10 m.auth.length k10) ∧ w'.cell? ⟨w6.heap.size, 11, none⟩ = some (.slice A11 m.extra.length k11))
      (first | (with_reducible exact HST2.out) | (with_reducible exact keepM hb1 (by assumption)) | (with_reducible exact keepG hg3 (fun k hk => (ho2.lt k hk).1) hH2 hH2 hH2 (by assumption)) | (with_reducible exact keepG hg2 (fun k hk => (ho1.lt k hk).1) hH2 hH2 hH2 (by assumption)) | go_keep)
      ((first
        | (refine step_append_zero kR W.heap.size ?_ (.tmp 38) (.tmp 40) 23 44 (.agg #[.slice none 0 0, .int .i64 0, .int .i64 0, .int .i64 0, .slice none 0 0, .slice none 0 0, .slice none 0 0, .slice none 0 0, .slice none 0 0]) ?_ ?_ ?_ ?_ ?_ ?_ (some ⟨W.heap.size, 0, none⟩) (.slice A9 m.ans.length k9) m.ans (fun k => w4.heap.size ≤ k ∧ k < w6.heap.size) ?_ ?_ ?_ ?_ ?_ ?_ ?_; rfl; rfl; exact Try.underlying23; exact infoR0; rfl; decide; decide; rfl; rfl; exact OL2.out; exact HA1.out _ BD1.out; exact BD1.out.size; exact L1.out; intro v1 w1 ho1 hb1; obtain ⟨A1, k1, rfl, _⟩ := ho1.slice_)
        | (refine step_append_own kR W.heap.size ?_ (.tmp 41) (.tmp 43) 23 44 (.agg #[.slice none 0 0, .int .i64 0, .int .i64 0, .int .i64 0, .slice none 0 0, .slice none 0 0, .slice none 0 0, .slice none 0 0, .slice none 0 0]) ?_ ?_ ?_ ?_ ?_ ?_ (.slice A1 m.ans.length k1) (.slice A10 m.auth.length k10) m.ans m.auth (fun k => w4.heap.size ≤ k ∧ k < w6.heap.size) ?_ ?_ ?_ ?_ ?_ ?_ ?_; rfl; rfl; exact Try.underlying23; exact infoR0; rfl; decide; decide; rfl; rfl; exact ho1; exact rd_apart' (HB1'.out _ (And.left (by assumption))) HLT2.out ho1; exact (And.left (by assumption) : Below W.heap.size W w1).size; exact L2.out; intro v2 w2 ho2 hg2 _; generalize hMid : m.ans ++ m.auth = mid at ho2; obtain ⟨A2, k2, rfl, _⟩ := ho2.slice_)
        | (refine step_append_own kR W.heap.size ?_ (.tmp 44) (.tmp 46) 23 44 (.agg #[.slice none 0 0, .int .i64 0, .int .i64 0, .int .i64 0, .slice none 0 0, .slice none 0 0, .slice none 0 0, .slice none 0 0, .slice none 0 0]) ?_ ?_ ?_ ?_ ?_ ?_ (.slice A2 mid.length k2) (.slice A11 m.extra.length k11) mid m.extra (fun k => w4.heap.size ≤ k ∧ k < w6.heap.size) ?_ ?_ ?_ ?_ ?_ ?_ ?_; rfl; rfl; exact Try.underlying23; exact infoR0; rfl; decide; decide; rfl; rfl; exact ho2; exact rd_apart' (HX1.out _ (And.left (by assumption))) HLT2.out ho2; exact (And.left (by assumption) : Below W.heap.size W w2).size; exact L3.out mid hMid.symm; intro v3 w7 ho3 hg3 _; generalize hAll : mid ++ m.extra = all at ho3; obtain ⟨A3, k3, rfl, _⟩ := ho3.slice_)))
    have hs3 : Below W.heap.size W w7 ∧ w7.cell? ⟨w6.heap.size, 9, none⟩ = some (.slice A9 m.ans.length k9) ∧ w7.cell? ⟨w6.heap.size, 10, none⟩ = some (.slice A10 m.auth.length k10) ∧ w7.cell? ⟨w6.heap.size, 11, none⟩ = some (.slice A11 m.extra.length k11) := by assumption
    have B7 := Aside0.mk hs3.1
    have hAll2 : m.ans ++ m.auth ++ m.extra = all := by rw [hMid]; exact hAll
    have hax : all.length ≤ 1024 := by rw [← hAll2, List.length_append, List.length_append]; have := FW.out; omega
    have OAL := Aside0.mk ho3
    have n8 := (B7.out.cell (p := ⟨w6.heap.size, 8, none⟩) HH2.out).trans M8.out
    have N8 := Aside0.mk n8
    have RQ7 : Aside0 (kQ.Rd w7 (fun k => w4.heap.size ≤ k ∧ k < w6.heap.size) (.slice A8 m.qs.length k8) m.qs) := ⟨(RQ.out.below pQ BM.out).below pQ B7.out⟩
    have BE7 : Aside0 (Below w4.heap.size w4 w7) := ⟨(HB6.out.trans (BM.out.mono HB6.out.size)).trans (B7.out.mono (HB6.out.trans (BM.out.mono HB6.out.size)).size)⟩
    clear hs3 ho1 ho2 ho3 hb1 hg2 hg3 hst m8 m9 m10 m11 n8 hAll hAll2 hMid hH2
    go_wp2_with fail
    go_loopg [9] all.length (fun gg s9 wr => ∃ i : Nat, i ≤ all.length ∧ all.length - i ≤ gg ∧ s9 = .int .i64 i ∧ Aside0 (Mid w4.heap.size w6.heap.size w7 wr))
    case atStart => exact ⟨0, Nat.zero_le _, by omega, rfl, ⟨Mid.refl _ _ _⟩⟩
    case round =>
      obtain ⟨i, hi, hg, rfl, BO⟩ := hrel
      by_cases hil : i < all.length
      · have HIL := Aside0.mk hil
        obtain ⟨ae, c9, A0, k0, A4, k4, A5, k5, hv, hbb, a0, a4, a5, r0, r4, r5⟩ := own_r OAL.out i hil
        obtain ⟨rfl, rfl⟩ : A3 = some ae ∧ k3 = c9 := by injection hv with h1 _ h3; exact ⟨h1, h3⟩
        generalize all[i] = r at a0 a4 a5 r0 r4 r5
        have R0 := Aside0.mk r0
        have R4 := Aside0.mk r4
        have R5 := Aside0.mk r5
        have C9 := Aside0.mk (And.intro a0 (And.intro a4 a5))
        have hm0 := r0.max
        have hm4 := r4.max
        have hm5 := r5.max
        have i0 : (0 : Int) ≤ (i : Int) := by omega
        have i1 : (i : Int) < (all.length : Int) := by omega
        clear hv hbb a0 a4 a5 r0 r4 r5
        go_wp2_with fail
        go_loopg [10] r.name.length (fun gg s10 wr => ∃ k : Nat, k ≤ r.name.length ∧ r.name.length - k ≤ gg ∧ s10 = .int .i64 k ∧ Aside0 (Mid w4.heap.size w6.heap.size w7 wr))
        case atStart => exact ⟨0, Nat.zero_le _, by omega, rfl, BO⟩
        case round =>
          obtain ⟨k, hk, hg, rfl, BI⟩ := hrel
          have b0 := BI.out.sli _ _ _ _ C9.out.1
          by_cases hlk : k < r.name.length
          · have HLK := Aside0.mk hlk
            obtain ⟨ad, s, rfl, hok, hc, hf⟩ := spotS R0.out k hlk
            obtain ⟨s', hs'⟩ := BI.out.str _ _ hc
            have hf' := (BI.out.froz (ad.add k)).trans hf
            have HOK := Aside0.mk (And.intro hs' hok)
            have k0' : (0 : Int) ≤ (k : Int) := by omega
            have k1' : (k : Int) < (r.name.length : Int) := by omega
            clear hc hf hok
            go_wp2_with fail
            go_roundg (r.name.length - (k + 1))
            case measure => have := HLK.out; omega
            case rel => exact ⟨k + 1, by have := HLK.out; omega, by omega, by go_num, ⟨BI.out.setS HOK.out.1 HOK.out.2⟩⟩
          · have hka : ¬ k < r.name.length := hlk
            go_wp2_with fail
            go_loopg [11] r.data.bytes.length (fun gg s11 wr => ∃ k : Nat, k ≤ r.data.bytes.length ∧ r.data.bytes.length - k ≤ gg ∧ s11 = .int .i64 k ∧ Aside0 (Mid w4.heap.size w6.heap.size w7 wr))
            case atStart => exact ⟨0, Nat.zero_le _, by omega, rfl, BI⟩
            case round =>
              obtain ⟨k, hk, hg, rfl, BI⟩ := hrel
              have b0 := BI.out.sli _ _ _ _ C9.out.2.1
              by_cases hlk : k < r.data.bytes.length
              · have HLK := Aside0.mk hlk
                obtain ⟨ad, s, rfl, hok, hc, hf⟩ := spotU R4.out k hlk
                obtain ⟨s', hs'⟩ := BI.out.byt _ _ hc
                have hf' := (BI.out.froz (ad.add k)).trans hf
                have HOK := Aside0.mk (And.intro hs' hok)
                have k0' : (0 : Int) ≤ (k : Int) := by omega
                have k1' : (k : Int) < (r.data.bytes.length : Int) := by omega
                clear hc hf hok
                go_wp2_with fail
                go_roundg (r.data.bytes.length - (k + 1))
                case measure => have := HLK.out; omega
                case rel => exact ⟨k + 1, by have := HLK.out; omega, by omega, by go_num, ⟨BI.out.setU HOK.out.1 HOK.out.2⟩⟩
              · have hka : ¬ k < r.data.bytes.length := hlk
                go_wp2_with fail
                go_loopg [12] r.data.host.length (fun gg s12 wr => ∃ k : Nat, k ≤ r.data.host.length ∧ r.data.host.length - k ≤ gg ∧ s12 = .int .i64 k ∧ Aside0 (Mid w4.heap.size w6.heap.size w7 wr))
                case atStart => exact ⟨0, Nat.zero_le _, by omega, rfl, BI⟩
                case round =>
                  obtain ⟨k, hk, hg, rfl, BI⟩ := hrel
                  have b0 := BI.out.sli _ _ _ _ C9.out.2.2
                  by_cases hlk : k < r.data.host.length
                  · have HLK := Aside0.mk hlk
                    obtain ⟨ad, s, rfl, hok, hc, hf⟩ := spotS R5.out k hlk
                    obtain ⟨s', hs'⟩ := BI.out.str _ _ hc
                    have hf' := (BI.out.froz (ad.add k)).trans hf
                    have HOK := Aside0.mk (And.intro hs' hok)
                    have k0' : (0 : Int) ≤ (k : Int) := by omega
                    have k1' : (k : Int) < (r.data.host.length : Int) := by omega
                    clear hc hf hok
                    go_wp2_with fail
                    go_roundg (r.data.host.length - (k + 1))
                    case measure => have := HLK.out; omega
                    case rel => exact ⟨k + 1, by have := HLK.out; omega, by omega, by go_num, ⟨BI.out.setS HOK.out.1 HOK.out.2⟩⟩
                  · have hka : ¬ k < r.data.host.length := hlk
                    go_wp2_with fail
                    go_roundg (all.length - (i + 1))
                    case measure => have := HIL.out; omega
                    case rel => exact ⟨i + 1, by have := HIL.out; omega, by omega, by go_num, BI⟩
      · have hie : ¬ i < all.length := hil
        clear hil
        go_wp2_with fail
        go_loopg [13] m.qs.length (fun gg s13 wr => ∃ i : Nat, i ≤ m.qs.length ∧ m.qs.length - i ≤ gg ∧ s13 = .int .i64 i ∧ Aside0 (Mid w4.heap.size w6.heap.size w7 wr))
        case atStart => exact ⟨0, Nat.zero_le _, by omega, rfl, BO⟩
        case round =>
          obtain ⟨i, hi, hg, rfl, BO⟩ := hrel
          have n8 := (BO.out.cell (a := ⟨w6.heap.size, 8, none⟩) (.inr (Nat.le_refl _))).trans N8.out
          by_cases hin : i < m.qs.length ∧ i < 1
          · have HIN := Aside0.mk hin
            have hq1 : (i : Int) < (m.qs.length : Int) := by have := hin.1; omega
            have hq2 : (i : Int) < 1 := by have := hin.2; omega
            obtain ⟨A2, c2, he2, _, hrow2⟩ := RQ7.out
            obtain ⟨rfl, rfl⟩ : A8 = A2 ∧ k8 = c2 := by injection he2 with h1 _ h3; exact ⟨h1, h3⟩
            obtain ⟨ae, vw, rfl, hKq, e0, _, _⟩ := cell_q hrow2 i hin.1
            generalize m.qs[i] = qq at hKq
            obtain ⟨vn, hcs, hn, _, _⟩ := hKq
            obtain rfl : vw = vn := by injection hcs
            have R0 := Aside0.mk hn
            have hm0 := hn.max
            obtain ⟨A0, k0, rfl, _, _⟩ := hn
            have E0 := Aside0.mk e0
            have i0 : (0 : Int) ≤ (i : Int) := by omega
            clear e0 hrow2 he2 hcs
            go_wp2_with fail
            go_loopg [14] qq.name.length (fun gg s14 wr => ∃ k : Nat, k ≤ qq.name.length ∧ qq.name.length - k ≤ gg ∧ s14 = .int .i64 k ∧ Aside0 (Mid w4.heap.size w6.heap.size w7 wr))
            case atStart => exact ⟨0, Nat.zero_le _, by omega, rfl, BO⟩
            case round =>
              obtain ⟨k, hk, hg, rfl, BI⟩ := hrel
              clear n8
              have n8 := (BI.out.cell (a := ⟨w6.heap.size, 8, none⟩) (.inr (Nat.le_refl _))).trans N8.out
              have b0 := BI.out.sli _ _ _ _ E0.out
              by_cases hlk : k < qq.name.length
              · have HLK := Aside0.mk hlk
                obtain ⟨ad, s, rfl, hok, hc, hf⟩ := spotS R0.out k hlk
                obtain ⟨s', hs'⟩ := BI.out.str _ _ hc
                have hf' := (BI.out.froz (ad.add k)).trans hf
                have HOK := Aside0.mk (And.intro hs' hok)
                have k0' : (0 : Int) ≤ (k : Int) := by omega
                have k1' : (k : Int) < (qq.name.length : Int) := by omega
                clear hc hf hok
                go_wp2_with fail
                go_roundg (qq.name.length - (k + 1))
                case measure => have := HLK.out; omega
                case rel => exact ⟨k + 1, by have := HLK.out; omega, by omega, by go_num, ⟨BI.out.setS HOK.out.1 HOK.out.2⟩⟩
              · have hka : ¬ k < qq.name.length := hlk
                go_wp2_with fail
                go_roundg (m.qs.length - (i + 1))
                case measure => have := HIN.out; omega
                case rel => exact ⟨i + 1, by have := HIN.out; omega, by omega, by go_num, BI⟩
          · have BEE : Aside0 (Below w4.heap.size w4 wr) := ⟨BE7.out.trans (BO.out.below.mono (Nat.le_refl _))⟩
            have CE := Aside0.mk (keep7 BEE.out CE4.out)
            obtain ⟨_, j0, j1, j2, j3, j4, i0, i1⟩ := CE.out
            have BWE : Aside0 (Below w.heap.size w wr) := ⟨BW4.out.trans (BEE.out.mono BW4.out.size)⟩
            have HKE : Aside0 (kZ.K wr (fun _ => True) z [.slice Bn z.name.length bn, .slice Br z.recs.length br]) := ⟨K_below (K_below HK1.out (B3.out.trans (BV4.out.mono B3.out.size))) BEE.out⟩
            have hin' : (kS.Rd wr (fun _ => True) (.slice Bn z.name.length bn) z.name ∧ kR.Rd wr (fun _ => True) (.slice Br z.recs.length br) z.recs) := by
              obtain ⟨u1, u2, e, h1, h2⟩ := HKE.out
              simp only [List.cons.injEq, and_true] at e
              rw [e.1, e.2]; exact ⟨h1, h2⟩
            have HIN := Aside0.mk hin'
            have HA4 : Aside0 (kS.Rd wr (fun _ => True) (.slice C4 q.name.length c4) q.name) := ⟨(HO4.out.rd (fun _ _ => trivial) (fun _ _ => trivial)).below pS BEE.out⟩
            clear hin'
            by_cases hq1 : (i : Int) < (m.qs.length : Int)
            · have hq2 : ¬ (i : Int) < 1 := fun h => hin ⟨by omega, by omega⟩
              clear hin
              go_wp2_with fail
              refine (bv (exact_calls _ _ z.name z.name _ HIN.out.1 (HZZ.out.1.below pS BWE.out)) (decide_eq_true rfl)).mono ?_
              rintro e w8 ⟨rfl, hb8⟩
              have CE8 := Aside0.mk (keep7 hb8 (keep7 BEE.out CE4.out))
              have HB8 := Aside0.mk hb8
              clear j0 j1 j2 j3 j4 i0 i1 hb8
              obtain ⟨_, j0, j1, j2, j3, j4, i0, i1⟩ := CE8.out
              go_wp2_with fail
              refine (samers_calls _ _ z.recs _ (HIN.out.2.below pR HB8.out) ((HZZ.out.2.below pR BWE.out).below pR HB8.out)).mono ?_
              rintro e w9 ⟨rfl, hb9⟩
              have CE9 := Aside0.mk (keep7 hb9 CE8.out)
              have HB9 : Aside0 (Below wr.heap.size wr w9) := ⟨HB8.out.trans (hb9.mono HB8.out.size)⟩
              clear j0 j1 j2 j3 j4 i0 i1 hb9
              obtain ⟨_, j0, j1, j2, j3, j4, i0, i1⟩ := CE9.out
              go_wp2_with fail
              refine (bv (exact_calls _ _ q.name q.name _ (HA4.out.below pS HB9.out) ((HQN.out.below pS BWE.out).below pS HB9.out)) (decide_eq_true rfl)).mono ?_
              rintro e w10 ⟨rfl, hb10⟩
              have BFIN : Aside0 (Below w.heap.size w w10) := ⟨(BWE.out.trans (HB9.out.mono BWE.out.size)).trans (hb10.mono (BWE.out.trans (HB9.out.mono BWE.out.size)).size)⟩
              clear hb10
              go_wp2_with fail
              go_ret
              exact ⟨rfl, BFIN.out⟩
            · clear hin
              go_wp2_with fail
              refine (bv (exact_calls _ _ z.name z.name _ HIN.out.1 (HZZ.out.1.below pS BWE.out)) (decide_eq_true rfl)).mono ?_
              rintro e w8 ⟨rfl, hb8⟩
              have CE8 := Aside0.mk (keep7 hb8 (keep7 BEE.out CE4.out))
              have HB8 := Aside0.mk hb8
              clear j0 j1 j2 j3 j4 i0 i1 hb8
              obtain ⟨_, j0, j1, j2, j3, j4, i0, i1⟩ := CE8.out
              go_wp2_with fail
              refine (samers_calls _ _ z.recs _ (HIN.out.2.below pR HB8.out) ((HZZ.out.2.below pR BWE.out).below pR HB8.out)).mono ?_
              rintro e w9 ⟨rfl, hb9⟩
              have CE9 := Aside0.mk (keep7 hb9 CE8.out)
              have HB9 : Aside0 (Below wr.heap.size wr w9) := ⟨HB8.out.trans (hb9.mono HB8.out.size)⟩
              clear j0 j1 j2 j3 j4 i0 i1 hb9
              obtain ⟨_, j0, j1, j2, j3, j4, i0, i1⟩ := CE9.out
              go_wp2_with fail
              refine (bv (exact_calls _ _ q.name q.name _ (HA4.out.below pS HB9.out) ((HQN.out.below pS BWE.out).below pS HB9.out)) (decide_eq_true rfl)).mono ?_
              rintro e w10 ⟨rfl, hb10⟩
              have BFIN : Aside0 (Below w.heap.size w w10) := ⟨(BWE.out.trans (HB9.out.mono BWE.out.size)).trans (hb10.mono (BWE.out.trans (HB9.out.mono BWE.out.size)).size)⟩
              clear hb10
              go_wp2_with fail
              go_ret
              exact ⟨rfl, BFIN.out⟩
end Go.Proofs.Ytkbjbkmaokebgaa.Gz

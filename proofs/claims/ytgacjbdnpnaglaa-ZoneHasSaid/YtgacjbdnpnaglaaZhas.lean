import Derived.Test.YtgacjbdnpnaglaaKit2
set_option linter.unusedVariables false
set_option linter.unusedSimpArgs false
namespace Go.Proofs.Ytgacjbdnpnaglaa.Gz
open Go.RowKit Go.Proofs.YtgacjbdnpnaglaaW.PrintWords
open Ki
theorem keep19 {W0 W w1 : World} (hb : Below W.heap.size W w1) {a0 a1 a2 a3 a4 a5 a6 a7 a8 a9 a10 a11 a12 a13 a14 a15 a16 a17 a18 : Addr} {x0 x1 x2 x3 x4 x5 x6 x7 x8 x9 x10 x11 x12 x13 x14 x15 x16 x17 x18 : Value} (h : Below W0.heap.size W0 W ∧ W.cell? a0 = some x0 ∧ W.cell? a1 = some x1 ∧ W.cell? a2 = some x2 ∧ W.cell? a3 = some x3 ∧ W.cell? a4 = some x4 ∧ W.cell? a5 = some x5 ∧ W.cell? a6 = some x6 ∧ W.cell? a7 = some x7 ∧ W.cell? a8 = some x8 ∧ W.cell? a9 = some x9 ∧ W.cell? a10 = some x10 ∧ W.cell? a11 = some x11 ∧ W.cell? a12 = some x12 ∧ W.cell? a13 = some x13 ∧ W.cell? a14 = some x14 ∧ W.cell? a15 = some x15 ∧ W.cell? a16 = some x16 ∧ W.cell? a17 = some x17 ∧ W.cell? a18 = some x18) : Below W0.heap.size W0 w1 ∧ w1.cell? a0 = some x0 ∧ w1.cell? a1 = some x1 ∧ w1.cell? a2 = some x2 ∧ w1.cell? a3 = some x3 ∧ w1.cell? a4 = some x4 ∧ w1.cell? a5 = some x5 ∧ w1.cell? a6 = some x6 ∧ w1.cell? a7 = some x7 ∧ w1.cell? a8 = some x8 ∧ w1.cell? a9 = some x9 ∧ w1.cell? a10 = some x10 ∧ w1.cell? a11 = some x11 ∧ w1.cell? a12 = some x12 ∧ w1.cell? a13 = some x13 ∧ w1.cell? a14 = some x14 ∧ w1.cell? a15 = some x15 ∧ w1.cell? a16 = some x16 ∧ w1.cell? a17 = some x17 ∧ w1.cell? a18 = some x18 := by
  obtain ⟨h1, k0, k1, k2, k3, k4, k5, k6, k7, k8, k9, k10, k11, k12, k13, k14, k15, k16, k17, k18⟩ := h
  exact ⟨h1.trans (hb.mono h1.size), (hb.cell (World.block_lt_of_cell? W _ k0)).trans k0, (hb.cell (World.block_lt_of_cell? W _ k1)).trans k1, (hb.cell (World.block_lt_of_cell? W _ k2)).trans k2, (hb.cell (World.block_lt_of_cell? W _ k3)).trans k3, (hb.cell (World.block_lt_of_cell? W _ k4)).trans k4, (hb.cell (World.block_lt_of_cell? W _ k5)).trans k5, (hb.cell (World.block_lt_of_cell? W _ k6)).trans k6, (hb.cell (World.block_lt_of_cell? W _ k7)).trans k7, (hb.cell (World.block_lt_of_cell? W _ k8)).trans k8, (hb.cell (World.block_lt_of_cell? W _ k9)).trans k9, (hb.cell (World.block_lt_of_cell? W _ k10)).trans k10, (hb.cell (World.block_lt_of_cell? W _ k11)).trans k11, (hb.cell (World.block_lt_of_cell? W _ k12)).trans k12, (hb.cell (World.block_lt_of_cell? W _ k13)).trans k13, (hb.cell (World.block_lt_of_cell? W _ k14)).trans k14, (hb.cell (World.block_lt_of_cell? W _ k15)).trans k15, (hb.cell (World.block_lt_of_cell? W _ k16)).trans k16, (hb.cell (World.block_lt_of_cell? W _ k17)).trans k17, (hb.cell (World.block_lt_of_cell? W _ k18)).trans k18⟩
def ZhC (a : Act) (u5 u30 u31 u32 u33 : Value) : Act := (((((a.put (some 5) u5).put (some 30) u30).put (some 31) u31).put (some 32) u32).put (some 33) u33)
theorem ZhC_put5 (a : Act) (u5 u30 u31 u32 u33 v : Value) : (ZhC a u5 u30 u31 u32 u33).put (some 5) v = ZhC a v u30 u31 u32 u33 := by
  unfold ZhC
  rw [put_comm (i := 33) (j := 5) (by decide), put_comm (i := 32) (j := 5) (by decide), put_comm (i := 31) (j := 5) (by decide), put_comm (i := 30) (j := 5) (by decide), put_put]
theorem ZhC_get5 (a : Act) (u5 u30 u31 u32 u33 : Value) (h : 5 < a.tmps.size) : (ZhC a u5 u30 u31 u32 u33).tmps[5]? = some u5 := by
  unfold ZhC
  exact (put_other (by decide)).trans ((put_other (by decide)).trans ((put_other (by decide)).trans ((put_other (by decide)).trans (put_same (by (try simp only [put_size]); exact h)))))
theorem ZhC_put30 (a : Act) (u5 u30 u31 u32 u33 v : Value) : (ZhC a u5 u30 u31 u32 u33).put (some 30) v = ZhC a u5 v u31 u32 u33 := by
  unfold ZhC
  rw [put_comm (i := 33) (j := 30) (by decide), put_comm (i := 32) (j := 30) (by decide), put_comm (i := 31) (j := 30) (by decide), put_put]
theorem ZhC_get30 (a : Act) (u5 u30 u31 u32 u33 : Value) (h : 30 < a.tmps.size) : (ZhC a u5 u30 u31 u32 u33).tmps[30]? = some u30 := by
  unfold ZhC
  exact (put_other (by decide)).trans ((put_other (by decide)).trans ((put_other (by decide)).trans (put_same (by (try simp only [put_size]); exact h))))
theorem ZhC_put31 (a : Act) (u5 u30 u31 u32 u33 v : Value) : (ZhC a u5 u30 u31 u32 u33).put (some 31) v = ZhC a u5 u30 v u32 u33 := by
  unfold ZhC
  rw [put_comm (i := 33) (j := 31) (by decide), put_comm (i := 32) (j := 31) (by decide), put_put]
theorem ZhC_get31 (a : Act) (u5 u30 u31 u32 u33 : Value) (h : 31 < a.tmps.size) : (ZhC a u5 u30 u31 u32 u33).tmps[31]? = some u31 := by
  unfold ZhC
  exact (put_other (by decide)).trans ((put_other (by decide)).trans (put_same (by (try simp only [put_size]); exact h)))
theorem ZhC_put32 (a : Act) (u5 u30 u31 u32 u33 v : Value) : (ZhC a u5 u30 u31 u32 u33).put (some 32) v = ZhC a u5 u30 u31 v u33 := by
  unfold ZhC
  rw [put_comm (i := 33) (j := 32) (by decide), put_put]
theorem ZhC_get32 (a : Act) (u5 u30 u31 u32 u33 : Value) (h : 32 < a.tmps.size) : (ZhC a u5 u30 u31 u32 u33).tmps[32]? = some u32 := by
  unfold ZhC
  exact (put_other (by decide)).trans (put_same (by (try simp only [put_size]); exact h))
theorem ZhC_put33 (a : Act) (u5 u30 u31 u32 u33 v : Value) : (ZhC a u5 u30 u31 u32 u33).put (some 33) v = ZhC a u5 u30 u31 u32 v := by
  unfold ZhC
  rw [put_put]
theorem ZhC_get33 (a : Act) (u5 u30 u31 u32 u33 : Value) (h : 33 < a.tmps.size) : (ZhC a u5 u30 u31 u32 u33).tmps[33]? = some u33 := by
  unfold ZhC
  exact put_same (by (try simp only [put_size]); exact h)
theorem ZhC_other (a : Act) (u5 u30 u31 u32 u33 : Value) (t : Nat) (h : 5 ≠ t ∧ 30 ≠ t ∧ 31 ≠ t ∧ 32 ≠ t ∧ 33 ≠ t) : (ZhC a u5 u30 u31 u32 u33).tmps[t]? = a.tmps[t]? := by
  obtain ⟨h5, h30, h31, h32, h33⟩ := h
  unfold ZhC
  rw [put_other h33, put_other h32, put_other h31, put_other h30, put_other h5]
theorem ZhC_id (a : Act) (h5 : a.tmps[5]? = some undef) (h30 : a.tmps[30]? = some undef) (h31 : a.tmps[31]? = some undef) (h32 : a.tmps[32]? = some undef) (h33 : a.tmps[33]? = some undef) : ZhC a undef undef undef undef undef = a := by
  unfold ZhC
  rw [put_id h5, put_id h30, put_id h31, put_id h32, put_id h33]
structure ZhAt (z : Zone) (q : Qn) (n : Nat) (cz cq : List Value) (W0 : World) (a0 : Act) (f : Nat → Bool) (a : Act) (u5 u30 u31 u32 u33 : Value) (W : World) : Prop where
  eq : a = ZhC a0 u5 u30 u31 u32 u33
  bel : Below n W0 W
  h0 : f 0 = true → u30 = .agg cz.toArray
  h2 : f 2 = true → u32 = .agg cq.toArray
  h1 : f 1 = true → ∃ c, u31 = .agg c.toArray ∧ kZ.K W (fun k => n ≤ k) z c
  h3 : f 3 = true → ∃ m c, u33 = .agg c.toArray ∧ Answers z q m ∧ kM.K W (fun k => n ≤ k ∧ (f 4 = true → ∀ M, u5 = .pointer (some ⟨M, 0, none⟩) → k ≠ M)) m c
  h4 : f 4 = true → ∃ M, u5 = .pointer (some ⟨M, 0, none⟩) ∧ n ≤ M ∧ M < W.heap.size ∧ W.there M 0 14
structure ZhEnd (z : Zone) (q : Qn) (n : Nat) (W0 : World) (a0 : Act) (a : Act) (u5 u30 u31 u32 u33 : Value) (W : World) : Prop where
  eq : a = ZhC a0 u5 u30 u31 u32 u33
  bel : Below n W0 W
  res : ∃ M m c, u5 = .pointer (some ⟨M, 0, none⟩) ∧ n ≤ M ∧ M < W.heap.size ∧ Answers z q m ∧ kM.K W (fun k => n ≤ k ∧ k ≠ M) m c ∧ W.rangeAt M 0 c
def ZhI (z : Zone) (q : Qn) (n : Nat) (cz cq : List Value) (W0 : World) (a0 : Act) (f : Nat → Bool) (a : Act) (W : World) : Prop :=
  (f 5 = false → ∃ u5 u30 u31 u32 u33, ZhAt z q n cz cq W0 a0 f a u5 u30 u31 u32 u33 W) ∧ (f 5 = true → ∃ u5 u30 u31 u32 u33, ZhEnd z q n W0 a0 a u5 u30 u31 u32 u33 W)
theorem ZhI_mk {z : Zone} {q : Qn} {n : Nat} {cz cq : List Value} {W0 : World} {a0 : Act} {f : Nat → Bool} {u5 u30 u31 u32 u33 : Value} {W : World} (h : f 5 = true → False) (H : ZhAt z q n cz cq W0 a0 f (ZhC a0 u5 u30 u31 u32 u33) u5 u30 u31 u32 u33 W) : ZhI z q n cz cq W0 a0 f (ZhC a0 u5 u30 u31 u32 u33) W := ⟨fun _ => ⟨_, _, _, _, _, H⟩, fun h' => (h h').elim⟩
theorem ZhI_end {z : Zone} {q : Qn} {n : Nat} {cz cq : List Value} {W0 : World} {a0 : Act} {f : Nat → Bool} {u5 u30 u31 u32 u33 : Value} {W : World} (h : f 5 = true) (H : ZhEnd z q n W0 a0 (ZhC a0 u5 u30 u31 u32 u33) u5 u30 u31 u32 u33 W) : ZhI z q n cz cq W0 a0 f (ZhC a0 u5 u30 u31 u32 u33) W := ⟨fun h' => absurd (h.symm.trans h') (by decide), fun _ => ⟨_, _, _, _, _, H⟩⟩
set_option maxHeartbeats 16000000 in
set_option maxRecDepth 100000 in
theorem zonehas_calls (z : Zone) (cz : List Value) (q : Qn) (cq : List Value) (w : World) (hz : kZ.K w (fun _ => True) z cz) (hq : kQ.K w (fun _ => True) q cq) :
    Calls Try.prog 3 #[.agg cz.toArray, .agg cq.toArray] w fun e w' => e = .returned (.bool true) ∧ Below w.heap.size w w' := by
  obtain ⟨An, cn, Ar, cr, rfl⟩ := kZ_form hz
  obtain ⟨vq, rfl, hqn, hqt, hqc⟩ := hq
  have HQ : Aside0 (kQ.K w (fun _ => True) q [vq, .int .i64 q.typ, .int .i64 q.cls]) := ⟨⟨_, rfl, hqn, hqt, hqc⟩⟩
  obtain ⟨Aq, cq', rfl, _, _⟩ := hqn
  have HZ := Aside0.mk hz
  have hrr : kR.Rd w (fun _ => True) (.slice Ar z.recs.length cr) z.recs := by
    obtain ⟨u1, u2, e, _, h2⟩ := hz
    simp only [List.cons.injEq, and_true] at e
    rw [e.2]; exact h2
  have HRR := Aside0.mk hrr
  clear hz hrr
  generalize hW0 : (w.alloc (.cells #[.slice An z.name.length cn, .slice Ar z.recs.length cr] 25)).alloc (.cells #[.slice Aq q.name.length cq', .int .i64 q.typ, .int .i64 q.cls] 27) = W0
  have HW0 := Aside0.mk hW0
  have BX : Aside0 (Below w.heap.size w W0) := ⟨by rw [← hW0]; exact below_alloc (below_alloc (Below.refl _ _) _) _⟩
  have hs0 : W0.heap.size = w.heap.size + 2 := by rw [← hW0]; simp
  have y0 : W0.cell? ⟨w.heap.size, 0, none⟩ = some (.slice An z.name.length cn) := by rw [← hW0, cellA (by simp)]; simp
  have y1 : W0.cell? ⟨w.heap.size, 1, none⟩ = some (.slice Ar z.recs.length cr) := by rw [← hW0, cellA (by simp)]; simp
  have q0 : W0.cell? ⟨w.heap.size + 1, 0, none⟩ = some (.slice Aq q.name.length cq') := by rw [← hW0, cellN (by simp)]; rfl
  have q1 : W0.cell? ⟨w.heap.size + 1, 1, none⟩ = some (.int .i64 q.typ) := by rw [← hW0, cellN (by simp)]; rfl
  have q2 : W0.cell? ⟨w.heap.size + 1, 2, none⟩ = some (.int .i64 q.cls) := by rw [← hW0, cellN (by simp)]; rfl
  have HY := Aside0.mk (And.intro y0 (And.intro y1 (And.intro q0 (And.intro q1 q2))))
  have HS0 := Aside0.mk hs0
  have hl0 : w.heap.size < W0.heap.size := by omega
  have hl1 : w.heap.size + 1 < W0.heap.size := by omega
  clear hW0 hs0
  go_enter Try.func3, Try.ntmps3
  go_wp2_with fail
  rw [HW0.out]
  refine (answers_calls W0).mono ?_
  rintro e w1 ⟨rfl, hb1⟩
  have HB1 := Aside0.mk hb1
  obtain ⟨bc, bf⟩ := bcell hb1
  clear hb1
  go_wp2_with fail
  refine (light_calls z _ w1 (K_below HZ.out (BX.out.trans (HB1.out.mono BX.out.size)))).mono ?_
  rintro e w2 ⟨b2, rfl, hb2⟩
  have HB2 := Aside0.mk (HB1.out.trans (hb2.mono HB1.out.size))
  clear hb2 bc bf
  obtain ⟨bc, bf⟩ := bcell HB2.out
  cases b2 with
  | false =>
    go_wp2_with fail
    refine (answers_calls _).mono ?_
    rintro e wf ⟨rfl, hbf⟩
    have HBF := Aside0.mk ((BX.out.trans (HB2.out.mono BX.out.size)).trans (hbf.mono (BX.out.trans (HB2.out.mono BX.out.size)).size))
    clear hbf
    go_wp2_with fail
    go_ret
    exact ⟨rfl, HBF.out⟩
  | true =>
    by_cases n1 : 130 < q.name.length
    · skip
      go_wp2_with fail
      refine (answers_calls _).mono ?_
      rintro e wf ⟨rfl, hbf⟩
      have HBF := Aside0.mk ((BX.out.trans (HB2.out.mono BX.out.size)).trans (hbf.mono (BX.out.trans (HB2.out.mono BX.out.size)).size))
      clear hbf
      go_wp2_with fail
      go_ret
      exact ⟨rfl, HBF.out⟩
    go_wp2_with fail
    refine (plain_calls z _ w2 (K_below HZ.out (BX.out.trans (HB2.out.mono BX.out.size)))).mono ?_
    rintro e w3 ⟨rfl, hb3⟩
    have HB3 := Aside0.mk (HB2.out.trans (hb3.mono HB2.out.size))
    clear hb3 bc bf
    obtain ⟨bc, bf⟩ := bcell HB3.out
    go_wp2_with fail
    cases hs : zSound z with
    | false =>
      have HS := Aside0.mk hs
      clear hs
      refine (bv (snd17_calls z _ w3 (K_below HZ.out (BX.out.trans (HB3.out.mono BX.out.size)))) HS.out).mono ?_
      rintro e w4 ⟨rfl, hb4⟩
      have HB4 := Aside0.mk (HB3.out.trans (hb4.mono HB3.out.size))
      clear hb4 bc bf
      go_wp2_with fail
      refine (answers_calls _).mono ?_
      rintro e wf ⟨rfl, hbf⟩
      have HBF := Aside0.mk ((BX.out.trans (HB4.out.mono BX.out.size)).trans (hbf.mono (BX.out.trans (HB4.out.mono BX.out.size)).size))
      clear hbf
      go_wp2_with fail
      go_ret
      exact ⟨rfl, HBF.out⟩
    | true =>
      have HS := Aside0.mk hs
      clear hs
      refine (bv (snd17_calls z _ w3 (K_below HZ.out (BX.out.trans (HB3.out.mono BX.out.size)))) HS.out).mono ?_
      rintro e w4 ⟨rfl, hb4⟩
      have HB4 := Aside0.mk (HB3.out.trans (hb4.mono HB3.out.size))
      clear hb4 bc bf
      go_upto_region 3 with (fail)
      have hX : Aside0 (w.heap.size < w4.heap.size ∧ w.heap.size + 1 < w4.heap.size) := ⟨Nat.lt_of_lt_of_le hl0 HB4.out.size, Nat.lt_of_lt_of_le hl1 HB4.out.size⟩
      have Y4 : Aside0 (w4.cell? ⟨w.heap.size, 0, none⟩ = some (.slice An z.name.length cn) ∧ w4.cell? ⟨w.heap.size, 1, none⟩ = some (.slice Ar z.recs.length cr) ∧ w4.cell? ⟨w.heap.size + 1, 0, none⟩ = some (.slice Aq q.name.length cq') ∧ w4.cell? ⟨w.heap.size + 1, 1, none⟩ = some (.int .i64 q.typ) ∧ w4.cell? ⟨w.heap.size + 1, 2, none⟩ = some (.int .i64 q.cls)) := ⟨(HB4.out.cell (p := ⟨w.heap.size, 0, none⟩) hl0).trans HY.out.1, (HB4.out.cell (p := ⟨w.heap.size, 1, none⟩) hl0).trans HY.out.2.1, (HB4.out.cell (p := ⟨w.heap.size + 1, 0, none⟩) hl1).trans HY.out.2.2.1, (HB4.out.cell (p := ⟨w.heap.size + 1, 1, none⟩) hl1).trans HY.out.2.2.2.1, (HB4.out.cell (p := ⟨w.heap.size + 1, 2, none⟩) hl1).trans HY.out.2.2.2.2⟩
      have KZ4 := Aside0.mk (K_below HZ.out (BX.out.trans (HB4.out.mono BX.out.size)))
      have KQ4 := Aside0.mk (K_below HQ.out (BX.out.trans (HB4.out.mono BX.out.size)))
      clear y0 y1 q0 q1 q2
      refine wp_region_from (by kernel_rfl) (ZhI z q w4.heap.size [.slice An z.name.length cn, .slice Ar z.recs.length cr] [.slice Aq q.name.length cq', .int .i64 q.typ, .int .i64 q.cls] w4) (by kernel_rfl) ?_ ?_ ?_
      · refine ⟨fun _ => ⟨undef, undef, undef, undef, undef, ?_⟩, fun h => by cases h⟩
        exact { eq := (ZhC_id _ rfl rfl rfl rfl rfl).symm, bel := (Below.refl _ _).drew, h0 := (fun h => by cases h), h1 := (fun h => by cases h), h2 := (fun h => by cases h), h3 := (fun h => by cases h), h4 := (fun h => by cases h) }
      · generalize ha0 : (⟨_, _⟩ : Act) = a0
        have T2 : Aside0 (a0.tmps[2]? = some (.pointer (some ⟨w.heap.size, 0, none⟩)) ∧ a0.tmps[3]? = some (.pointer (some ⟨w.heap.size + 1, 0, none⟩)) ∧ a0.tmps.size = 104) := ⟨by rw [← ha0]; rfl, by rw [← ha0]; rfl, by rw [← ha0]; rfl⟩
        clear ha0
        intro f a W i o ho hf he hsh hI
        have hi : i < 6 := (Array.getElem?_eq_some_iff.1 ho).1
        cases h5 : f 5 with
        | true =>
          exfalso
          have q0 : f 0 = true := hsh 5 _ rfl h5 ⟨0, .phase⟩ (by simp) rfl
          have q1 : f 1 = true := hsh 5 _ rfl h5 ⟨1, .phase⟩ (by simp) rfl
          have q2 : f 2 = true := hsh 5 _ rfl h5 ⟨2, .phase⟩ (by simp) rfl
          have q3 : f 3 = true := hsh 5 _ rfl h5 ⟨3, .phase⟩ (by simp) rfl
          have q4 : f 4 = true := hsh 5 _ rfl h5 ⟨4, .phase⟩ (by simp) rfl
          rcases (show i = 0 ∨ i = 1 ∨ i = 2 ∨ i = 3 ∨ i = 4 ∨ i = 5 from by omega) with rfl | rfl | rfl | rfl | rfl | rfl
          · exact absurd (hf.symm.trans q0) (by decide)
          · exact absurd (hf.symm.trans q1) (by decide)
          · exact absurd (hf.symm.trans q2) (by decide)
          · exact absurd (hf.symm.trans q3) (by decide)
          · exact absurd (hf.symm.trans q4) (by decide)
          · exact absurd (hf.symm.trans h5) (by decide)
        | false =>
          obtain ⟨u5, u30, u31, u32, u33, HH⟩ := hI.1 h5
          have H := Aside0.mk HH
          clear hI HH hsh
          have hbs : w4.heap.size ≤ W.heap.size := H.out.bel.size
          have NE : ∀ i, i ≠ 5 → mark f i 5 = true → False := fun i h h' => absurd ((mark_ne' (f := f) (Ne.symm h)).symm.trans h' |>.symm.trans h5) (by decide)
          obtain rfl := H.out.eq
          rcases (show i = 0 ∨ i = 1 ∨ i = 2 ∨ i = 3 ∨ i = 4 ∨ i = 5 from by omega) with rfl | rfl | rfl | rfl | rfl | rfl
          · have ho2 := ho
            simp only [List.getElem?_toArray, List.getElem?_cons_succ, List.getElem?_cons_zero, Option.some.injEq] at ho2
            subst ho2
            refine wpOp_plain ho rfl ?_
            have r1 := ((ZhC_other a0 u5 u30 u31 u32 u33 2 (by decide)).trans T2.out.1)
            have c0 := (H.out.bel.cell (p := ⟨w.heap.size, 0, none⟩) (by show w.heap.size < w4.heap.size; exact hX.out.1)).trans Y4.out.1
            have c1 := (H.out.bel.cell (p := ⟨w.heap.size, 1, none⟩) (by show w.heap.size < w4.heap.size; exact hX.out.1)).trans Y4.out.2.1
            generalize hcc : ZhC a0 u5 u30 u31 u32 u33 = ac at r1
            unfold Oper.wp execOp
            go_simp
            rw [← hcc]
            show ZhI z q _ _ _ w4 a0 (mark f 0) ((ZhC a0 u5 u30 u31 u32 u33).put (some 30) _) _
            rw [ZhC_put30]
            refine ZhI_mk (NE 0 (by decide)) ?_
            exact { eq := rfl, bel := H.out.bel.trans ((Below.refl W.heap.size W).mono hbs), h0 := fun _ => rfl, h1 := fun hf => (fun ⟨c, e1, e2⟩ => ⟨c, e1, K_below e2 (Below.refl W.heap.size W)⟩) (H.out.h1 ((mark_ne' (f := f) (i := 0) (j := 1) (by decide)).symm.trans hf)), h2 := fun hf => H.out.h2 ((mark_ne' (f := f) (i := 0) (j := 2) (by decide)).symm.trans hf), h3 := fun hf => (fun ⟨m, c, e1, e2, e3⟩ => ⟨m, c, e1, e2, kM.mono (fun k hk => ⟨hk.1, fun h4 => hk.2 ((mark_ne' (f := f) (i := 0) (j := 4) (by decide)).symm.trans h4)⟩) (K_below e3 (Below.refl W.heap.size W))⟩) (H.out.h3 ((mark_ne' (f := f) (i := 0) (j := 3) (by decide)).symm.trans hf)), h4 := fun hf => (fun ⟨M, e1, e2, e3, e4⟩ => ⟨M, e1, e2, Nat.lt_of_lt_of_le e3 (Below.refl W.heap.size W).size, there_below (Below.refl W.heap.size W) e3 e4⟩) (H.out.h4 ((mark_ne' (f := f) (i := 0) (j := 4) (by decide)).symm.trans hf)) }
          · have ho2 := ho
            simp only [List.getElem?_toArray, List.getElem?_cons_succ, List.getElem?_cons_zero, Option.some.injEq] at ho2
            subst ho2
            refine wpOp_plain ho rfl ?_
            have r1 := (ZhC_get30 a0 u5 u30 u31 u32 u33 (by rw [T2.out.2.2]; decide)).trans (congrArg some (H.out.h0 (he ⟨0, .data⟩ (by simp) rfl)))
            have hc := lawown_calls z [.slice An z.name.length cn, .slice Ar z.recs.length cr] W (K_below KZ4.out H.out.bel)
            generalize hcc : ZhC a0 u5 u30 u31 u32 u33 = ac at r1
            unfold Oper.wp execOp
            go_simp
            refine hc.mono ?_
            rintro e w1 ⟨c1, rfl, hk1, hb1⟩
            rw [← hcc]
            show ZhI z q _ _ _ w4 a0 (mark f 1) ((ZhC a0 u5 u30 u31 u32 u33).put (some 31) _) _
            rw [ZhC_put31]
            refine ZhI_mk (NE 1 (by decide)) ?_
            exact { eq := rfl, bel := H.out.bel.trans (hb1.mono hbs), h0 := fun hf => H.out.h0 ((mark_ne' (f := f) (i := 1) (j := 0) (by decide)).symm.trans hf), h1 := fun _ => ⟨_, rfl, kZ.mono (fun k hk => Nat.le_trans hbs hk) hk1⟩, h2 := fun hf => H.out.h2 ((mark_ne' (f := f) (i := 1) (j := 2) (by decide)).symm.trans hf), h3 := fun hf => (fun ⟨m, c, e1, e2, e3⟩ => ⟨m, c, e1, e2, kM.mono (fun k hk => ⟨hk.1, fun h4 => hk.2 ((mark_ne' (f := f) (i := 1) (j := 4) (by decide)).symm.trans h4)⟩) (K_below e3 hb1)⟩) (H.out.h3 ((mark_ne' (f := f) (i := 1) (j := 3) (by decide)).symm.trans hf)), h4 := fun hf => (fun ⟨M, e1, e2, e3, e4⟩ => ⟨M, e1, e2, Nat.lt_of_lt_of_le e3 hb1.size, there_below hb1 e3 e4⟩) (H.out.h4 ((mark_ne' (f := f) (i := 1) (j := 4) (by decide)).symm.trans hf)) }
          · have ho2 := ho
            simp only [List.getElem?_toArray, List.getElem?_cons_succ, List.getElem?_cons_zero, Option.some.injEq] at ho2
            subst ho2
            refine wpOp_plain ho rfl ?_
            have r1 := ((ZhC_other a0 u5 u30 u31 u32 u33 3 (by decide)).trans T2.out.2.1)
            have c0 := (H.out.bel.cell (p := ⟨w.heap.size + 1, 0, none⟩) (by show w.heap.size + 1 < w4.heap.size; exact hX.out.2)).trans Y4.out.2.2.1
            have c1 := (H.out.bel.cell (p := ⟨w.heap.size + 1, 1, none⟩) (by show w.heap.size + 1 < w4.heap.size; exact hX.out.2)).trans Y4.out.2.2.2.1
            have c2 := (H.out.bel.cell (p := ⟨w.heap.size + 1, 2, none⟩) (by show w.heap.size + 1 < w4.heap.size; exact hX.out.2)).trans Y4.out.2.2.2.2
            generalize hcc : ZhC a0 u5 u30 u31 u32 u33 = ac at r1
            unfold Oper.wp execOp
            go_simp
            rw [← hcc]
            show ZhI z q _ _ _ w4 a0 (mark f 2) ((ZhC a0 u5 u30 u31 u32 u33).put (some 32) _) _
            rw [ZhC_put32]
            refine ZhI_mk (NE 2 (by decide)) ?_
            exact { eq := rfl, bel := H.out.bel.trans ((Below.refl W.heap.size W).mono hbs), h0 := fun hf => H.out.h0 ((mark_ne' (f := f) (i := 2) (j := 0) (by decide)).symm.trans hf), h1 := fun hf => (fun ⟨c, e1, e2⟩ => ⟨c, e1, K_below e2 (Below.refl W.heap.size W)⟩) (H.out.h1 ((mark_ne' (f := f) (i := 2) (j := 1) (by decide)).symm.trans hf)), h2 := fun _ => rfl, h3 := fun hf => (fun ⟨m, c, e1, e2, e3⟩ => ⟨m, c, e1, e2, kM.mono (fun k hk => ⟨hk.1, fun h4 => hk.2 ((mark_ne' (f := f) (i := 2) (j := 4) (by decide)).symm.trans h4)⟩) (K_below e3 (Below.refl W.heap.size W))⟩) (H.out.h3 ((mark_ne' (f := f) (i := 2) (j := 3) (by decide)).symm.trans hf)), h4 := fun hf => (fun ⟨M, e1, e2, e3, e4⟩ => ⟨M, e1, e2, Nat.lt_of_lt_of_le e3 (Below.refl W.heap.size W).size, there_below (Below.refl W.heap.size W) e3 e4⟩) (H.out.h4 ((mark_ne' (f := f) (i := 2) (j := 4) (by decide)).symm.trans hf)) }
          · have ho2 := ho
            simp only [List.getElem?_toArray, List.getElem?_cons_succ, List.getElem?_cons_zero, Option.some.injEq] at ho2
            subst ho2
            refine wpOp_plain ho rfl ?_
            obtain ⟨c1, e1, hk1⟩ := H.out.h1 (he ⟨1, .data⟩ (by simp) rfl)
            have r1 := (ZhC_get31 a0 u5 u30 u31 u32 u33 (by rw [T2.out.2.2]; decide)).trans (congrArg some e1)
            have r2 := (ZhC_get32 a0 u5 u30 u31 u32 u33 (by rw [T2.out.2.2]; decide)).trans (congrArg some (H.out.h2 (he ⟨2, .data⟩ (by simp) rfl)))
            have hc := zans_calls z c1 q [.slice Aq q.name.length cq', .int .i64 q.typ, .int .i64 q.cls] W (kZ.mono (fun _ _ => trivial) hk1) (K_below KQ4.out H.out.bel)
            clear e1
            generalize hcc : ZhC a0 u5 u30 u31 u32 u33 = ac at r1 r2
            unfold Oper.wp execOp
            go_simp
            refine hc.mono ?_
            rintro e w1 ⟨m, hm, c3, rfl, hk3, hb1⟩
            rw [← hcc]
            show ZhI z q _ _ _ w4 a0 (mark f 3) ((ZhC a0 u5 u30 u31 u32 u33).put (some 33) _) _
            rw [ZhC_put33]
            refine ZhI_mk (NE 3 (by decide)) ?_
            exact { eq := rfl, bel := H.out.bel.trans (hb1.mono hbs), h0 := fun hf => H.out.h0 ((mark_ne' (f := f) (i := 3) (j := 0) (by decide)).symm.trans hf), h1 := fun hf => (fun ⟨c, e1, e2⟩ => ⟨c, e1, K_below e2 hb1⟩) (H.out.h1 ((mark_ne' (f := f) (i := 3) (j := 1) (by decide)).symm.trans hf)), h2 := fun hf => H.out.h2 ((mark_ne' (f := f) (i := 3) (j := 2) (by decide)).symm.trans hf), h3 := fun _ => ⟨m, c3, rfl, hm, kM.mono (fun k hk => ⟨Nat.le_trans hbs hk, fun h4 M hM => ptr_ne (H.out.h4 ((mark_ne' (f := f) (i := 3) (j := 4) (by decide)).symm.trans h4)) hM hk⟩) hk3⟩, h4 := fun hf => (fun ⟨M, e1, e2, e3, e4⟩ => ⟨M, e1, e2, Nat.lt_of_lt_of_le e3 hb1.size, there_below hb1 e3 e4⟩) (H.out.h4 ((mark_ne' (f := f) (i := 3) (j := 4) (by decide)).symm.trans hf)) }
          · have ho2 := ho
            simp only [List.getElem?_toArray, List.getElem?_cons_succ, List.getElem?_cons_zero, Option.some.injEq] at ho2
            subst ho2
            refine wpOp_plain ho rfl ?_
            generalize hcc : ZhC a0 u5 u30 u31 u32 u33 = ac
            unfold Oper.wp execOp
            go_simp
            rw [← hcc]
            show ZhI z q _ _ _ w4 a0 (mark f 4) ((ZhC a0 u5 u30 u31 u32 u33).put (some 5) _) _
            rw [ZhC_put5]
            refine ZhI_mk (NE 4 (by decide)) ?_
            exact { eq := rfl, bel := H.out.bel.trans ((below_alloc (Below.refl W.heap.size W) _).mono hbs), h0 := fun hf => H.out.h0 ((mark_ne' (f := f) (i := 4) (j := 0) (by decide)).symm.trans hf), h1 := fun hf => (fun ⟨c, e1, e2⟩ => ⟨c, e1, K_below e2 (below_alloc (Below.refl W.heap.size W) _)⟩) (H.out.h1 ((mark_ne' (f := f) (i := 4) (j := 1) (by decide)).symm.trans hf)), h2 := fun hf => H.out.h2 ((mark_ne' (f := f) (i := 4) (j := 2) (by decide)).symm.trans hf), h3 := fun hf => (fun ⟨m, c, e1, e2, e3⟩ => ⟨m, c, e1, e2, kM.mono (fun k hk => ⟨hk.1.1, fun _ M hM => new_ne hM hk.2⟩) (K_below (kM.low e3) (below_alloc (Below.refl W.heap.size W) _))⟩) (H.out.h3 ((mark_ne' (f := f) (i := 4) (j := 3) (by decide)).symm.trans hf)), h4 := fun _ => ⟨_, rfl, hbs, by simp, there_new W _ _⟩ }
          · have ho2 := ho
            simp only [List.getElem?_toArray, List.getElem?_cons_succ, List.getElem?_cons_zero, Option.some.injEq] at ho2
            subst ho2
            obtain ⟨m, c, e3, hm, hk⟩ := H.out.h3 (he ⟨3, .data⟩ (by simp) rfl)
            have h4 := he ⟨4, .data⟩ (by simp) rfl
            obtain ⟨M, e4, hnM, hMl, hth⟩ := H.out.h4 h4
            have r1 := (ZhC_get5 a0 u5 u30 u31 u32 u33 (by rw [T2.out.2.2]; decide)).trans (congrArg some e4)
            have r2 := (ZhC_get33 a0 u5 u30 u31 u32 u33 (by rw [T2.out.2.2]; decide)).trans (congrArg some e3)
            have hcl := kM.len hk
            have hcl' : c.toArray.size = 14 := by rw [List.size_toArray]; exact hcl
            have ht' : W.there M 0 c.toArray.size := by rw [hcl']; exact hth
            have hi' : (Try.prog.info? 35).map (·.size) = some c.toArray.size := by rw [hcl']; exact infoM
            refine wpOp_store_mid ho rfl 35 (.tmp 5) (.tmp 33) rfl M 0 c.toArray (eval_tmp r1) (eval_tmp r2) ht' hi' (all_oneCell_toArray (kM.one hk)) ?_
            show ZhI z q _ _ _ w4 a0 (mark f 5) (ZhC a0 u5 u30 u31 u32 u33) _
            refine ZhI_end mark_self ?_
            refine { eq := rfl, bel := below_setCells _ _ _ H.out.bel hnM, res := ⟨M, m, c, e4, hnM, by rw [size_setCells]; exact hMl, hm, kM.step (fun k hk _ => heap_setCells _ _ _ _ hk.2) (kM.mono (fun k hk => ⟨hk.1, hk.2 h4 M e4⟩) hk), ?_⟩ }
            have := World.rangeAt_setCells_same W M 0 c (by rw [hcl]; exact hth)
            simpa using this
      · rename_i KK hKK
        intro f a W hall hI
        obtain ⟨u5, u30, u31, u32, u33, HE⟩ := hI.2 (hall 5 (by decide))
        clear hall hI
        obtain rfl := HE.eq
        have BM := Aside0.mk HE.bel
        obtain ⟨M, m, c, rfl, hnM, hMl, hm, hkm, hrm⟩ := HE.res
        clear HE
        have HKM := Aside0.mk hkm
        have HRM := Aside0.mk hrm
        have HM := Aside0.mk hm
        obtain ⟨vq', va, vb, vx, rfl, _, _, hrc, _, ha, hb, hx, _⟩ := hkm
        have HA := Aside0.mk ha
        have HBb := Aside0.mk hb
        have HXx := Aside0.mk hx
        obtain ⟨Aa, ka, rfl, _, _⟩ := ha
        obtain ⟨Ab, kb, rfl, _, _⟩ := hb
        obtain ⟨Ax, kx, rfl, _, _⟩ := hx
        have m3 := hrm 3 _ rfl
        have m7 := hrm 7 _ rfl
        have m9 := hrm 9 _ rfl
        have m10 := hrm 10 _ rfl
        have m11 := hrm 11 _ rfl
        simp only [Nat.zero_add] at m3 m7 m9 m10 m11
        clear hrm hm
        refine hKK _ W ?_
        (try simp only [ZhC, Act.put, List.setIfInBounds_toArray, List.set_cons_zero, List.set_cons_succ])
        have HA1 : Aside0 (∀ W1, Below W.heap.size W W1 → kR.Rd W1 (fun k => k < W.heap.size) (.slice Aa m.ans.length ka) m.ans) := ⟨fun W1 h => ((HA.out.low pR).mono (fun _ h => h.2)).below pR h⟩
        have HB1' : Aside0 (∀ W1, Below W.heap.size W W1 → kR.Rd W1 (fun k => k < W.heap.size) (.slice Ab m.auth.length kb) m.auth) := ⟨fun W1 h => ((HBb.out.low pR).mono (fun _ h => h.2)).below pR h⟩
        have HX1 : Aside0 (∀ W1, Below W.heap.size W W1 → kR.Rd W1 (fun k => k < W.heap.size) (.slice Ax m.extra.length kx) m.extra) := ⟨fun W1 h => ((HXx.out.low pR).mono (fun _ h => h.2)).below pR h⟩
        have OL : Aside0 (kR.Own 44 (W.alloc (.cells #[] 44)).drew W.heap.size (fun k => k < W.heap.size) (.slice (some ⟨W.heap.size, 0, none⟩) 0 0) []) := ⟨Own.lit0 kR 44 W.drew W.heap.size (fun k => k < W.heap.size) (Nat.le_refl _)⟩
        have BD1 : Aside0 (Below W.heap.size W (W.alloc (.cells #[] 44)).drew) := ⟨(below_alloc (Below.refl _ _) _).drew⟩
        have few := answers_few HM.out
        have hby : kR.bytes = 168 := rfl
        have L1 : Aside0 (m.ans.length * kR.bytes ≤ B47) := ⟨by rw [hby]; unfold B47; omega⟩
        have L2 : Aside0 ((m.ans.length + m.auth.length) * kR.bytes ≤ B47) := ⟨by rw [hby]; unfold B47; omega⟩
        have L3 : Aside0 (∀ mid, mid = m.ans ++ m.auth → (mid.length + m.extra.length) * kR.bytes ≤ B47) := ⟨fun mid h => by rw [hby, h, List.length_append]; unfold B47; omega⟩
        have hst : Below W.heap.size W W.drew ∧ W.drew.cell? ⟨M, 9, none⟩ = some (.slice Aa m.ans.length ka) ∧ W.drew.cell? ⟨M, 10, none⟩ = some (.slice Ab m.auth.length kb) ∧ W.drew.cell? ⟨M, 11, none⟩ = some (.slice Ax m.extra.length kx) := ⟨(Below.refl _ _).drew, m9, m10, m11⟩
        have HST2 : Aside0 (Below W.heap.size W (W.alloc (.cells #[] 44)).drew ∧ (W.alloc (.cells #[] 44)).drew.cell? ⟨M, 9, none⟩ = some (.slice Aa m.ans.length ka) ∧ (W.alloc (.cells #[] 44)).drew.cell? ⟨M, 10, none⟩ = some (.slice Ab m.auth.length kb) ∧ (W.alloc (.cells #[] 44)).drew.cell? ⟨M, 11, none⟩ = some (.slice Ax m.extra.length kx)) := ⟨BD1.out, (BD1.out.cell (p := ⟨M, 9, none⟩) hMl).trans m9, (BD1.out.cell (p := ⟨M, 10, none⟩) hMl).trans m10, (BD1.out.cell (p := ⟨M, 11, none⟩) hMl).trans m11⟩
        have FW := Aside0.mk few
        clear few hby
        go_upto_region 4 with (fail)
        go_region_held3 (fun w' => Below W.heap.size W w' ∧ w'.cell? ⟨M, 9, none⟩ = some (.slice Aa m.ans.length ka) ∧ w'.cell? ⟨M, 10, none⟩ = some (.slice Ab m.auth.length kb) ∧ w'.cell? ⟨M, 11, none⟩ = some (.slice Ax m.extra.length kx))
          (first | (with_reducible exact HST2.out) | (with_reducible exact keepM hb1 (by assumption)) | (with_reducible exact keepG hg3 (fun k hk => (ho2.lt k hk).1) hMl hMl hMl (by assumption)) | (with_reducible exact keepG hg2 (fun k hk => (ho1.lt k hk).1) hMl hMl hMl (by assumption)) | go_keep)
          ((first
            | (refine step_append_zero kR W.heap.size ?_ (.tmp 34) (.tmp 36) 23 44 (.agg #[.slice none 0 0, .int .i64 0, .int .i64 0, .int .i64 0, .slice none 0 0, .slice none 0 0, .slice none 0 0, .slice none 0 0, .slice none 0 0]) ?_ ?_ ?_ ?_ ?_ ?_ (some ⟨W.heap.size, 0, none⟩) (.slice Aa m.ans.length ka) m.ans (fun k => k < W.heap.size) ?_ ?_ ?_ ?_ ?_ ?_ ?_; rfl; rfl; exact Try.underlying23; exact infoR0; rfl; decide; decide; rfl; rfl; exact OL.out; exact HA1.out _ BD1.out; exact BD1.out.size; exact L1.out; intro v1 w1 ho1 hb1; obtain ⟨A1, k1, rfl, _⟩ := ho1.slice_)
            | (refine step_append_own kR W.heap.size ?_ (.tmp 37) (.tmp 39) 23 44 (.agg #[.slice none 0 0, .int .i64 0, .int .i64 0, .int .i64 0, .slice none 0 0, .slice none 0 0, .slice none 0 0, .slice none 0 0, .slice none 0 0]) ?_ ?_ ?_ ?_ ?_ ?_ (.slice A1 m.ans.length k1) (.slice Ab m.auth.length kb) m.ans m.auth (fun k => k < W.heap.size) ?_ ?_ ?_ ?_ ?_ ?_ ?_; rfl; rfl; exact Try.underlying23; exact infoR0; rfl; decide; decide; rfl; rfl; exact ho1; exact rd_apart (HB1'.out _ (And.left (by assumption))) ho1; exact (And.left (by assumption) : Below W.heap.size W w1).size; exact L2.out; intro v2 w2 ho2 hg2 _; generalize hMid : m.ans ++ m.auth = mid at ho2; obtain ⟨A2, k2, rfl, _⟩ := ho2.slice_)
            | (refine step_append_own kR W.heap.size ?_ (.tmp 40) (.tmp 42) 23 44 (.agg #[.slice none 0 0, .int .i64 0, .int .i64 0, .int .i64 0, .slice none 0 0, .slice none 0 0, .slice none 0 0, .slice none 0 0, .slice none 0 0]) ?_ ?_ ?_ ?_ ?_ ?_ (.slice A2 mid.length k2) (.slice Ax m.extra.length kx) mid m.extra (fun k => k < W.heap.size) ?_ ?_ ?_ ?_ ?_ ?_ ?_; rfl; rfl; exact Try.underlying23; exact infoR0; rfl; decide; decide; rfl; rfl; exact ho2; exact rd_apart (HX1.out _ (And.left (by assumption))) ho2; exact (And.left (by assumption) : Below W.heap.size W w2).size; exact L3.out mid hMid.symm; intro v3 w3 ho3 hg3 _; generalize hAll : mid ++ m.extra = all at ho3; obtain ⟨A3, k3, rfl, _⟩ := ho3.slice_)))
        have hs3 : Below W.heap.size W w3 ∧ w3.cell? ⟨M, 9, none⟩ = some (.slice Aa m.ans.length ka) ∧ w3.cell? ⟨M, 10, none⟩ = some (.slice Ab m.auth.length kb) ∧ w3.cell? ⟨M, 11, none⟩ = some (.slice Ax m.extra.length kx) := by assumption
        have B3 := Aside0.mk hs3.1
        have n3 := (B3.out.cell (p := ⟨M, 3, none⟩) hMl).trans m3
        have n7 := (B3.out.cell (p := ⟨M, 7, none⟩) hMl).trans m7
        have N9 := Aside0.mk (And.intro n3 (And.intro n7 (And.intro hs3.2.1 hs3.2.2.1)))
        have hAll2 : m.ans ++ m.auth ++ m.extra = all := by rw [hMid]; exact hAll
        have HALL := Aside0.mk hAll2
        have BW3 : Aside0 (Below w.heap.size w w3) := ⟨(((BX.out.trans (HB4.out.mono BX.out.size)).trans (BM.out.mono (BX.out.trans (HB4.out.mono BX.out.size)).size)).trans (B3.out.mono ((BX.out.trans (HB4.out.mono BX.out.size)).trans (BM.out.mono (BX.out.trans (HB4.out.mono BX.out.size)).size)).size))⟩
        have hw3 : w.heap.size < w3.heap.size := Nat.lt_of_lt_of_le hX.out.1 (Nat.le_trans BM.out.size B3.out.size)
        have hM3 : M < w3.heap.size := Nat.lt_of_lt_of_le hMl B3.out.size
        have yz1 : w3.cell? ⟨w.heap.size, 1, none⟩ = some (.slice Ar z.recs.length cr) := (B3.out.cell (p := ⟨w.heap.size, 1, none⟩) (Nat.lt_of_lt_of_le hX.out.1 BM.out.size)).trans ((BM.out.cell (p := ⟨w.heap.size, 1, none⟩) hX.out.1).trans Y4.out.2.1)
        have YZ := Aside0.mk yz1
        have AL : Aside0 (kR.Rd w3 (fun _ => True) (.slice A3 all.length k3) all) := ⟨(ho3.rd (ok' := fun _ => True) (fun _ _ => trivial) (fun _ _ => trivial))⟩
        have OAL := Aside0.mk ho3
        have hmx : z.recs.length ≤ 256 := zSound_few HS.out
        have hax : all.length ≤ 1024 := by rw [← hAll2, List.length_append, List.length_append]; have := FW.out; omega
        have LW := Aside0.mk (has_law HS.out HM.out)
        clear hs3 ho1 ho2 ho3 hb1 hg2 hg3 hst m3 m7 m9 m10 m11 n3 n7 hAll hAll2 hMid yz1
        go_wp2_with fail
        go_loopg [7] all.length (fun gg s7 wr => ∃ i : Nat, i ≤ all.length ∧ all.length - i ≤ gg ∧ s7 = .int .i64 i ∧ Aside0 (Below w3.heap.size w3 wr))
        case atStart => exact ⟨0, Nat.zero_le _, by omega, rfl, ⟨Below.refl _ _⟩⟩
        case round =>
          obtain ⟨i, hi, hg, rfl, BO⟩ := hrel
          obtain ⟨wo, rfl⟩ : ∃ wo : World, wo = wr := ⟨_, rfl⟩
          by_cases hil : i < all.length
          · have HIL := Aside0.mk hil
            have hw4 : w.heap.size < wo.heap.size := Nat.lt_of_lt_of_le hw3 BO.out.size
            have y1o := (BO.out.cell (p := ⟨w.heap.size, 1, none⟩) hw3).trans YZ.out
            have Y1O := Aside0.mk y1o
            have i0 : (0 : Int) ≤ (i : Int) := by omega
            have i1 : (i : Int) < (all.length : Int) := by omega
            clear y1o
            go_wp2_with fail
            go_loopg [8, 9] z.recs.length (fun gg s8 s9 wr => ∃ k : Nat, k ≤ z.recs.length ∧ z.recs.length - k ≤ gg ∧ s9 = .int .i64 k ∧ s8 = .int .i64 (((z.recs.take k).filter fun a => rrSame a all[i]).length : Nat) ∧ Aside0 (Below wo.heap.size wo wr))
            case atStart => exact ⟨0, Nat.zero_le _, by omega, rfl, rfl, ⟨Below.refl _ _⟩⟩
            case round =>
              obtain ⟨k, hk, hgk, rfl, rfl, BI⟩ := hrel
              have y1 := (BI.out.cell (p := ⟨w.heap.size, 1, none⟩) hw4).trans Y1O.out
              by_cases hlk : k < z.recs.length
              · have HLK := Aside0.mk hlk
                have BWi : Aside0 (Below w.heap.size w wr) := ⟨(BW3.out.trans (BO.out.mono BW3.out.size)).trans (BI.out.mono (BW3.out.trans (BO.out.mono BW3.out.size)).size)⟩
                obtain ⟨Ar2, cr2, he2, _, hrow2⟩ := HRR.out.below pR BWi.out
                obtain ⟨rfl, rfl⟩ : Ar = Ar2 ∧ cr = cr2 := by injection he2 with h1 _ h3; exact ⟨h1, h3⟩
                obtain ⟨ad, vw, d4, d5, d6, d7, d8, rfl, hKr, e0, e1, e2, e3, e4, e5, e6, e7, e8⟩ := cell_r hrow2 k hlk
                obtain ⟨As2, cs2, he3, _, hrow3⟩ := (AL.out.below pR BO.out).below pR BI.out
                obtain ⟨rfl, rfl⟩ : A3 = As2 ∧ k3 = cs2 := by injection he3 with h1 _ h3; exact ⟨h1, h3⟩
                obtain ⟨ae, vx', g4, g5, g6, g7, g8, rfl, hKs, a0, a1, a2, a3, a4, a5, a6, a7, a8⟩ := cell_r hrow3 i hil
                have HCN : Aside0 (((z.recs.take (k + 1)).filter fun a => rrSame a all[i]).length = ((z.recs.take k).filter fun a => rrSame a all[i]).length + if rrSame z.recs[k] all[i] = true then 1 else 0) := ⟨by
                  rw [List.take_succ_eq_append_getElem hlk, List.filter_append, List.length_append, List.filter_cons]
                  split <;> rfl⟩
                have hcn : ((z.recs.take k).filter fun a => rrSame a all[i]).length ≤ 256 := by
                  have h1 := List.length_filter_le (fun a => rrSame a all[i]) (z.recs.take k)
                  rw [List.length_take] at h1
                  omega
                generalize ((z.recs.take k).filter fun a => rrSame a all[i]).length = CN at HCN hcn
                generalize hyr : z.recs[k] = r at hKr e1 e2 e3 HCN
                generalize hys : all[i] = s at hKs a1 a2 a3 HCN
                obtain ⟨A0, k0, A4, k4, A5, k5, A6, k6, A7, k7, A8, k8, rfl, rfl, rfl, rfl, rfl, rfl⟩ := kR_form hKr
                obtain ⟨A0s, k0s, A4s, k4s, A5s, k5s, A6s, k6s, A7s, k7s, A8s, k8s, rfl, rfl, rfl, rfl, rfl, rfl⟩ := kR_form hKs
                have HKr := Aside0.mk hKr
                have HKs := Aside0.mk hKs
                have k0' : (0 : Int) ≤ (k : Int) := by omega
                have k1' : (k : Int) < (z.recs.length : Int) := by omega
                have hst2 : Below wr.heap.size wr wr.drew ∧ wr.drew.cell? ⟨w.heap.size, 1, none⟩ = some (.slice (some ad) z.recs.length cr) ∧ wr.drew.cell? (ad.add (k * 9)) = some (.slice A0 r.name.length k0) ∧ wr.drew.cell? ⟨(ad.add (k * 9)).block, (ad.add (k * 9)).off + 1, none⟩ = some (.int .i64 r.typ) ∧ wr.drew.cell? ⟨(ad.add (k * 9)).block, (ad.add (k * 9)).off + 2, none⟩ = some (.int .i64 r.cls) ∧ wr.drew.cell? ⟨(ad.add (k * 9)).block, (ad.add (k * 9)).off + 3, none⟩ = some (.int .i64 r.ttl) ∧ wr.drew.cell? ⟨(ad.add (k * 9)).block, (ad.add (k * 9)).off + 4, none⟩ = some (.slice A4 r.data.bytes.length k4) ∧ wr.drew.cell? ⟨(ad.add (k * 9)).block, (ad.add (k * 9)).off + 5, none⟩ = some (.slice A5 r.data.host.length k5) ∧ wr.drew.cell? ⟨(ad.add (k * 9)).block, (ad.add (k * 9)).off + 6, none⟩ = some (.slice A6 r.data.mail.length k6) ∧ wr.drew.cell? ⟨(ad.add (k * 9)).block, (ad.add (k * 9)).off + 7, none⟩ = some (.slice A7 r.data.nums.length k7) ∧ wr.drew.cell? ⟨(ad.add (k * 9)).block, (ad.add (k * 9)).off + 8, none⟩ = some (.slice A8 r.data.texts.length k8) ∧ wr.drew.cell? (ae.add (i * 9)) = some (.slice A0s s.name.length k0s) ∧ wr.drew.cell? ⟨(ae.add (i * 9)).block, (ae.add (i * 9)).off + 1, none⟩ = some (.int .i64 s.typ) ∧ wr.drew.cell? ⟨(ae.add (i * 9)).block, (ae.add (i * 9)).off + 2, none⟩ = some (.int .i64 s.cls) ∧ wr.drew.cell? ⟨(ae.add (i * 9)).block, (ae.add (i * 9)).off + 3, none⟩ = some (.int .i64 s.ttl) ∧ wr.drew.cell? ⟨(ae.add (i * 9)).block, (ae.add (i * 9)).off + 4, none⟩ = some (.slice A4s s.data.bytes.length k4s) ∧ wr.drew.cell? ⟨(ae.add (i * 9)).block, (ae.add (i * 9)).off + 5, none⟩ = some (.slice A5s s.data.host.length k5s) ∧ wr.drew.cell? ⟨(ae.add (i * 9)).block, (ae.add (i * 9)).off + 6, none⟩ = some (.slice A6s s.data.mail.length k6s) ∧ wr.drew.cell? ⟨(ae.add (i * 9)).block, (ae.add (i * 9)).off + 7, none⟩ = some (.slice A7s s.data.nums.length k7s) ∧ wr.drew.cell? ⟨(ae.add (i * 9)).block, (ae.add (i * 9)).off + 8, none⟩ = some (.slice A8s s.data.texts.length k8s) := ⟨(Below.refl _ _).drew, y1, e0, e1, e2, e3, e4, e5, e6, e7, e8, a0, a1, a2, a3, a4, a5, a6, a7, a8⟩
                have HYS := Aside0.mk hys
                clear hKr hKs hyr hys hrow2 hrow3 he2 he3
                cases p3 : rrSame r s with
                | true =>
                  have P3 := Aside0.mk p3
                  clear p3
                  go_upto_region 12 with (fail)
                  go_region_held3 (fun w' => Below wr.heap.size wr w' ∧ w'.cell? ⟨w.heap.size, 1, none⟩ = some (.slice (some ad) z.recs.length cr) ∧ w'.cell? (ad.add (k * 9)) = some (.slice A0 r.name.length k0) ∧ w'.cell? ⟨(ad.add (k * 9)).block, (ad.add (k * 9)).off + 1, none⟩ = some (.int .i64 r.typ) ∧ w'.cell? ⟨(ad.add (k * 9)).block, (ad.add (k * 9)).off + 2, none⟩ = some (.int .i64 r.cls) ∧ w'.cell? ⟨(ad.add (k * 9)).block, (ad.add (k * 9)).off + 3, none⟩ = some (.int .i64 r.ttl) ∧ w'.cell? ⟨(ad.add (k * 9)).block, (ad.add (k * 9)).off + 4, none⟩ = some (.slice A4 r.data.bytes.length k4) ∧ w'.cell? ⟨(ad.add (k * 9)).block, (ad.add (k * 9)).off + 5, none⟩ = some (.slice A5 r.data.host.length k5) ∧ w'.cell? ⟨(ad.add (k * 9)).block, (ad.add (k * 9)).off + 6, none⟩ = some (.slice A6 r.data.mail.length k6) ∧ w'.cell? ⟨(ad.add (k * 9)).block, (ad.add (k * 9)).off + 7, none⟩ = some (.slice A7 r.data.nums.length k7) ∧ w'.cell? ⟨(ad.add (k * 9)).block, (ad.add (k * 9)).off + 8, none⟩ = some (.slice A8 r.data.texts.length k8) ∧ w'.cell? (ae.add (i * 9)) = some (.slice A0s s.name.length k0s) ∧ w'.cell? ⟨(ae.add (i * 9)).block, (ae.add (i * 9)).off + 1, none⟩ = some (.int .i64 s.typ) ∧ w'.cell? ⟨(ae.add (i * 9)).block, (ae.add (i * 9)).off + 2, none⟩ = some (.int .i64 s.cls) ∧ w'.cell? ⟨(ae.add (i * 9)).block, (ae.add (i * 9)).off + 3, none⟩ = some (.int .i64 s.ttl) ∧ w'.cell? ⟨(ae.add (i * 9)).block, (ae.add (i * 9)).off + 4, none⟩ = some (.slice A4s s.data.bytes.length k4s) ∧ w'.cell? ⟨(ae.add (i * 9)).block, (ae.add (i * 9)).off + 5, none⟩ = some (.slice A5s s.data.host.length k5s) ∧ w'.cell? ⟨(ae.add (i * 9)).block, (ae.add (i * 9)).off + 6, none⟩ = some (.slice A6s s.data.mail.length k6s) ∧ w'.cell? ⟨(ae.add (i * 9)).block, (ae.add (i * 9)).off + 7, none⟩ = some (.slice A7s s.data.nums.length k7s) ∧ w'.cell? ⟨(ae.add (i * 9)).block, (ae.add (i * 9)).off + 8, none⟩ = some (.slice A8s s.data.texts.length k8s))
                    (first | (with_reducible exact keep19 hb5 (by assumption)) | go_keep)
                    ((go_at_call 17; refine (bv (samerr_calls r s _ _ _ (K_below HKr.out (And.left (by assumption))) (K_below HKs.out (And.left (by assumption)))) P3.out).mono ?_; rintro e w5 ⟨rfl, hb5⟩))
                  have hs5 : Below wr.heap.size wr w5 := And.left (by assumption)
                  have B5 := Aside0.mk hs5
                  clear hs5
                  go_wp2_with fail
                  go_roundg (z.recs.length - (k + 1))
                  case measure => have := HLK.out; omega
                  case rel => exact ⟨k + 1, by have := HLK.out; omega, by omega, by go_num, by rw [HYS.out, HCN.out, P3.out]; go_num, ⟨BI.out.trans (B5.out.mono BI.out.size)⟩⟩
                | false =>
                  have P3 := Aside0.mk p3
                  clear p3
                  go_upto_region 12 with (fail)
                  go_region_held3 (fun w' => Below wr.heap.size wr w' ∧ w'.cell? ⟨w.heap.size, 1, none⟩ = some (.slice (some ad) z.recs.length cr) ∧ w'.cell? (ad.add (k * 9)) = some (.slice A0 r.name.length k0) ∧ w'.cell? ⟨(ad.add (k * 9)).block, (ad.add (k * 9)).off + 1, none⟩ = some (.int .i64 r.typ) ∧ w'.cell? ⟨(ad.add (k * 9)).block, (ad.add (k * 9)).off + 2, none⟩ = some (.int .i64 r.cls) ∧ w'.cell? ⟨(ad.add (k * 9)).block, (ad.add (k * 9)).off + 3, none⟩ = some (.int .i64 r.ttl) ∧ w'.cell? ⟨(ad.add (k * 9)).block, (ad.add (k * 9)).off + 4, none⟩ = some (.slice A4 r.data.bytes.length k4) ∧ w'.cell? ⟨(ad.add (k * 9)).block, (ad.add (k * 9)).off + 5, none⟩ = some (.slice A5 r.data.host.length k5) ∧ w'.cell? ⟨(ad.add (k * 9)).block, (ad.add (k * 9)).off + 6, none⟩ = some (.slice A6 r.data.mail.length k6) ∧ w'.cell? ⟨(ad.add (k * 9)).block, (ad.add (k * 9)).off + 7, none⟩ = some (.slice A7 r.data.nums.length k7) ∧ w'.cell? ⟨(ad.add (k * 9)).block, (ad.add (k * 9)).off + 8, none⟩ = some (.slice A8 r.data.texts.length k8) ∧ w'.cell? (ae.add (i * 9)) = some (.slice A0s s.name.length k0s) ∧ w'.cell? ⟨(ae.add (i * 9)).block, (ae.add (i * 9)).off + 1, none⟩ = some (.int .i64 s.typ) ∧ w'.cell? ⟨(ae.add (i * 9)).block, (ae.add (i * 9)).off + 2, none⟩ = some (.int .i64 s.cls) ∧ w'.cell? ⟨(ae.add (i * 9)).block, (ae.add (i * 9)).off + 3, none⟩ = some (.int .i64 s.ttl) ∧ w'.cell? ⟨(ae.add (i * 9)).block, (ae.add (i * 9)).off + 4, none⟩ = some (.slice A4s s.data.bytes.length k4s) ∧ w'.cell? ⟨(ae.add (i * 9)).block, (ae.add (i * 9)).off + 5, none⟩ = some (.slice A5s s.data.host.length k5s) ∧ w'.cell? ⟨(ae.add (i * 9)).block, (ae.add (i * 9)).off + 6, none⟩ = some (.slice A6s s.data.mail.length k6s) ∧ w'.cell? ⟨(ae.add (i * 9)).block, (ae.add (i * 9)).off + 7, none⟩ = some (.slice A7s s.data.nums.length k7s) ∧ w'.cell? ⟨(ae.add (i * 9)).block, (ae.add (i * 9)).off + 8, none⟩ = some (.slice A8s s.data.texts.length k8s))
                    (first | (with_reducible exact keep19 hb5 (by assumption)) | go_keep)
                    ((go_at_call 17; refine (bv (samerr_calls r s _ _ _ (K_below HKr.out (And.left (by assumption))) (K_below HKs.out (And.left (by assumption)))) P3.out).mono ?_; rintro e w5 ⟨rfl, hb5⟩))
                  have hs5 : Below wr.heap.size wr w5 := And.left (by assumption)
                  have B5 := Aside0.mk hs5
                  clear hs5
                  go_wp2_with fail
                  go_roundg (z.recs.length - (k + 1))
                  case measure => have := HLK.out; omega
                  case rel => exact ⟨k + 1, by have := HLK.out; omega, by omega, by go_num, by rw [HYS.out, HCN.out, P3.out]; rfl, ⟨BI.out.trans (B5.out.mono BI.out.size)⟩⟩
              · have hkk : k = z.recs.length := by omega
                have HKK := Aside0.mk hkk
                have hone : ((z.recs.take k).filter fun a => rrSame a all[i]).length = 1 := by
                  rw [hkk, List.take_length]
                  refine LW.out.1 _ ?_
                  rw [HALL.out]
                  exact List.getElem_mem _
                clear hkk
                rw [hone]
                go_wp2_with fail
                go_roundg (all.length - (i + 1))
                case measure => have := HIL.out; omega
                case rel => exact ⟨i + 1, by have := HIL.out; omega, by omega, by go_num, ⟨BO.out.trans (BI.out.mono BO.out.size)⟩⟩
          · have hie : i = all.length := by omega
            have BF : Aside0 (Below w.heap.size w wo) := ⟨BW3.out.trans (BO.out.mono BW3.out.size)⟩
            have n3 := (BO.out.cell (p := ⟨M, 3, none⟩) hM3).trans N9.out.1
            have n7 := (BO.out.cell (p := ⟨M, 7, none⟩) hM3).trans N9.out.2.1
            have n9 := (BO.out.cell (p := ⟨M, 9, none⟩) hM3).trans N9.out.2.2.1
            have n10 := (BO.out.cell (p := ⟨M, 10, none⟩) hM3).trans N9.out.2.2.2
            by_cases h5 : m.rcode = 5
            · have f5 : (m.rcode == 5) = true := beq_iff_eq.mpr h5
              obtain ⟨g1, g2, g3, g4⟩ := LW.out.2.1 h5
              have e0 : all = [] := by rw [← HALL.out, g1, g2, g3]; rfl
              subst e0
              rw [g4] at n3
              have HIE := Aside0.mk hie
              clear h5 hie g1 g2 g3 g4
              go_wp2_with fail
              go_ret
              exact ⟨rfl, BF.out⟩
            · have f5 : (m.rcode == 5) = false := beq_eq_false_iff_ne.mpr h5
              have HIE := Aside0.mk hie
              rcases LW.out.2.2 h5 with g1 | ⟨g1, g2, g3⟩
              · rw [g1] at n3
                clear h5 g1 hie
                go_wp2_with fail
                go_ret
                exact ⟨rfl, BF.out⟩
              · cases haa : m.aa with
                | true =>
                  rw [haa] at n3
                  clear h5 g1 g2 g3 haa hie
                  go_wp2_with fail
                  go_ret
                  exact ⟨rfl, BF.out⟩
                | false =>
                  rw [haa] at n3
                  rw [g1] at n9
                  obtain ⟨Ab2, kb2, he2, _, hrow2⟩ := (HB1'.out _ B3.out).below pR BO.out
                  obtain ⟨rfl, rfl⟩ : Ab = Ab2 ∧ kb = kb2 := by injection he2 with h1 _ h3; exact ⟨h1, h3⟩
                  obtain ⟨ad, vw, d4, d5, d6, d7, d8, rfl, hKr, e0, e1, e2, e3, e4, e5, e6, e7, e8⟩ := cell_r hrow2 0 g2
                  have ht := g3 _ (List.getElem?_eq_getElem g2)
                  rw [ht] at e1
                  have hz0 : ad.add (0 * 9) = ad := by unfold Addr.add; simp
                  rw [hz0] at e1
                  clear h5 g1 g3 haa hie e0 e2 e3 e4 e5 e6 e7 e8 hKr ht hrow2 he2 hz0
                  go_wp2_with fail
                  go_ret
                  exact ⟨rfl, BF.out⟩
end Go.Proofs.Ytgacjbdnpnaglaa.Gz

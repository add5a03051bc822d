import Derived.Test.YtkbjbkmaokebgaaFo2
set_option linter.unusedVariables false
set_option linter.unusedSimpArgs false
namespace Go.Proofs.Ytkbjbkmaokebgaa.Gz
open Go.RowKit Go.Proofs.YtkbjbkmaokebgaaW.PrintWords
open Ki
/-- A slice of one question in a block that is known. -/
theorem rd_one {w : World} {ok : Nat → Prop} {L : Nat} {q : Qn} {c0 c1 c2 : Value} (hk : kQ.K w ok q [c0, c1, c2]) (hL : ok L) (h0 : w.cell? ⟨L, 0, none⟩ = some c0) (h1 : w.cell? ⟨L, 1, none⟩ = some c1) (h2 : w.cell? ⟨L, 2, none⟩ = some c2) (hf : ∀ o, w.frozen? ⟨L, o, none⟩ = false) :
    kQ.Rd w ok (.slice (some ⟨L, 0, none⟩) 1 1) [q] := by
  have hr : Reps (kQ.K w ok) kQ.sz [q] [c0, c1, c2] := by
    have := (Reps.none (kQ.K w ok) kQ.sz).snoc hk (kQ.len hk)
    simpa using this
  refine ⟨some ⟨L, 0, none⟩, 1, rfl, Nat.le_refl _, ⟨by simp, by show 1 * 40 ≤ B47; unfold B47; omega⟩, fun _ => ⟨_, _, rfl, hL, hr, fun j u hu => ?_⟩⟩
  rw [Addr.add_mid, Nat.zero_add]
  refine ⟨?_, hf j⟩
  match j, hu with
  | 0, hu => exact h0.trans hu
  | 1, hu => exact h1.trans hu
  | 2, hu => exact h2.trans hu
  | n + 3, hu => simp at hu
/-- The message as the law has bent it: no response to the question. -/
def Bent (q : Qn) (M n : Nat) (W w' : World) : Prop := ∃ (m' : Msg) (c : List Value), But n M W w' ∧ w'.rangeAt M 0 c ∧ kM.K w' (fun _ => True) m' c ∧ ¬ AskOk q m'
theorem nEq_len {a b : List ByteArray} (h : nEq a b = true) : a.length = b.length := map_len ((nEq_iff _ _).1 h)
/-- "another" -/
def ANO : ByteArray := { data := #[97, 110, 111, 116, 104, 101, 114] }
theorem ano_sz : Sz ANO := by unfold Sz ANO B47; decide
theorem own_box' {α : Type} {d : Ki α} {e : Nat} {w : World} {ok : Nat → Prop} {p : α} {cs : List Value} (h : d.K w ok p cs) (hB : d.bytes ≤ B47) :
    d.Own e (w.alloc (.cells cs.toArray e)) w.heap.size ok (.slice (some ⟨w.heap.size, 0, none⟩) 1 1) [p] := by
  have hr1 : Reps (d.K w ok) d.sz [p] cs := by
    have := (Reps.none (d.K w ok) d.sz).snoc h (d.len h)
    simpa using this
  exact Own.lit (d := d) (e := e) (base := w.heap.size) (ok := ok) (xs := [p]) w hr1 (Nat.le_refl _) (by simp) (by simpa using hB)
theorem r64_num (x : Int) (h : -9223372036854775808 ≤ x ∧ x ≤ 9223372036854775807) : R64 x := h
set_option maxHeartbeats 16000000 in
set_option maxRecDepth 100000 in
theorem factothers_calls (q : Qn) (cqs : List Value) (m : Msg) (cm : List Value) (vz : Value) (zn : List ByteArray) (wh : Int) (w : World) (hq : kQ.K w (fun _ => True) q cqs) (hm : kM.K w (fun _ => True) m cm) (hz : kS.Rd w (fun _ => True) vz zn) (hwh : 0 ≤ wh ∧ wh ≤ 255)
    (hB : (m.ans.length + m.auth.length + m.extra.length) * kR.bytes ≤ B47) :
    Calls Try.prog 9 #[.agg cqs.toArray, .agg cm.toArray, vz, .int .u8 wh] w fun e w' => e = .returned (.bool true) ∧ Below w.heap.size w w' := by
  have hm0 := hm
  obtain ⟨A8, k8, A9, k9, A10, k10, A11, k11, rfl, r8, r9, r10, r11⟩ := kM_form hm
  obtain ⟨_, _, _, _, heq0, hid, hop, hrc, _, _, _, _, hsz⟩ := hm0
  have RA := Aside0.mk (r9.low pR)
  have RB := Aside0.mk (r10.low pR)
  have RE := Aside0.mk (r11.low pR)
  have R6 := Aside0.mk (And.intro hid (And.intro hop (And.intro hrc hsz)))
  have HM := Aside0.mk hm
  obtain ⟨vq, rfl, hqn, hqt, hqc⟩ := hq
  have HQN := Aside0.mk hqn
  have HQR := Aside0.mk (And.intro hqt hqc)
  have HZ := Aside0.mk hz
  have HZR := Aside0.mk hz.room
  have HQQ : Aside0 (kQ.K w (fun _ => True) q [vq, .int .i64 q.typ, .int .i64 q.cls]) := ⟨⟨_, rfl, hqn, hqt, hqc⟩⟩
  obtain ⟨Aq, cq, rfl, _, _⟩ := hqn
  obtain ⟨Az, cz, rfl, _, _⟩ := hz
  have HBB := Aside0.mk hB
  clear heq0 hm r8 r9 r10 r11 hid hop hrc hsz hB hqt hqc
  generalize hW0 : (w.alloc (.cells #[.slice Aq q.name.length cq, .int .i64 q.typ, .int .i64 q.cls] 27)).alloc (.cells #[.int .i64 m.id, .bool m.resp, .int .i64 m.opc, .bool m.aa, .bool m.tc, .bool m.rd, .bool m.ra, .int .i64 m.rcode, .slice A8 m.qs.length k8, .slice A9 m.ans.length k9, .slice A10 m.auth.length k10, .slice A11 m.extra.length k11, .bool m.edns, .int .i64 m.size] 35) = W0
  have HW0 := Aside0.mk hW0
  have BX : Aside0 (Below w.heap.size w W0) := ⟨by rw [← hW0]; exact below_alloc (below_alloc (Below.refl _ _) _) _⟩
  have hs0 : W0.heap.size = w.heap.size + 2 := by rw [← hW0]; simp
  have q0 : W0.cell? ⟨w.heap.size, 0, none⟩ = some (.slice Aq q.name.length cq) := by rw [← hW0, cellA (by simp), cellN rfl]; rfl
  have q1 : W0.cell? ⟨w.heap.size, 1, none⟩ = some (.int .i64 q.typ) := by rw [← hW0, cellA (by simp), cellN rfl]; rfl
  have q2 : W0.cell? ⟨w.heap.size, 2, none⟩ = some (.int .i64 q.cls) := by rw [← hW0, cellA (by simp), cellN rfl]; rfl
  have u0 : W0.cell? ⟨w.heap.size + 1, 0, none⟩ = some (.int .i64 m.id) := by rw [← hW0, cellN (by simp)]; rfl
  have u1 : W0.cell? ⟨w.heap.size + 1, 1, none⟩ = some (.bool m.resp) := by rw [← hW0, cellN (by simp)]; rfl
  have u2 : W0.cell? ⟨w.heap.size + 1, 2, none⟩ = some (.int .i64 m.opc) := by rw [← hW0, cellN (by simp)]; rfl
  have u3 : W0.cell? ⟨w.heap.size + 1, 3, none⟩ = some (.bool m.aa) := by rw [← hW0, cellN (by simp)]; rfl
  have u4 : W0.cell? ⟨w.heap.size + 1, 4, none⟩ = some (.bool m.tc) := by rw [← hW0, cellN (by simp)]; rfl
  have u5 : W0.cell? ⟨w.heap.size + 1, 5, none⟩ = some (.bool m.rd) := by rw [← hW0, cellN (by simp)]; rfl
  have u6 : W0.cell? ⟨w.heap.size + 1, 6, none⟩ = some (.bool m.ra) := by rw [← hW0, cellN (by simp)]; rfl
  have u7 : W0.cell? ⟨w.heap.size + 1, 7, none⟩ = some (.int .i64 m.rcode) := by rw [← hW0, cellN (by simp)]; rfl
  have u8 : W0.cell? ⟨w.heap.size + 1, 8, none⟩ = some (.slice A8 m.qs.length k8) := by rw [← hW0, cellN (by simp)]; rfl
  have u9 : W0.cell? ⟨w.heap.size + 1, 9, none⟩ = some (.slice A9 m.ans.length k9) := by rw [← hW0, cellN (by simp)]; rfl
  have u10 : W0.cell? ⟨w.heap.size + 1, 10, none⟩ = some (.slice A10 m.auth.length k10) := by rw [← hW0, cellN (by simp)]; rfl
  have u11 : W0.cell? ⟨w.heap.size + 1, 11, none⟩ = some (.slice A11 m.extra.length k11) := by rw [← hW0, cellN (by simp)]; rfl
  have u12 : W0.cell? ⟨w.heap.size + 1, 12, none⟩ = some (.bool m.edns) := by rw [← hW0, cellN (by simp)]; rfl
  have u13 : W0.cell? ⟨w.heap.size + 1, 13, none⟩ = some (.int .i64 m.size) := by rw [← hW0, cellN (by simp)]; rfl
  have MR0 : Aside0 (W0.rangeAt (w.heap.size + 1) 0 [.int .i64 m.id, .bool m.resp, .int .i64 m.opc, .bool m.aa, .bool m.tc, .bool m.rd, .bool m.ra, .int .i64 m.rcode, .slice A8 m.qs.length k8, .slice A9 m.ans.length k9, .slice A10 m.auth.length k10, .slice A11 m.extra.length k11, .bool m.edns, .int .i64 m.size]) := ⟨fun j v hv => by rw [Nat.zero_add, ← hW0, cellN (by simp)]; simpa using hv⟩
  have MF0 : Aside0 (∀ o, W0.frozen? ⟨w.heap.size + 1, o, none⟩ = false) := ⟨fun o => by rw [← hW0, frozenN (by simp)]⟩
  have HS0 := Aside0.mk hs0
  have hl0 : w.heap.size < W0.heap.size := by omega
  have hl1 : w.heap.size + 1 < W0.heap.size := by omega
  have Q0 := Aside0.mk (And.intro q0 (And.intro q1 q2))
  clear hW0 hs0
  go_enter Try.func9, Try.ntmps9
  go_wp2_with fail
  rw [HW0.out]
  refine (answers13_calls W0).mono ?_
  rintro e w1 ⟨rfl, hb1⟩
  have HB1 := Aside0.mk hb1
  have x0 := (hb1.cell (p := ⟨w.heap.size + 1, 0, none⟩) hl1).trans u0
  have x1 := (hb1.cell (p := ⟨w.heap.size + 1, 1, none⟩) hl1).trans u1
  have x2 := (hb1.cell (p := ⟨w.heap.size + 1, 2, none⟩) hl1).trans u2
  have x3 := (hb1.cell (p := ⟨w.heap.size + 1, 3, none⟩) hl1).trans u3
  have x4 := (hb1.cell (p := ⟨w.heap.size + 1, 4, none⟩) hl1).trans u4
  have x5 := (hb1.cell (p := ⟨w.heap.size + 1, 5, none⟩) hl1).trans u5
  have x6 := (hb1.cell (p := ⟨w.heap.size + 1, 6, none⟩) hl1).trans u6
  have x7 := (hb1.cell (p := ⟨w.heap.size + 1, 7, none⟩) hl1).trans u7
  have x8 := (hb1.cell (p := ⟨w.heap.size + 1, 8, none⟩) hl1).trans u8
  have x9 := (hb1.cell (p := ⟨w.heap.size + 1, 9, none⟩) hl1).trans u9
  have x10 := (hb1.cell (p := ⟨w.heap.size + 1, 10, none⟩) hl1).trans u10
  have x11 := (hb1.cell (p := ⟨w.heap.size + 1, 11, none⟩) hl1).trans u11
  have x12 := (hb1.cell (p := ⟨w.heap.size + 1, 12, none⟩) hl1).trans u12
  have x13 := (hb1.cell (p := ⟨w.heap.size + 1, 13, none⟩) hl1).trans u13
  have p0 := (hb1.cell (p := ⟨w.heap.size, 0, none⟩) hl0).trans q0
  clear hb1 u0 u1 u2 u3 u4 u5 u6 u7 u8 u9 u10 u11 u12 u13 q0 q1 q2
  go_wp2_with fail
  refine (lightmsg_calls m _ w1 (K_below HM.out (BX.out.trans (HB1.out.mono BX.out.size))) HBB.out).mono ?_
  rintro e w2 ⟨b2, rfl, hb2⟩
  have HB2 : Aside0 (Below W0.heap.size W0 w2) := ⟨HB1.out.trans (hb2.mono HB1.out.size)⟩
  clear hb2 p0 x0 x1 x2 x3 x4 x5 x6 x7 x8 x9 x10 x11 x12 x13
  have p0 := (HB2.out.cell (p := ⟨w.heap.size, 0, none⟩) hl0).trans Q0.out.1
  cases b2 with
  | false =>
    go_wp2_with fail
    refine (answers13_calls _).mono ?_
    rintro e wf ⟨rfl, hbf⟩
    have HBF := Aside0.mk ((BX.out.trans (HB2.out.mono BX.out.size)).trans (hbf.mono (BX.out.trans (HB2.out.mono BX.out.size)).size))
    clear hbf
    go_wp2_with fail
    go_ret
    exact ⟨rfl, HBF.out⟩
  | true =>
    by_cases n1 : 200 < zn.length
    · skip
      go_wp2_with fail
      refine (answers13_calls _).mono ?_
      rintro e wf ⟨rfl, hbf⟩
      have HBF := Aside0.mk ((BX.out.trans (HB2.out.mono BX.out.size)).trans (hbf.mono (BX.out.trans (HB2.out.mono BX.out.size)).size))
      clear hbf
      go_wp2_with fail
      go_ret
      exact ⟨rfl, HBF.out⟩
    by_cases n2 : 200 < q.name.length
    · skip
      go_wp2_with fail
      refine (answers13_calls _).mono ?_
      rintro e wf ⟨rfl, hbf⟩
      have HBF := Aside0.mk ((BX.out.trans (HB2.out.mono BX.out.size)).trans (hbf.mono (BX.out.trans (HB2.out.mono BX.out.size)).size))
      clear hbf
      go_wp2_with fail
      go_ret
      exact ⟨rfl, HBF.out⟩
    have HBQ : Aside0 ((q.name.length + 1) * kS.bytes ≤ B47) := ⟨by
      have e : kS.bytes = 16 := rfl
      rw [e]
      unfold B47
      omega⟩
    have MR2 := Aside0.mk (range_below HB2.out hl1 MR0.out)
    have MF2 : Aside0 (∀ o, w2.frozen? ⟨w.heap.size + 1, o, none⟩ = false) := ⟨fun o => (HB2.out.frozen (p := ⟨w.heap.size + 1, o, none⟩) hl1).trans (MF0.out o)⟩
    have p1 := (HB2.out.cell (p := ⟨w.heap.size, 1, none⟩) hl0).trans Q0.out.2.1
    have p2 := (HB2.out.cell (p := ⟨w.heap.size, 2, none⟩) hl0).trans Q0.out.2.2
    have P2 := Aside0.mk (And.intro p0 (And.intro p1 p2))
    have BW2 : Aside0 (Below w.heap.size w w2) := ⟨BX.out.trans (HB2.out.mono BX.out.size)⟩
    have hx0 : w.heap.size < w2.heap.size := Nat.lt_of_lt_of_le hl0 HB2.out.size
    have hx1 : w.heap.size + 1 < w2.heap.size := Nat.lt_of_lt_of_le hl1 HB2.out.size
    have m1 := range_at MR2.out 1 _ rfl
    have m2 := range_at MR2.out 2 _ rfl
    have m7 := range_at MR2.out 7 _ rfl
    have m8 := range_at MR2.out 8 _ rfl
    have f1 := MF2.out 1
    have f2 := MF2.out 2
    have f7 := MF2.out 7
    have f8 := MF2.out 8
    go_upto_region 5 with (fail)
    rename_i KK hKK K0 hK0
    have HKK := Aside0.mk hKK
    clear hKK
    have HK : Aside0 (∀ {u0 u1 u3 u6 u7 u8 u9 u10 u11 u12 u13 u14 u15 u16 u17 u18 u19 u20 u21 u22 u23 u24 u25 u26 u27 u28 u29 u30 u31 u32 u33 u34 u35 u36 u37 u38 u39 u40 u41 u42 u43 u44 u45 u46 u47 u48 u49 u50 u51 u52 u53 u54 u55 u56 u57 u58 u59 u60 u61 u62 u63 u64 u65 u66 u67 u68 u69 u70 u71 u72 u73 u74 u75 u76 u77 u78 u79 u80 u81 u82 u83 u84 u85 : Value} {wx : World}, Bent q (w.heap.size + 1) w2.heap.size w2 wx → KK ⟨(u0 :: u1 :: .slice Az zn.length cz :: u3 :: .pointer (some ⟨w.heap.size, 0, none⟩) :: .pointer (some ⟨w.heap.size + 1, 0, none⟩) :: u6 :: u7 :: u8 :: u9 :: u10 :: u11 :: u12 :: u13 :: u14 :: u15 :: u16 :: u17 :: u18 :: u19 :: u20 :: u21 :: u22 :: u23 :: u24 :: u25 :: u26 :: u27 :: u28 :: u29 :: u30 :: u31 :: u32 :: u33 :: u34 :: u35 :: u36 :: u37 :: u38 :: u39 :: u40 :: u41 :: u42 :: u43 :: u44 :: u45 :: u46 :: u47 :: u48 :: u49 :: u50 :: u51 :: u52 :: u53 :: u54 :: u55 :: u56 :: u57 :: u58 :: u59 :: u60 :: u61 :: u62 :: u63 :: u64 :: u65 :: u66 :: u67 :: u68 :: u69 :: u70 :: u71 :: u72 :: u73 :: u74 :: u75 :: u76 :: u77 :: u78 :: u79 :: u80 :: u81 :: u82 :: u83 :: u84 :: u85 :: []).toArray, []⟩ wx) := ⟨by
      intro u0 u1 u3 u6 u7 u8 u9 u10 u11 u12 u13 u14 u15 u16 u17 u18 u19 u20 u21 u22 u23 u24 u25 u26 u27 u28 u29 u30 u31 u32 u33 u34 u35 u36 u37 u38 u39 u40 u41 u42 u43 u44 u45 u46 u47 u48 u49 u50 u51 u52 u53 u54 u55 u56 u57 u58 u59 u60 u61 u62 u63 u64 u65 u66 u67 u68 u69 u70 u71 u72 u73 u74 u75 u76 u77 u78 u79 u80 u81 u82 u83 u84 u85 wx hbent
      obtain ⟨m', c', hbut, hrg, hkm, hna⟩ := hbent
      obtain ⟨B8, j8, B9, j9, B10, j10, B11, j11, rfl, _⟩ := kM_form hkm
      have HBUT := Aside0.mk hbut
      have HKM := Aside0.mk hkm
      have HNA := Aside0.mk hna
      have BWX : Aside0 (Below w.heap.size w wx) := ⟨BW2.out.trans (HBUT.out.below (Nat.le_succ _) (Nat.le_of_lt hx0))⟩
      have hA : w.heap.size < wx.heap.size := Nat.lt_of_lt_of_le hx0 hbut.size
      have hMx : w.heap.size + 1 < wx.heap.size := Nat.lt_of_lt_of_le hx1 hbut.size
      have qq0 := (hbut.cell (b := w.heap.size) (o := 0) hx0 (by omega)).trans P2.out.1
      have qq1 := (hbut.cell (b := w.heap.size) (o := 1) hx0 (by omega)).trans P2.out.2.1
      have qq2 := (hbut.cell (b := w.heap.size) (o := 2) hx0 (by omega)).trans P2.out.2.2
      have QQ := Aside0.mk (And.intro qq0 (And.intro qq1 qq2))
      have HRG := Aside0.mk hrg
      have HZX := Aside0.mk ((HZ.out.low pS).below pS BWX.out)
      clear hbut hkm hna qq0 qq1 qq2 hrg
      refine HKK.out _ _ ?_
      go_upto_region 19 with (fail)
      clear HKK P2 m1 m2 m7 m8 f1 f2 f7 f8 p0 p1 p2
      refine wp_region_held_drew (S := fun w' => Below wx.heap.size wx w') (by kernel_rfl) ((Below.refl _ _).drew) (fun hHeld => ?_)
      refine wpAnyH_take (i := 0) (v := ?_) rfl (by kernel_rfl) (by kernel_rfl) (by kernel_rfl) (fun _ _ _ h => h) (Or.inl ⟨by rfl, ?_⟩) (by assumption) ?_
      rotate_left
      · intro wy hSw
        (try dsimp only at hSw)
        have hSw' : Below wx.heap.size wx _ := hSw
        have c0 := (hSw'.cell (p := ⟨w.heap.size, 0, none⟩) hA).trans QQ.out.1
        have c1 := (hSw'.cell (p := ⟨w.heap.size, 1, none⟩) hA).trans QQ.out.2.1
        have c2 := (hSw'.cell (p := ⟨w.heap.size, 2, none⟩) hA).trans QQ.out.2.2
        (try simp only [List.getElem_toArray, List.getElem_cons_succ, List.getElem_cons_zero])
        go_simp
        (try with_reducible rfl)
      (try simp only [List.getElem_toArray, List.getElem_cons_succ, List.getElem_cons_zero, Act.put, List.setIfInBounds_toArray, List.set_cons_zero, List.set_cons_succ])
      refine wpAnyH_take (i := 1) (v := ?_) rfl (by kernel_rfl) (by kernel_rfl) (by kernel_rfl) (fun _ _ _ h => h) (Or.inl ⟨by rfl, ?_⟩) (by assumption) ?_
      rotate_left
      · intro wy hSw
        (try dsimp only at hSw)
        have hSw' : Below wx.heap.size wx _ := hSw
        have c0 := (hSw'.cell (p := ⟨w.heap.size + 1, 0, none⟩) hMx).trans (range_at HRG.out 0 _ rfl)
        have c1 := (hSw'.cell (p := ⟨w.heap.size + 1, 1, none⟩) hMx).trans (range_at HRG.out 1 _ rfl)
        have c2 := (hSw'.cell (p := ⟨w.heap.size + 1, 2, none⟩) hMx).trans (range_at HRG.out 2 _ rfl)
        have c3 := (hSw'.cell (p := ⟨w.heap.size + 1, 3, none⟩) hMx).trans (range_at HRG.out 3 _ rfl)
        have c4 := (hSw'.cell (p := ⟨w.heap.size + 1, 4, none⟩) hMx).trans (range_at HRG.out 4 _ rfl)
        have c5 := (hSw'.cell (p := ⟨w.heap.size + 1, 5, none⟩) hMx).trans (range_at HRG.out 5 _ rfl)
        have c6 := (hSw'.cell (p := ⟨w.heap.size + 1, 6, none⟩) hMx).trans (range_at HRG.out 6 _ rfl)
        have c7 := (hSw'.cell (p := ⟨w.heap.size + 1, 7, none⟩) hMx).trans (range_at HRG.out 7 _ rfl)
        have c8 := (hSw'.cell (p := ⟨w.heap.size + 1, 8, none⟩) hMx).trans (range_at HRG.out 8 _ rfl)
        have c9 := (hSw'.cell (p := ⟨w.heap.size + 1, 9, none⟩) hMx).trans (range_at HRG.out 9 _ rfl)
        have c10 := (hSw'.cell (p := ⟨w.heap.size + 1, 10, none⟩) hMx).trans (range_at HRG.out 10 _ rfl)
        have c11 := (hSw'.cell (p := ⟨w.heap.size + 1, 11, none⟩) hMx).trans (range_at HRG.out 11 _ rfl)
        have c12 := (hSw'.cell (p := ⟨w.heap.size + 1, 12, none⟩) hMx).trans (range_at HRG.out 12 _ rfl)
        have c13 := (hSw'.cell (p := ⟨w.heap.size + 1, 13, none⟩) hMx).trans (range_at HRG.out 13 _ rfl)
        (try simp only [List.getElem_toArray, List.getElem_cons_succ, List.getElem_cons_zero])
        go_simp
        (try with_reducible rfl)
      (try simp only [List.getElem_toArray, List.getElem_cons_succ, List.getElem_cons_zero, Act.put, List.setIfInBounds_toArray, List.set_cons_zero, List.set_cons_succ])
      refine wpAnyH_take (i := 4) (v := ?_) rfl (by kernel_rfl) (by kernel_rfl) (by kernel_rfl) (fun _ _ _ h => h) (Or.inl ⟨by rfl, ?_⟩) (by assumption) ?_
      rotate_left
      · intro wy hSw
        (try dsimp only at hSw)
        (try simp only [List.getElem_toArray, List.getElem_cons_succ, List.getElem_cons_zero])
        go_simp
        (try with_reducible rfl)
      (try simp only [List.getElem_toArray, List.getElem_cons_succ, List.getElem_cons_zero, Act.put, List.setIfInBounds_toArray, List.set_cons_zero, List.set_cons_succ])
      refine wpAnyH_ready (rs := [2, 3]) (by kernel_rfl) (by simp) ?_
      refine AllReadyH.cons rfl (fun K hK => ?_) ?_
      · skip
        (try simp only [List.getElem_toArray, List.getElem_cons_succ, List.getElem_cons_zero, Act.put, List.setIfInBounds_toArray, List.set_cons_zero, List.set_cons_succ])
        go_simp
        go_at_call 31
        refine (ownm_calls m' _ _ (K_below HKM.out (Below.refl wx.heap.size wx).drew)).mono ?_
        rintro e w5 ⟨cs5, rfl, hk5, hb5⟩
        have BO : Aside0 (Below wx.heap.size wx w5) := ⟨((Below.refl wx.heap.size wx).drew).trans (hb5.mono ((Below.refl wx.heap.size wx).drew).size)⟩
        (try go_wp2_with fail)
        refine hK.out _ _ ?_ (fun hHeld5 => ?_)
        · exact BO.out
        clear hK K
        (try simp only [List.getElem_toArray, List.getElem_cons_succ, List.getElem_cons_zero, Act.put, List.setIfInBounds_toArray, List.set_cons_zero, List.set_cons_succ])
        refine wpAnyH_ready (rs := [3]) (by kernel_rfl) (by simp) ?_
        refine AllReadyH.cons rfl (fun K hK => ?_) AllReadyH.nil
        have BB : Aside0 (Below wx.heap.size wx ((w5).alloc (.cells #[] 9))) := ⟨below_alloc (BO.out) _⟩
        have BS : Aside0 (Below (w5).heap.size (w5) ((w5).alloc (.cells #[] 9))) := ⟨below_alloc (Below.refl _ _) _⟩
        have OL : Aside0 (kS.Own 9 ((w5).alloc (.cells #[] 9)) (w5).heap.size (fun _ => True) (.slice (some ⟨(w5).heap.size, 0, none⟩) 0 0) []) := ⟨Own.lit0 kS 9 (w5) (w5).heap.size (fun _ => True) (Nat.le_refl _)⟩
        (try simp only [List.getElem_toArray, List.getElem_cons_succ, List.getElem_cons_zero, Act.put, List.setIfInBounds_toArray, List.set_cons_zero, List.set_cons_succ])
        go_simp
        refine hK.out _ _ ?_ (fun hHeld6 => ?_)
        · exact BB.out
        clear hK K
        (try simp only [List.getElem_toArray, List.getElem_cons_succ, List.getElem_cons_zero, Act.put, List.setIfInBounds_toArray, List.set_cons_zero, List.set_cons_succ])
        refine wpAnyH_ready (rs := [5]) (by kernel_rfl) (by simp) ?_
        refine AllReadyH.cons rfl (fun K hK => ?_) AllReadyH.nil
        have SZ : Aside0 (w5.heap.size ≤ (w5.alloc (.cells #[] 9)).heap.size) := ⟨BS.out.size⟩
        refine step_append_zero kS (w5).heap.size ?_ (.tmp 80) (.tmp 81) 22 9 (.string ⟨#[]⟩) ?_ ?_ ?_ ?_ ?_ ?_ (some ⟨(w5).heap.size, 0, none⟩) (.slice Az zn.length cz) zn (fun _ => True) ?_ ?_ ?_ ?_ ?_ ?_ ?_
        · rfl
        · rfl
        · exact Try.underlying22
        · exact info_s
        · rfl
        · decide
        · decide
        · rfl
        · rfl
        · exact OL.out
        · exact (HZX.out.any.below pS (BB.out))
        · exact (SZ.out)
        · exact HZR.out
        intro v7 w7 ho7 hb7
        obtain ⟨C7, c7, rfl, _⟩ := ho7.slice_
        have BP : Aside0 (Below wx.heap.size wx w7) := ⟨(BB.out).trans (hb7.mono (BB.out).size)⟩
        refine hK.out _ _ ?_ (fun hHeld7 => ?_)
        · exact BP.out
        clear hK K
        (try simp only [List.getElem_toArray, List.getElem_cons_succ, List.getElem_cons_zero, Act.put, List.setIfInBounds_toArray, List.set_cons_zero, List.set_cons_succ])
        refine wpAnyH_ready (rs := [6]) (by kernel_rfl) (by simp) ?_
        refine AllReadyH.cons rfl (fun K hK => ?_) AllReadyH.nil
        (try simp only [List.getElem_toArray, List.getElem_cons_succ, List.getElem_cons_zero, Act.put, List.setIfInBounds_toArray, List.set_cons_zero, List.set_cons_succ])
        go_simp
        go_at_call 30
        refine (from_none q [.slice Aq q.name.length cq, .int .i64 q.typ, .int .i64 q.cls] m' cs5 _ zn 5 _ (K_below HQQ.out (BWX.out.trans ((BP.out).mono BWX.out.size))) (kM.mono (fun _ _ => trivial) (K_below (K_below hk5 BS.out) hb7)) (ho7.rd (fun _ _ => trivial) (fun _ _ => trivial)) HNA.out).mono ?_
        rintro e w8 ⟨rfl, hb8⟩
        have BF : Aside0 (Below wx.heap.size wx w8) := ⟨(BP.out).trans (hb8.mono (BP.out).size)⟩
        (try go_wp2_with fail)
        refine hK.out _ _ ?_ (fun hHeld8 => ?_)
        · exact BF.out
        clear hK K
        (try simp only [List.getElem_toArray, List.getElem_cons_succ, List.getElem_cons_zero, Act.put, List.setIfInBounds_toArray, List.set_cons_zero, List.set_cons_succ])
        refine wpAnyH_take (i := 7) (v := ?_) rfl (by kernel_rfl) (by kernel_rfl) (by kernel_rfl) (fun _ _ _ h => h) (Or.inl ⟨by rfl, ?_⟩) (by assumption) ?_
        rotate_left
        · intro wy hSw
          (try dsimp only at hSw)
          (try simp only [List.getElem_toArray, List.getElem_cons_succ, List.getElem_cons_zero])
          go_simp
          (try with_reducible rfl)
        (try simp only [List.getElem_toArray, List.getElem_cons_succ, List.getElem_cons_zero, Act.put, List.setIfInBounds_toArray, List.set_cons_zero, List.set_cons_succ])
        refine wpAnyH_take (i := 8) (v := ?_) rfl (by kernel_rfl) (by kernel_rfl) (by kernel_rfl) (fun _ _ _ h => h) (Or.inl ⟨by rfl, ?_⟩) (by assumption) ?_
        rotate_left
        · intro wy hSw
          (try dsimp only at hSw)
          (try simp only [List.getElem_toArray, List.getElem_cons_succ, List.getElem_cons_zero])
          go_simp
          (try with_reducible rfl)
        (try simp only [List.getElem_toArray, List.getElem_cons_succ, List.getElem_cons_zero, Act.put, List.setIfInBounds_toArray, List.set_cons_zero, List.set_cons_succ])
        refine wpAnyH_take (i := 9) (v := ?_) rfl (by kernel_rfl) (by kernel_rfl) (by kernel_rfl) (fun _ _ _ h => h) (Or.inl ⟨by rfl, ?_⟩) (by assumption) ?_
        rotate_left
        · intro wy hSw
          (try dsimp only at hSw)
          (try simp only [List.getElem_toArray, List.getElem_cons_succ, List.getElem_cons_zero])
          go_simp
          (try with_reducible rfl)
        (try simp only [List.getElem_toArray, List.getElem_cons_succ, List.getElem_cons_zero, Act.put, List.setIfInBounds_toArray, List.set_cons_zero, List.set_cons_succ])
        refine wpAnyH_done (by kernel_rfl) ?_ _
        go_wp2_with fail
        go_ret
        exact ⟨rfl, BWX.out.trans (BF.out.mono BWX.out.size)⟩
      refine AllReadyH.cons rfl (fun K hK => ?_) AllReadyH.nil
      · skip
        have BB : Aside0 (Below wx.heap.size wx ((wx.drew).alloc (.cells #[] 9))) := ⟨below_alloc ((Below.refl wx.heap.size wx).drew) _⟩
        have BS : Aside0 (Below (wx.drew).heap.size (wx.drew) ((wx.drew).alloc (.cells #[] 9))) := ⟨below_alloc (Below.refl _ _) _⟩
        have OL : Aside0 (kS.Own 9 ((wx.drew).alloc (.cells #[] 9)) (wx.drew).heap.size (fun _ => True) (.slice (some ⟨(wx.drew).heap.size, 0, none⟩) 0 0) []) := ⟨Own.lit0 kS 9 (wx.drew) (wx.drew).heap.size (fun _ => True) (Nat.le_refl _)⟩
        (try simp only [List.getElem_toArray, List.getElem_cons_succ, List.getElem_cons_zero, Act.put, List.setIfInBounds_toArray, List.set_cons_zero, List.set_cons_succ])
        go_simp
        refine hK.out _ _ ?_ (fun hHeld6 => ?_)
        · exact BB.out
        clear hK K
        (try simp only [List.getElem_toArray, List.getElem_cons_succ, List.getElem_cons_zero, Act.put, List.setIfInBounds_toArray, List.set_cons_zero, List.set_cons_succ])
        refine wpAnyH_ready (rs := [2]) (by kernel_rfl) (by simp) ?_
        refine AllReadyH.cons rfl (fun K hK => ?_) AllReadyH.nil
        (try simp only [List.getElem_toArray, List.getElem_cons_succ, List.getElem_cons_zero, Act.put, List.setIfInBounds_toArray, List.set_cons_zero, List.set_cons_succ])
        go_simp
        go_at_call 31
        refine (ownm_calls m' _ _ (K_below HKM.out BB.out)).mono ?_
        rintro e w5 ⟨cs5, rfl, hk5, hb5⟩
        have BO : Aside0 (Below wx.heap.size wx w5) := ⟨(BB.out).trans (hb5.mono (BB.out).size)⟩
        (try go_wp2_with fail)
        refine hK.out _ _ ?_ (fun hHeld5 => ?_)
        · exact BO.out
        clear hK K
        (try simp only [List.getElem_toArray, List.getElem_cons_succ, List.getElem_cons_zero, Act.put, List.setIfInBounds_toArray, List.set_cons_zero, List.set_cons_succ])
        refine wpAnyH_ready (rs := [5]) (by kernel_rfl) (by simp) ?_
        refine AllReadyH.cons rfl (fun K hK => ?_) AllReadyH.nil
        have SZ : Aside0 (wx.drew.heap.size ≤ w5.heap.size) := ⟨Nat.le_trans BS.out.size hb5.size⟩
        refine step_append_zero kS (wx.drew).heap.size ?_ (.tmp 80) (.tmp 81) 22 9 (.string ⟨#[]⟩) ?_ ?_ ?_ ?_ ?_ ?_ (some ⟨(wx.drew).heap.size, 0, none⟩) (.slice Az zn.length cz) zn (fun _ => True) ?_ ?_ ?_ ?_ ?_ ?_ ?_
        · rfl
        · rfl
        · exact Try.underlying22
        · exact info_s
        · rfl
        · decide
        · decide
        · rfl
        · rfl
        · exact (OL.out.below hb5)
        · exact (HZX.out.any.below pS (BO.out))
        · exact (SZ.out)
        · exact HZR.out
        intro v7 w7 ho7 hb7
        obtain ⟨C7, c7, rfl, _⟩ := ho7.slice_
        have BP : Aside0 (Below wx.heap.size wx w7) := ⟨(BO.out).trans (hb7.mono (BO.out).size)⟩
        refine hK.out _ _ ?_ (fun hHeld7 => ?_)
        · exact BP.out
        clear hK K
        (try simp only [List.getElem_toArray, List.getElem_cons_succ, List.getElem_cons_zero, Act.put, List.setIfInBounds_toArray, List.set_cons_zero, List.set_cons_succ])
        refine wpAnyH_ready (rs := [6]) (by kernel_rfl) (by simp) ?_
        refine AllReadyH.cons rfl (fun K hK => ?_) AllReadyH.nil
        (try simp only [List.getElem_toArray, List.getElem_cons_succ, List.getElem_cons_zero, Act.put, List.setIfInBounds_toArray, List.set_cons_zero, List.set_cons_succ])
        go_simp
        go_at_call 30
        refine (from_none q [.slice Aq q.name.length cq, .int .i64 q.typ, .int .i64 q.cls] m' cs5 _ zn 5 _ (K_below HQQ.out (BWX.out.trans ((BP.out).mono BWX.out.size))) (kM.mono (fun _ _ => trivial) (K_below hk5 hb7)) (ho7.rd (fun _ _ => trivial) (fun _ _ => trivial)) HNA.out).mono ?_
        rintro e w8 ⟨rfl, hb8⟩
        have BF : Aside0 (Below wx.heap.size wx w8) := ⟨(BP.out).trans (hb8.mono (BP.out).size)⟩
        (try go_wp2_with fail)
        refine hK.out _ _ ?_ (fun hHeld8 => ?_)
        · exact BF.out
        clear hK K
        (try simp only [List.getElem_toArray, List.getElem_cons_succ, List.getElem_cons_zero, Act.put, List.setIfInBounds_toArray, List.set_cons_zero, List.set_cons_succ])
        refine wpAnyH_take (i := 7) (v := ?_) rfl (by kernel_rfl) (by kernel_rfl) (by kernel_rfl) (fun _ _ _ h => h) (Or.inl ⟨by rfl, ?_⟩) (by assumption) ?_
        rotate_left
        · intro wy hSw
          (try dsimp only at hSw)
          (try simp only [List.getElem_toArray, List.getElem_cons_succ, List.getElem_cons_zero])
          go_simp
          (try with_reducible rfl)
        (try simp only [List.getElem_toArray, List.getElem_cons_succ, List.getElem_cons_zero, Act.put, List.setIfInBounds_toArray, List.set_cons_zero, List.set_cons_succ])
        refine wpAnyH_take (i := 8) (v := ?_) rfl (by kernel_rfl) (by kernel_rfl) (by kernel_rfl) (fun _ _ _ h => h) (Or.inl ⟨by rfl, ?_⟩) (by assumption) ?_
        rotate_left
        · intro wy hSw
          (try dsimp only at hSw)
          (try simp only [List.getElem_toArray, List.getElem_cons_succ, List.getElem_cons_zero])
          go_simp
          (try with_reducible rfl)
        (try simp only [List.getElem_toArray, List.getElem_cons_succ, List.getElem_cons_zero, Act.put, List.setIfInBounds_toArray, List.set_cons_zero, List.set_cons_succ])
        refine wpAnyH_take (i := 9) (v := ?_) rfl (by kernel_rfl) (by kernel_rfl) (by kernel_rfl) (fun _ _ _ h => h) (Or.inl ⟨by rfl, ?_⟩) (by assumption) ?_
        rotate_left
        · intro wy hSw
          (try dsimp only at hSw)
          (try simp only [List.getElem_toArray, List.getElem_cons_succ, List.getElem_cons_zero])
          go_simp
          (try with_reducible rfl)
        (try simp only [List.getElem_toArray, List.getElem_cons_succ, List.getElem_cons_zero, Act.put, List.setIfInBounds_toArray, List.set_cons_zero, List.set_cons_succ])
        refine wpAnyH_done (by kernel_rfl) ?_ _
        go_wp2_with fail
        go_ret
        exact ⟨rfl, BWX.out.trans (BF.out.mono BWX.out.size)⟩⟩
    generalize hWs : ((((w2.setCell ⟨w.heap.size + 1, 1, none⟩ (.bool true)).setCell ⟨w.heap.size + 1, 2, none⟩ (.int .i64 0)).setCell ⟨w.heap.size + 1, 7, none⟩ (.int .i64 0)).setCell ⟨w.heap.size + 1, 8, none⟩ (.slice (some ⟨w2.heap.size, 0, none⟩) 1 1)) = Ws
    have hsz : Ws.heap.size = w2.heap.size := by rw [← hWs, World.size_setCell, World.size_setCell, World.size_setCell, World.size_setCell]
    have BS : Aside0 (But w2.heap.size (w.heap.size + 1) w2 Ws) := ⟨by rw [← hWs]; exact ((((But.refl w2.heap.size (w.heap.size + 1) w2).set 1 _).set 2 _).set 7 _).set 8 _⟩
    have RS : Aside0 (Ws.rangeAt (w.heap.size + 1) 0 [.int .i64 m.id, .bool true, .int .i64 0, .bool m.aa, .bool m.tc, .bool m.rd, .bool m.ra, .int .i64 0, .slice (some ⟨w2.heap.size, 0, none⟩) 1 1, .slice A9 m.ans.length k9, .slice A10 m.auth.length k10, .slice A11 m.extra.length k11, .bool m.edns, .int .i64 m.size]) := ⟨by rw [← hWs]; exact range_set (range_set (range_set (range_set MR2.out 1 (.bool true)) 2 (.int .i64 0)) 7 (.int .i64 0)) 8 (.slice (some ⟨w2.heap.size, 0, none⟩) 1 1)⟩
    have FS : Aside0 (∀ o, Ws.frozen? ⟨w.heap.size + 1, o, none⟩ = false) := ⟨fun o => by rw [← hWs, World.frozen?_setCell, World.frozen?_setCell, World.frozen?_setCell, World.frozen?_setCell]; exact MF2.out o⟩
    clear hWs
    generalize hWb : Ws.alloc (.cells #[.slice Aq q.name.length cq, .int .i64 q.typ, .int .i64 q.cls] 27) = Wb
    have HWB := Aside0.mk hWb
    have BA : Aside0 (Below Ws.heap.size Ws Wb) := ⟨by rw [← hWb]; exact below_alloc (Below.refl _ _) _⟩
    have BB : Aside0 (But w2.heap.size (w.heap.size + 1) w2 Wb) := ⟨BS.out.next (Nat.le_refl _) BA.out⟩
    have hM2 : w.heap.size + 1 < Ws.heap.size := by rw [hsz]; exact hx1
    have RB0 := Aside0.mk (range_below BA.out hM2 RS.out)
    have FB : Aside0 (∀ o, Wb.frozen? ⟨w.heap.size + 1, o, none⟩ = false) := ⟨fun o => (BA.out.frozen (p := ⟨w.heap.size + 1, o, none⟩) hM2).trans (FS.out o)⟩
    have L0 : Aside0 (Wb.cell? ⟨w2.heap.size, 0, none⟩ = some (.slice Aq q.name.length cq) ∧ Wb.cell? ⟨w2.heap.size, 1, none⟩ = some (.int .i64 q.typ) ∧ Wb.cell? ⟨w2.heap.size, 2, none⟩ = some (.int .i64 q.cls)) := ⟨by rw [← hWb, cellN hsz.symm]; rfl, by rw [← hWb, cellN hsz.symm]; rfl, by rw [← hWb, cellN hsz.symm]; rfl⟩
    have LF : Aside0 (∀ o, Wb.frozen? ⟨w2.heap.size, o, none⟩ = false) := ⟨fun o => by rw [← hWb, frozenN hsz.symm]⟩
    have hLb : w2.heap.size < Wb.heap.size := by rw [← hWb, World.size_alloc]; omega
    have BBW : Aside0 (Below w.heap.size w Wb) := ⟨BW2.out.trans (BB.out.below (Nat.le_succ _) (Nat.le_of_lt hx0))⟩
    have KQB : Aside0 (kQ.K Wb (fun k => k < w.heap.size) q [.slice Aq q.name.length cq, .int .i64 q.typ, .int .i64 q.cls]) := ⟨kQ.mono (fun k hk => hk.2) (K_below (kQ.low HQQ.out) BBW.out)⟩
    have QLB : Aside0 (kQ.Rd Wb (fun k => k ≠ (w.heap.size + 1)) (.slice (some ⟨w2.heap.size, 0, none⟩) 1 1) [q]) := ⟨rd_one (kQ.mono (fun k hk => by have h0 : k < w.heap.size := hk; omega) KQB.out) (by omega) L0.out.1 L0.out.2.1 L0.out.2.2 LF.out⟩
    have hML : w.heap.size + 1 ≠ w2.heap.size := by omega
    have RAA : Aside0 (∀ W', But w2.heap.size (w.heap.size + 1) w2 W' → kR.Rd W' (fun _ => True) (.slice A9 m.ans.length k9) m.ans ∧ kR.Rd W' (fun _ => True) (.slice A10 m.auth.length k10) m.auth ∧ kR.Rd W' (fun _ => True) (.slice A11 m.extra.length k11) m.extra) := ⟨fun W' h => ⟨(h.rd pR (RA.out.below pR BW2.out) (fun k hk => by have := hk.2; omega)).any, (h.rd pR (RB.out.below pR BW2.out) (fun k hk => by have := hk.2; omega)).any, (h.rd pR (RE.out.below pR BW2.out) (fun k hk => by have := hk.2; omega)).any⟩⟩
    have KMK : Aside0 (∀ (W' : World) (resp : Bool) (opc rc : Int) (qs : List Qn) (v8 : Value), But w2.heap.size (w.heap.size + 1) w2 W' → kQ.Rd W' (fun _ => True) v8 qs → R64 opc → R64 rc → kM.K W' (fun _ => True) ⟨m.id, resp, opc, m.aa, m.tc, m.rd, m.ra, rc, qs, m.ans, m.auth, m.extra, m.edns, m.size⟩ [.int .i64 m.id, .bool resp, .int .i64 opc, .bool m.aa, .bool m.tc, .bool m.rd, .bool m.ra, .int .i64 rc, v8, .slice A9 m.ans.length k9, .slice A10 m.auth.length k10, .slice A11 m.extra.length k11, .bool m.edns, .int .i64 m.size]) := ⟨fun W' resp opc rc qs v8 hb hq ho hr => ⟨v8, _, _, _, rfl, R6.out.1, ho, hr, hq, (RAA.out W' hb).1, (RAA.out W' hb).2.1, (RAA.out W' hb).2.2, R6.out.2.2.2⟩⟩
    have b1 := range_at RB0.out 1 _ rfl
    have b2 := range_at RB0.out 2 _ rfl
    have b7 := range_at RB0.out 7 _ rfl
    have b8 := range_at RB0.out 8 _ rfl
    have g1 := FB.out 1
    have g2 := FB.out 2
    have g7 := FB.out 7
    have g8 := FB.out 8
    have p0' := (BB.out.cell (b := w.heap.size) (o := 0) hx0 (by omega)).trans P2.out.1
    have p1' := (BB.out.cell (b := w.heap.size) (o := 1) hx0 (by omega)).trans P2.out.2.1
    have p2' := (BB.out.cell (b := w.heap.size) (o := 2) hx0 (by omega)).trans P2.out.2.2
    clear hWb m1 m2 m7 m8 f1 f2 f7 f8 p0 p1 p2
    have BENT : Aside0 (∀ (W' : World) (x : Qn) (c0 c1 c2 : Value), Below w2.heap.size Wb W' → kQ.K W' (fun k => k ≠ (w.heap.size + 1)) x [c0, c1, c2] → W'.cell? ⟨w2.heap.size, 0, none⟩ = some c0 → W'.cell? ⟨w2.heap.size, 1, none⟩ = some c1 → W'.cell? ⟨w2.heap.size, 2, none⟩ = some c2 → (∀ o, W'.frozen? ⟨w2.heap.size, o, none⟩ = false) → ¬ (nEq x.name q.name = true ∧ x.cls = q.cls) → Bent q (w.heap.size + 1) w2.heap.size w2 W') := ⟨fun W' x c0 c1 c2 hb hk h0 h1 h2 hf hne => ⟨_, _, BB.out.trans (But.of hb), range_below hb hx1 RB0.out, KMK.out W' true 0 0 [x] _ (BB.out.trans (But.of hb)) (rd_one hk (by omega) h0 h1 h2 hf).any (r64_num _ (by omega)) (r64_num _ (by omega)), fun h => by
      obtain ⟨y, hy, hn, _, hc⟩ := h.2.2.2.2
      have hxy : x = y := by injection hy
      subst hxy
      exact hne ⟨hn, hc⟩⟩⟩
    obtain ⟨k, hk6, hrem⟩ : ∃ k : Nat, k < 6 ∧ Int.tmod wh 6 = (k : Int) := ⟨wh.toNat % 6, Nat.mod_lt _ (by decide), by
      obtain ⟨n, rfl⟩ := Int.eq_ofNat_of_zero_le hwh.1
      rw [Int.toNat_natCast]; exact (Int.ofNat_tmod n 6).symm⟩
    rcases (show k = 0 ∨ k = 1 ∨ k = 2 ∨ k = 3 ∨ k = 4 ∨ k = 5 from by omega) with rfl | rfl | rfl | rfl | rfl | rfl
    · have hr0 : Int.tmod wh 6 = 0 := by simpa using hrem
      clear hrem
      go_wp2_with fail
      refine HK.out ?_
      refine ⟨_, _, BB.out.set 1 _, range_set RB0.out 1 (.bool false), KMK.out _ false 0 0 [q] _ (BB.out.set 1 _) (rd_set pQ QLB.out (fun k hk => hk) 1 _).any (r64_num _ (by omega)) (r64_num _ (by omega)), ?_⟩
      intro h
      have h2 : (false : Bool) = true := h.2.1
      cases h2
    · have hr0 : Int.tmod wh 6 = 1 := by simpa using hrem
      clear hrem
      go_wp2_with fail
      refine HK.out ?_
      refine ⟨_, _, BB.out.set 2 _, range_set RB0.out 2 (.int .i64 1), KMK.out _ true 1 0 [q] _ (BB.out.set 2 _) (rd_set pQ QLB.out (fun k hk => hk) 2 _).any (r64_num _ (by omega)) (r64_num _ (by omega)), ?_⟩
      intro h
      have h2 : (1 : Int) = 0 := h.2.2.1
      omega
    · have hr0 : Int.tmod wh 6 = 2 := by simpa using hrem
      clear hrem
      go_wp2_with fail
      refine HK.out ?_
      refine ⟨_, _, BB.out.set 7 _, range_set RB0.out 7 (.int .i64 2), KMK.out _ true 0 2 [q] _ (BB.out.set 7 _) (rd_set pQ QLB.out (fun k hk => hk) 7 _).any (r64_num _ (by omega)) (r64_num _ (by omega)), ?_⟩
      intro h
      have h2 : (2 : Int) = 0 ∨ (2 : Int) = 3 := h.2.2.2.1
      omega
    · have hr0 : Int.tmod wh 6 = 3 := by simpa using hrem
      clear hrem
      have OW : Aside0 (kQ.Own 27 Wb w2.heap.size (fun k => k < w.heap.size) (.slice (some ⟨w2.heap.size, 0, none⟩) 1 1) [q]) := ⟨by
        have h := own_box' (d := kQ) (e := 27) (w := Ws) (ok := fun k => k < w.heap.size) (p := q) (cs := [.slice Aq q.name.length cq, .int .i64 q.typ, .int .i64 q.cls]) (kQ.mono (fun k hk => hk.2) (BS.out.kk (K_below (kQ.low HQQ.out) BW2.out) (fun k hk => by have := hk.2; omega))) (by decide)
        rw [← HWB.out]
        rw [hsz] at h
        exact h⟩
      have HP : Aside0 (kQ.K Wb (fun k => k < w.heap.size ∧ some k ≠ (Value.slice (some ⟨w2.heap.size, 0, none⟩) 1 1).ownBlock) q [.slice Aq q.name.length cq, .int .i64 q.typ, .int .i64 q.cls]) := ⟨kQ.mono (fun k hk => ⟨hk, fun he => by have h1 : some k = some w2.heap.size := he; injection h1 with h1; have h0 : k < w.heap.size := hk; omega⟩) KQB.out⟩
      have FF : Aside0 (∀ w4, Below w2.heap.size Wb w4 → w4.cell? ⟨w.heap.size + 1, 8, none⟩ = some (.slice (some ⟨w2.heap.size, 0, none⟩) 1 1) ∧ w4.frozen? ⟨w.heap.size + 1, 8, none⟩ = false) := ⟨fun w4 hb => ⟨(hb.cell (p := ⟨w.heap.size + 1, 8, none⟩) hx1).trans b8, (hb.frozen (p := ⟨w.heap.size + 1, 8, none⟩) hx1).trans g8⟩⟩
      go_wp2_with (at_builtin; refine Own.append kQ (w0 := Wb) w2.heap.size rfl (.tmp 56) (.tmp 58) 33 27 (.agg #[.slice none 0 0, .int .i64 0, .int .i64 0]) rfl Try.underlying33 infoQ0 rfl (by decide) (by decide) _ [q] q _ _ rfl rfl HP.out OW.out (Below.refl _ _) (Nat.le_of_lt hLb) (by show 2 * 40 ≤ B47; unfold B47; omega) ?_; intro v4 w4 ho4 hb4 hg4 ha4; obtain ⟨C4, c4, rfl, _⟩ := ho4.slice_; obtain ⟨e8, h8⟩ := FF.out w4 hb4)
      have BU : Aside0 (But w2.heap.size (w.heap.size + 1) w2 w4) := ⟨BB.out.trans (But.of hb4)⟩
      refine HK.out ?_
      refine ⟨_, _, BU.out.set 8 _, range_set (range_below hb4 hx1 RB0.out) 8 _, KMK.out _ true 0 0 ([q] ++ [q]) _ (BU.out.set 8 _) (rd_set pQ (ho4.rd (ok' := fun k => k ≠ (w.heap.size + 1)) (fun k hk => by have h0 : k < w.heap.size := hk; omega) (fun k hk => by omega)) (fun k hk => hk) 8 _).any (r64_num _ (by omega)) (r64_num _ (by omega)), ?_⟩
      intro h
      obtain ⟨x, hx, _⟩ := h.2.2.2.2
      have h2 := congrArg List.length hx
      simp at h2
    · have hr0 : Int.tmod wh 6 = 4 := by simpa using hrem
      clear hrem
      have l2 := L0.out.2.2
      have fl2 := LF.out 2
      have KQ4 : Aside0 (∀ (W' : World) (x : Int), Below w2.heap.size Wb W' → R64 x → kQ.K W' (fun k => k ≠ (w.heap.size + 1)) ⟨q.name, q.typ, x⟩ [.slice Aq q.name.length cq, .int .i64 q.typ, .int .i64 x]) := ⟨fun W' x hb hx => ⟨_, rfl, (((HQN.out.low pS).below pS BBW.out).step pS (fun k hk _ => hb.block k (by have := hk.2; omega))).mono (fun k hk => by have := hk.2; omega), HQR.out.1, hx⟩⟩
      by_cases h6 : 60000 < q.cls
      · have H6 := Aside0.mk h6
        go_wp2_with fail
        refine HK.out ?_
        refine BENT.out _ ⟨q.name, q.typ, 0⟩ _ _ _ (((Below.refl _ _).setCell (p := ⟨w2.heap.size, 2, none⟩) (Nat.le_refl _) _).setCell (p := ⟨w2.heap.size, 2, none⟩) (Nat.le_refl _) _) (KQ4.out _ 0 (((Below.refl _ _).setCell (p := ⟨w2.heap.size, 2, none⟩) (Nat.le_refl _) _).setCell (p := ⟨w2.heap.size, 2, none⟩) (Nat.le_refl _) _) (r64_num _ (by omega))) ?_ ?_ ?_ ?_ ?_
        · rw [set_other (addr_ne (by decide)), set_other (addr_ne (by decide))]; exact L0.out.1
        · rw [set_other (addr_ne (by decide)), set_other (addr_ne (by decide))]; exact L0.out.2.1
        · exact set_same (set_same L0.out.2.2)
        · intro o; rw [World.frozen?_setCell, World.frozen?_setCell]; exact LF.out o
        · intro h
          have h1 : (0 : Int) = q.cls := h.2
          have := H6.out
          omega
      · have hq1 : -9223372036854775808 ≤ q.cls := HQR.out.2.1
        have hq2 : q.cls + 1 ≤ 9223372036854775807 := by omega
        have hq3 : -9223372036854775808 ≤ q.cls + 1 := by omega
        have H6 := Aside0.mk (And.intro hq2 hq3)
        go_wp2_with fail
        refine HK.out ?_
        refine BENT.out _ ⟨q.name, q.typ, q.cls + 1⟩ _ _ _ ((Below.refl _ _).setCell (p := ⟨w2.heap.size, 2, none⟩) (Nat.le_refl _) _) (KQ4.out _ (q.cls + 1) ((Below.refl _ _).setCell (p := ⟨w2.heap.size, 2, none⟩) (Nat.le_refl _) _) (r64_num _ ⟨H6.out.2, H6.out.1⟩)) ?_ ?_ ?_ ?_ ?_
        · rw [set_other (addr_ne (by decide))]; exact L0.out.1
        · rw [set_other (addr_ne (by decide))]; exact L0.out.2.1
        · exact set_same L0.out.2.2
        · intro o; rw [World.frozen?_setCell]; exact LF.out o
        · intro h
          have h1 : q.cls + 1 = q.cls := h.2
          omega
    · have hr0 : Int.tmod wh 6 = 5 := by simpa using hrem
      clear hrem
      go_upto_region 6 with (fail)
      refine wp_region_held_drew (S := fun w' => Below w2.heap.size Wb w') (by kernel_rfl) ((Below.refl _ _).drew) (fun hHeld => ?_)
      refine wpAnyH_take (i := 0) (v := ?_) rfl (by kernel_rfl) (by kernel_rfl) (by kernel_rfl) (fun _ _ _ h => h) (Or.inl ⟨by rfl, ?_⟩) (by assumption) ?_
      rotate_left
      · intro wy hSw
        (try dsimp only at hSw)
        (try simp only [List.getElem_toArray, List.getElem_cons_succ, List.getElem_cons_zero])
        go_simp
        (try with_reducible rfl)
      (try simp only [List.getElem_toArray, List.getElem_cons_succ, List.getElem_cons_zero, Act.put, List.setIfInBounds_toArray, List.set_cons_zero, List.set_cons_succ])
      refine wpAnyH_take (i := 1) (v := ?_) rfl (by kernel_rfl) (by kernel_rfl) (by kernel_rfl) (fun _ _ _ h => h) (Or.inl ⟨by rfl, ?_⟩) (by assumption) ?_
      rotate_left
      · intro wy hSw
        (try dsimp only at hSw)
        have hSw' : Below w2.heap.size Wb _ := hSw
        have c8 := (hSw'.cell (p := ⟨w.heap.size + 1, 8, none⟩) hx1).trans b8
        (try simp only [List.getElem_toArray, List.getElem_cons_succ, List.getElem_cons_zero])
        go_simp
        (try with_reducible rfl)
      (try simp only [List.getElem_toArray, List.getElem_cons_succ, List.getElem_cons_zero, Act.put, List.setIfInBounds_toArray, List.set_cons_zero, List.set_cons_succ])
      refine wpAnyH_take (i := 3) (v := ?_) rfl (by kernel_rfl) (by kernel_rfl) (by kernel_rfl) (fun _ _ _ h => h) (Or.inl ⟨by rfl, ?_⟩) (by assumption) ?_
      rotate_left
      · intro wy hSw
        (try dsimp only at hSw)
        (try simp only [List.getElem_toArray, List.getElem_cons_succ, List.getElem_cons_zero])
        go_simp
        (try with_reducible rfl)
      (try simp only [List.getElem_toArray, List.getElem_cons_succ, List.getElem_cons_zero, Act.put, List.setIfInBounds_toArray, List.set_cons_zero, List.set_cons_succ])
      refine wpAnyH_take (i := 4) (v := ?_) rfl (by kernel_rfl) (by kernel_rfl) (by kernel_rfl) (fun _ _ _ h => h) (Or.inl ⟨by rfl, ?_⟩) (by assumption) ?_
      rotate_left
      · intro wy hSw
        (try dsimp only at hSw)
        have hSw' : Below w2.heap.size Wb _ := hSw
        have c0 := (hSw'.cell (p := ⟨w.heap.size, 0, none⟩) hx0).trans p0'
        (try simp only [List.getElem_toArray, List.getElem_cons_succ, List.getElem_cons_zero])
        go_simp
        (try with_reducible rfl)
      (try simp only [List.getElem_toArray, List.getElem_cons_succ, List.getElem_cons_zero, Act.put, List.setIfInBounds_toArray, List.set_cons_zero, List.set_cons_succ])
      refine wpAnyH_ready (rs := [2]) (by kernel_rfl) (by simp) ?_
      refine AllReadyH.cons rfl (fun K hK => ?_) AllReadyH.nil
      have BA5 : Aside0 (Below Wb.heap.size Wb (Wb.drew.alloc (.cells #[.string { data := #[97, 110, 111, 116, 104, 101, 114] }] 9))) := ⟨((Below.refl Wb.heap.size Wb).drew).alloc (Nat.le_refl _) _⟩
      have OW5 : Aside0 (kS.Own 9 (Wb.drew.alloc (.cells #[.string { data := #[97, 110, 111, 116, 104, 101, 114] }] 9)) Wb.heap.size (fun k => k < w.heap.size) (.slice (some ⟨Wb.heap.size, 0, none⟩) 1 1) [ANO]) := ⟨own_box' (d := kS) (e := 9) (w := Wb.drew) (ok := fun k => k < w.heap.size) (p := ANO) (cs := [.string ANO]) ⟨rfl, ano_sz⟩ (by decide)⟩
      have RQ5 : Aside0 (kS.Rd (Wb.drew.alloc (.cells #[.string { data := #[97, 110, 111, 116, 104, 101, 114] }] 9)) (fun k => k < w.heap.size) (.slice Aq q.name.length cq) q.name) := ⟨(((HQN.out.low pS).mono (fun k hk => hk.2)).below pS BBW.out).below pS BA5.out⟩
      have LB5 : Aside0 (([ANO].length + q.name.length) * kS.bytes ≤ B47) := ⟨by rw [Nat.add_comm]; exact HBQ.out⟩
      (try simp only [List.getElem_toArray, List.getElem_cons_succ, List.getElem_cons_zero, Act.put, List.setIfInBounds_toArray, List.set_cons_zero, List.set_cons_succ])
      go_simp
      refine hK.out _ _ ?_ (fun hHeld5 => ?_)
      · exact BA5.out.mono (Nat.le_of_lt hLb)
      clear hK K
      (try simp only [List.getElem_toArray, List.getElem_cons_succ, List.getElem_cons_zero, Act.put, List.setIfInBounds_toArray, List.set_cons_zero, List.set_cons_succ])
      refine wpAnyH_ready (rs := [5]) (by kernel_rfl) (by simp) ?_
      refine AllReadyH.cons rfl (fun K hK => ?_) AllReadyH.nil
      refine step_append_own kS Wb.heap.size ?_ (.tmp 38) (.tmp 40) 22 9 (.string ⟨#[]⟩) ?_ ?_ ?_ ?_ ?_ ?_ (.slice (some ⟨Wb.heap.size, 0, none⟩) 1 1) (.slice Aq q.name.length cq) [ANO] q.name (fun k => k < w.heap.size) ?_ ?_ ?_ ?_ ?_ ?_ ?_
      · rfl
      · rfl
      · exact Try.underlying22
      · exact info_s
      · rfl
      · decide
      · decide
      · rfl
      · rfl
      · exact OW5.out
      · exact rd_apart' RQ5.out (fun k hk => by omega) OW5.out
      · exact BA5.out.size
      · exact LB5.out
      intro v7 w7 ho7 hg7 ha7
      obtain ⟨C7, c7, rfl, _⟩ := ho7.slice_
      have B7 : Aside0 (Below Wb.heap.size Wb w7) := ⟨BA5.out.grown hg7 BA5.out.size (fun k hk => (OW5.out.lt k hk).1)⟩
      have l0 := (B7.out.cell (p := ⟨w2.heap.size, 0, none⟩) hLb).trans L0.out.1
      have fl0 := (B7.out.frozen (p := ⟨w2.heap.size, 0, none⟩) hLb).trans (LF.out 0)
      refine hK.out _ _ ?_ (fun hHeld7 => ?_)
      · exact B7.out.mono (Nat.le_of_lt hLb)
      clear hK K
      (try simp only [List.getElem_toArray, List.getElem_cons_succ, List.getElem_cons_zero, Act.put, List.setIfInBounds_toArray, List.set_cons_zero, List.set_cons_succ])
      refine wpAnyH_take (i := 6) (v := ?_) rfl (by kernel_rfl) (by kernel_rfl) (by kernel_rfl) (fun _ _ _ h => h) (Or.inl ⟨by rfl, ?_⟩) (by assumption) ?_
      rotate_left
      · intro wy hSw
        (try dsimp only at hSw)
        (try simp only [List.getElem_toArray, List.getElem_cons_succ, List.getElem_cons_zero])
        go_simp
        (try with_reducible rfl)
      (try simp only [List.getElem_toArray, List.getElem_cons_succ, List.getElem_cons_zero, Act.put, List.setIfInBounds_toArray, List.set_cons_zero, List.set_cons_succ])
      refine wpAnyH_take (i := 7) (v := ?_) rfl (by kernel_rfl) (by kernel_rfl) (by kernel_rfl) (fun _ _ _ h => h) (Or.inl ⟨by rfl, ?_⟩) (by assumption) ?_
      rotate_left
      · intro wy hSw
        (try dsimp only at hSw)
        (try simp only [List.getElem_toArray, List.getElem_cons_succ, List.getElem_cons_zero])
        go_simp
        (try with_reducible rfl)
      (try simp only [List.getElem_toArray, List.getElem_cons_succ, List.getElem_cons_zero, Act.put, List.setIfInBounds_toArray, List.set_cons_zero, List.set_cons_succ])
      refine wpAnyH_ready (rs := [8]) (by kernel_rfl) (by simp) ?_
      refine AllReadyH.cons rfl (fun K hK => ?_) AllReadyH.nil
      (try simp only [List.getElem_toArray, List.getElem_cons_succ, List.getElem_cons_zero, Act.put, List.setIfInBounds_toArray, List.set_cons_zero, List.set_cons_succ])
      go_simp
      refine hK.out _ _ ?_ (fun hHeld8 => ?_)
      · exact (B7.out.mono (Nat.le_of_lt hLb)).setCell (p := ⟨w2.heap.size, 0, none⟩) (Nat.le_refl _) _
      clear hK K
      (try simp only [List.getElem_toArray, List.getElem_cons_succ, List.getElem_cons_zero, Act.put, List.setIfInBounds_toArray, List.set_cons_zero, List.set_cons_succ])
      refine wpAnyH_done (by kernel_rfl) ?_ _
      have BN : Aside0 (∀ v, Below w2.heap.size Wb (w7.setCell ⟨w2.heap.size, 0, none⟩ v)) := ⟨fun v => (B7.out.mono (Nat.le_of_lt hLb)).setCell (p := ⟨w2.heap.size, 0, none⟩) (Nat.le_refl _) _⟩
      have L7 := Aside0.mk l0
      clear l0 fl0
      go_wp2_with fail
      refine HK.out ?_
      refine BENT.out _ ⟨[ANO] ++ q.name, q.typ, q.cls⟩ (.slice C7 ([ANO] ++ q.name).length c7) (.int .i64 q.typ) (.int .i64 q.cls) (BN.out _) ⟨_, rfl, ?_, HQR.out.1, HQR.out.2⟩ (set_same L7.out) ?_ ?_ ?_ ?_
      · exact (ho7.rd (ok' := fun k => k ≠ w2.heap.size ∧ k ≠ (w.heap.size + 1)) (fun k hk => by have h0 : k < w.heap.size := hk; omega) (fun k hk => by omega)).step pS (fun k hk _ => Below.heap_setCell w7 ⟨w2.heap.size, 0, none⟩ _ k hk.1) |>.mono (fun k hk => hk.2)
      · rw [set_other (addr_ne (by decide))]; exact (B7.out.cell (p := ⟨w2.heap.size, 1, none⟩) hLb).trans L0.out.2.1
      · rw [set_other (addr_ne (by decide))]; exact (B7.out.cell (p := ⟨w2.heap.size, 2, none⟩) hLb).trans L0.out.2.2
      · intro o; rw [World.frozen?_setCell]; exact (B7.out.frozen (p := ⟨w2.heap.size, o, none⟩) hLb).trans (LF.out o)
      · intro h
        have h1 := nEq_len h.1
        simp at h1
end Go.Proofs.Ytkbjbkmaokebgaa.Gz

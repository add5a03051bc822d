import Derived.Test.YtkbjbkmaokebgaaZar
import Derived.Test.YtkbjbkmaokebgaaSamers
import Derived.Test.YtkbjbkmaokebgaaR17
import Derived.Test.YtkbjbkmaokebgaaSet
set_option linter.unusedVariables false
set_option linter.unusedSimpArgs false
namespace Go.Proofs.Ytkbjbkmaokebgaa.Gz
open Go.RowKit Go.Proofs.YtkbjbkmaokebgaaW.PrintWords
open Ki
/-- "nobody-is-called-so" -/
def NOB : ByteArray := { data := #[110, 111, 98, 111, 100, 121, 45, 105, 115, 45, 99, 97, 108, 108, 101, 100, 45, 115, 111] }
theorem nob_sz : Sz NOB := by unfold Sz NOB B47; decide
theorem own_box {α : Type} {d : Ki α} {e : Nat} {w : World} {ok : Nat → Prop} {p : α} {cs : List Value} (h : d.K w ok p cs) (hB : d.bytes ≤ B47) :
    d.Own e (w.alloc (.cells cs.toArray e)) w.heap.size ok (.slice (some ⟨w.heap.size, 0, none⟩) 1 1) [p] := by
  have hr1 : Reps (d.K w ok) d.sz [p] cs := by
    have := (Reps.none (d.K w ok) d.sz).snoc h (d.len h)
    simpa using this
  exact Own.lit (d := d) (e := e) (base := w.heap.size) (ok := ok) (xs := [p]) w hr1 (Nat.le_refl _) (by simp) (by simpa using hB)
theorem mem_short {z : Zone} (hs : zSound z = true) {r : RR} (hr : r ∈ z.recs) : r.name.length ≤ 255 := by
  obtain ⟨p, hp⟩ := zall_mem _ _ _ (zSound_all hs) r hr
  obtain ⟨h1, _⟩ := zrec_facts hp
  unfold rrSound at h1
  simp only [Bool.and_eq_true] at h1
  have h2 := h1.1.1.1.1
  unfold nSound at h2
  simp only [Bool.and_eq_true, decide_eq_true_eq] at h2
  exact h2.1.1
set_option maxHeartbeats 16000000 in
set_option maxRecDepth 100000 in
theorem zoneasked_calls (z : Zone) (cz : List Value) (b : Int) (w : World) (hz : kZ.K w (fun _ => True) z cz) (hb0 : 0 ≤ b) (hb255 : b ≤ 255) :
    Calls Try.prog 4 #[.agg cz.toArray, .int .u8 b] w fun e w' => e = .returned (.bool true) ∧ Below w.heap.size w w' := by
  obtain ⟨An, cn, Ar, cr, rfl⟩ := kZ_form hz
  have HZ := Aside0.mk hz
  have hrr : kR.Rd w (fun _ => True) (.slice Ar z.recs.length cr) z.recs := by
    obtain ⟨u1, u2, e, _, h2⟩ := hz
    simp only [List.cons.injEq, and_true] at e
    rw [e.2]; exact h2
  have HRR := Aside0.mk hrr
  clear hz hrr
  generalize hW0 : w.alloc (.cells #[.slice An z.name.length cn, .slice Ar z.recs.length cr] 25) = W0
  have HW0 := Aside0.mk hW0
  have BX : Aside0 (Below w.heap.size w W0) := ⟨by rw [← hW0]; exact below_alloc (Below.refl _ _) _⟩
  have hs0 : W0.heap.size = w.heap.size + 1 := by rw [← hW0]; simp
  have y0 : W0.cell? ⟨w.heap.size, 0, none⟩ = some (.slice An z.name.length cn) := by rw [← hW0, cellN rfl]; rfl
  have y1 : W0.cell? ⟨w.heap.size, 1, none⟩ = some (.slice Ar z.recs.length cr) := by rw [← hW0, cellN rfl]; rfl
  have HY := Aside0.mk (And.intro y0 y1)
  have hl0 : w.heap.size < W0.heap.size := by omega
  clear hW0 hs0
  go_enter Try.func4, Try.ntmps4
  go_wp2_with fail
  rw [HW0.out]
  refine (plain_calls z _ W0 (K_below HZ.out BX.out)).mono ?_
  rintro e wp ⟨rfl, hbp⟩
  have HBP := Aside0.mk hbp
  clear hbp
  go_wp2_with fail
  generalize hW1 : wp.alloc (.cells #[.slice An z.name.length cn, .slice Ar z.recs.length cr] 31) = W1
  have BX1 : Aside0 (Below w.heap.size w W1) := ⟨by rw [← hW1]; exact below_alloc (BX.out.trans (HBP.out.mono BX.out.size)) _⟩
  have hlw : w.heap.size < wp.heap.size := Nat.lt_of_lt_of_le hl0 HBP.out.size
  have hlp : wp.heap.size < W1.heap.size := by rw [← hW1]; simp
  have p0 : W1.cell? ⟨wp.heap.size, 0, none⟩ = some (.slice An z.name.length cn) := by rw [← hW1, cellN rfl]; rfl
  have p1 : W1.cell? ⟨wp.heap.size, 1, none⟩ = some (.slice Ar z.recs.length cr) := by rw [← hW1, cellN rfl]; rfl
  have z0 : W1.cell? ⟨w.heap.size, 0, none⟩ = some (.slice An z.name.length cn) := by rw [← hW1, cellA hlw]; exact (HBP.out.cell (p := ⟨w.heap.size, 0, none⟩) hl0).trans y0
  have z1 : W1.cell? ⟨w.heap.size, 1, none⟩ = some (.slice Ar z.recs.length cr) := by rw [← hW1, cellA hlw]; exact (HBP.out.cell (p := ⟨w.heap.size, 1, none⟩) hl0).trans y1
  have HPZ := Aside0.mk (And.intro p0 (And.intro p1 (And.intro z0 z1)))
  have hlz : w.heap.size < W1.heap.size := Nat.lt_trans hlw hlp
  have HWP := Aside0.mk hW1
  clear hW1 y0 y1
  refine (answers_calls W1).mono ?_
  rintro e w1 ⟨rfl, hb1⟩
  have HB1 := Aside0.mk hb1
  obtain ⟨bc, bf⟩ := bcell hb1
  clear hb1
  go_wp2_with fail
  refine (light_calls z _ w1 (K_below HZ.out (BX1.out.trans (HB1.out.mono BX1.out.size)))).mono ?_
  rintro e w2 ⟨b2, rfl, hb2⟩
  have HB2 := Aside0.mk (HB1.out.trans (hb2.mono HB1.out.size))
  clear hb2 bc bf
  obtain ⟨bc, bf⟩ := bcell HB2.out
  cases b2 with
  | false =>
    go_wp2_with fail
    refine (answers_calls _).mono ?_
    rintro e wf ⟨rfl, hbf⟩
    have HBF := Aside0.mk ((BX1.out.trans (HB2.out.mono BX1.out.size)).trans (hbf.mono (BX1.out.trans (HB2.out.mono BX1.out.size)).size))
    clear hbf
    go_wp2_with fail
    go_ret
    exact ⟨rfl, HBF.out⟩
  | true =>
    go_wp2_with fail
    cases hs : zSound z with
    | false =>
      have HS := Aside0.mk hs
      clear hs
      refine (bv (snd17_calls z _ w2 (K_below HZ.out (BX1.out.trans (HB2.out.mono BX1.out.size)))) HS.out).mono ?_
      rintro e w4 ⟨rfl, hb4⟩
      have HB4 := Aside0.mk (HB2.out.trans (hb4.mono HB2.out.size))
      clear hb4 bc bf
      go_wp2_with fail
      refine (answers_calls _).mono ?_
      rintro e wf ⟨rfl, hbf⟩
      have HBF := Aside0.mk ((BX1.out.trans (HB4.out.mono BX1.out.size)).trans (hbf.mono (BX1.out.trans (HB4.out.mono BX1.out.size)).size))
      clear hbf
      go_wp2_with fail
      go_ret
      exact ⟨rfl, HBF.out⟩
    | true =>
      have HS := Aside0.mk hs
      clear hs
      refine (bv (snd17_calls z _ w2 (K_below HZ.out (BX1.out.trans (HB2.out.mono BX1.out.size)))) HS.out).mono ?_
      rintro e w4 ⟨rfl, hb4⟩
      have HB4 := Aside0.mk (HB2.out.trans (hb4.mono HB2.out.size))
      clear hb4 bc bf p0 p1 z0 z1
      have hpos : 0 < z.recs.length := by
        rcases Nat.eq_zero_or_pos z.recs.length with h | h
        · have := zSound_soas HS.out
          rw [List.eq_nil_of_length_eq_zero h] at this
          cases this
        · exact h
      have HB4w : Aside0 (Below w.heap.size w w4) := ⟨BX1.out.trans (HB4.out.mono BX1.out.size)⟩
      obtain ⟨k, hk, hrem⟩ : ∃ k : Nat, k < z.recs.length ∧ Int.tmod b (z.recs.length : Int) = (k : Int) := ⟨b.toNat % z.recs.length, Nat.mod_lt _ hpos, by
        obtain ⟨n, rfl⟩ := Int.eq_ofNat_of_zero_le hb0
        rw [Int.toNat_natCast]; exact (Int.ofNat_tmod n _).symm⟩
      obtain ⟨A2, c2, he2, _, hrow2⟩ := HRR.out.below pR HB4w.out
      obtain ⟨rfl, rfl⟩ : Ar = A2 ∧ cr = c2 := by injection he2 with h1 _ h3; exact ⟨h1, h3⟩
      obtain ⟨ad, vw, d4, d5, d6, d7, d8, rfl, hKr, e0, e1, e2, e3, e4, e5, e6, e7, e8⟩ := cell_r hrow2 k hk
      have hmem : z.recs[k] ∈ z.recs := List.getElem_mem _
      generalize z.recs[k] = r at hKr e1 e2 e3 hmem
      have HMEM := Aside0.mk hmem
      obtain ⟨A0, k0, A4, k4, A5, k5, A6, k6, A7, k7, A8, k8, rfl, rfl, rfl, rfl, rfl, rfl⟩ := kR_form hKr
      have HKR := Aside0.mk hKr
      have z1 := (HB4.out.cell (p := ⟨w.heap.size, 1, none⟩) hlz).trans HPZ.out.2.2.2
      have HK := Aside0.mk hk
      have k0' : (0 : Int) ≤ (k : Int) := by omega
      have k1' : (k : Int) < (z.recs.length : Int) := by omega
      have hn0 : z.recs ≠ [] := fun h => by rw [h] at hpos; cases hpos
      have hwr : IntKind.i64.wrap b = b := by
        first
          | (simp [IntKind.wrap, IntKind.bits, IntKind.signed]; omega)
          | (unfold IntKind.wrap; split <;> simp_all <;> omega)
      have hlz4 : w.heap.size < w4.heap.size := Nat.lt_of_lt_of_le hlz HB4.out.size
      have had4 : (ad.add (k * 9)).block < w4.heap.size := World.block_lt_of_cell? w4 _ e0
      clear hKr hmem hrow2 he2 hk hpos
      go_upto_region 4 with (fail)
      go_region
      generalize hW5 : (w4.alloc (.cells #[.slice A0 r.name.length k0, .int .i64 r.typ, .int .i64 r.cls, .int .i64 r.ttl, .slice A4 r.data.bytes.length k4, .slice A5 r.data.host.length k5, .slice A6 r.data.mail.length k6, .slice A7 r.data.nums.length k7, .slice A8 r.data.texts.length k8] 44)).drew = W5
      have B45 : Aside0 (Below w4.heap.size w4 W5) := ⟨by rw [← hW5]; exact (below_alloc (Below.refl _ _) _).drew⟩
      have hXr : w4.heap.size < W5.heap.size := by rw [← hW5]; simp
      have r0 : W5.cell? ⟨w4.heap.size, 0, none⟩ = some (.slice A0 r.name.length k0) := by rw [← hW5]; exact (cellN rfl).trans rfl
      have r1 : W5.cell? ⟨w4.heap.size, 1, none⟩ = some (.int .i64 r.typ) := by rw [← hW5]; exact (cellN rfl).trans rfl
      have YR := Aside0.mk (And.intro r0 r1)
      have hXz : w.heap.size < W5.heap.size := Nat.lt_trans hlz4 hXr
      have B05 : Aside0 (Below w.heap.size w W5) := ⟨HB4w.out.trans (B45.out.mono HB4w.out.size)⟩
      have YZ : Aside0 (W5.cell? ⟨w.heap.size, 0, none⟩ = some (.slice An z.name.length cn) ∧ W5.cell? ⟨w.heap.size, 1, none⟩ = some (.slice (some ad) z.recs.length cr)) := ⟨(B45.out.cell (p := ⟨w.heap.size, 0, none⟩) hlz4).trans ((HB4.out.cell (p := ⟨w.heap.size, 0, none⟩) hlz).trans HPZ.out.2.2.1), (B45.out.cell (p := ⟨w.heap.size, 1, none⟩) hlz4).trans z1⟩
      have KZ5 := Aside0.mk (K_below HZ.out B05.out)
      have HRN : Aside0 (kS.Rd w4 (fun _ => True) (.slice A0 r.name.length k0) r.name ∧ R64 r.typ) := ⟨by
        obtain ⟨v0, v4, v5, v6, v7, _⟩ := HKR.out
        have h0 : Value.slice A0 r.name.length k0 = v0 := by injection v5
        exact ⟨h0 ▸ v6, v7⟩⟩
      have KN5 := Aside0.mk (HRN.out.1.below pS B45.out)
      have HT := Aside0.mk HRN.out.2
      have HL := Aside0.mk HRN.out.1.room
      clear hW5 z1 r0 r1 e0 e1 e2 e3 e4 e5 e6 e7 e8 k0' k1' hn0 hwr hrem had4
      go_upto_region 5 with (fail)
      refine wp_region_from (by kernel_rfl) (ZaI z r.name r.typ W5.heap.size w4.heap.size [.slice An z.name.length cn, .slice (some ad) z.recs.length cr] (.slice A0 r.name.length k0) W5) (by kernel_rfl) ?_ ?_ ?_
      · exact ZaI_start z _ _ _ _ _ _ _ (Below.refl _ _).drew _ rfl rfl rfl rfl rfl rfl rfl rfl rfl rfl rfl
      · generalize ha0 : (⟨_, _⟩ : Act) = a0
        have T2 : Aside0 (a0.tmps[2]? = some (.pointer (some ⟨w.heap.size, 0, none⟩)) ∧ a0.tmps[6]? = some (.pointer (some ⟨w4.heap.size, 0, none⟩)) ∧ a0.tmps.size = 152) := ⟨by rw [← ha0]; rfl, by rw [← ha0]; rfl, by rw [← ha0]; rfl⟩
        clear ha0
        intro f a W i o ho hf he hsh hI
        have hi : i < 12 := (Array.getElem?_eq_some_iff.1 ho).1
        cases hI with
        | fin u7 u43 u44 u45 u46 u47 u48 u49 u50 u51 u52 _ h11 h =>
          exfalso
          have q10 : f 10 = true := hsh 11 _ rfl h11 ⟨10, .phase⟩ (by simp) rfl
          have q0 : f 0 = true := hsh 11 _ rfl h11 ⟨0, .phase⟩ (by simp) rfl
          have q1 : f 1 = true := hsh 11 _ rfl h11 ⟨1, .phase⟩ (by simp) rfl
          have q2 : f 2 = true := hsh 11 _ rfl h11 ⟨2, .phase⟩ (by simp) rfl
          have q3 : f 3 = true := hsh 11 _ rfl h11 ⟨3, .phase⟩ (by simp) rfl
          have q4 : f 4 = true := hsh 11 _ rfl h11 ⟨4, .phase⟩ (by simp) rfl
          have q5 : f 5 = true := hsh 11 _ rfl h11 ⟨5, .phase⟩ (by simp) rfl
          have q6 : f 6 = true := hsh 11 _ rfl h11 ⟨6, .phase⟩ (by simp) rfl
          have q7 : f 7 = true := hsh 11 _ rfl h11 ⟨7, .phase⟩ (by simp) rfl
          have q8 : f 8 = true := hsh 11 _ rfl h11 ⟨8, .phase⟩ (by simp) rfl
          have q9 : f 9 = true := hsh 11 _ rfl h11 ⟨9, .phase⟩ (by simp) rfl
          rcases (show i = 0 ∨ i = 1 ∨ i = 2 ∨ i = 3 ∨ i = 4 ∨ i = 5 ∨ i = 6 ∨ i = 7 ∨ i = 8 ∨ i = 9 ∨ i = 10 ∨ i = 11 from by omega) with rfl | rfl | rfl | rfl | rfl | rfl | rfl | rfl | rfl | rfl | rfl | rfl
          · exact absurd (hf.symm.trans q0) (by decide)
          · exact absurd (hf.symm.trans q1) (by decide)
          · exact absurd (hf.symm.trans q2) (by decide)
          · exact absurd (hf.symm.trans q3) (by decide)
          · exact absurd (hf.symm.trans q4) (by decide)
          · exact absurd (hf.symm.trans q5) (by decide)
          · exact absurd (hf.symm.trans q6) (by decide)
          · exact absurd (hf.symm.trans q7) (by decide)
          · exact absurd (hf.symm.trans q8) (by decide)
          · exact absurd (hf.symm.trans q9) (by decide)
          · exact absurd (hf.symm.trans q10) (by decide)
          · exact absurd (hf.symm.trans h11) (by decide)
        | at_ u7 u43 u44 u45 u46 u47 u48 u49 u50 u51 u52 _ h11 h =>
          have H := Aside0.mk h
          clear h hsh
          have hbs : W5.heap.size ≤ W.heap.size := H.out.bel.size
          have NE : ∀ i j, j ≠ i → f j = false → mark f i j = false := fun i j h h' => (mark_ne' (f := f) h).trans h'
          rcases (show i = 0 ∨ i = 1 ∨ i = 2 ∨ i = 3 ∨ i = 4 ∨ i = 5 ∨ i = 6 ∨ i = 7 ∨ i = 8 ∨ i = 9 ∨ i = 10 ∨ i = 11 from by omega) with rfl | rfl | rfl | rfl | rfl | rfl | rfl | rfl | rfl | rfl | rfl | rfl
          · have ho2 := ho
            simp only [List.getElem?_toArray, List.getElem?_cons_succ, List.getElem?_cons_zero, Option.some.injEq] at ho2
            subst ho2
            refine wpOp_plain ho rfl ?_
            have r1 := ((ZaC_other a0 u7 u43 u44 u45 u46 u47 u48 u49 u50 u51 u52 2 (by decide)).trans T2.out.1)
            have c0 := (H.out.bel.cell (p := ⟨w.heap.size, 0, none⟩) hXz).trans YZ.out.1
            have c1 := (H.out.bel.cell (p := ⟨w.heap.size, 1, none⟩) hXz).trans YZ.out.2
            generalize hcc : ZaC a0 u7 u43 u44 u45 u46 u47 u48 u49 u50 u51 u52 = ac at r1
            unfold Oper.wp execOp
            go_simp
            rw [← hcc]
            show ZaI _ _ _ _ _ _ _ W5 a0 (mark f 0) ((ZaC a0 u7 u43 u44 u45 u46 u47 u48 u49 u50 u51 u52).put (some 43) _) _
            rw [ZaC_put43]
            exact ZaI.at_ _ _ _ _ _ _ _ _ _ _ _ _ (NE 0 11 (by decide) h11) (ZaAt_0 H hbs (Below.refl W.heap.size W) (fun _ => rfl))
          · have ho2 := ho
            simp only [List.getElem?_toArray, List.getElem?_cons_succ, List.getElem?_cons_zero, Option.some.injEq] at ho2
            subst ho2
            refine wpOp_plain ho rfl ?_
            have r1 := (ZaC_get43 a0 u7 u43 u44 u45 u46 u47 u48 u49 u50 u51 u52 (by rw [T2.out.2.2]; decide)).trans (congrArg some (H.out.l (he ⟨0, .data⟩ (by simp) rfl)))
            have hc := lawown_calls z [.slice An z.name.length cn, .slice (some ad) z.recs.length cr] W (K_below KZ5.out H.out.bel)
            generalize hcc : ZaC a0 u7 u43 u44 u45 u46 u47 u48 u49 u50 u51 u52 = ac at r1
            unfold Oper.wp execOp
            go_simp
            refine hc.mono ?_
            rintro e w1 ⟨c1, rfl, hk1, hb1⟩
            rw [← hcc]
            show ZaI _ _ _ _ _ _ _ W5 a0 (mark f 1) ((ZaC a0 u7 u43 u44 u45 u46 u47 u48 u49 u50 u51 u52).put (some 44) _) _
            rw [ZaC_put44]
            exact ZaI.at_ _ _ _ _ _ _ _ _ _ _ _ _ (NE 1 11 (by decide) h11) (ZaAt_1 H hbs hb1 (fun _ => ⟨_, rfl, kZ.mono (fun k hk => Nat.le_trans hbs hk) hk1⟩))
          · have ho2 := ho
            simp only [List.getElem?_toArray, List.getElem?_cons_succ, List.getElem?_cons_zero, Option.some.injEq] at ho2
            subst ho2
            refine wpOp_plain ho rfl ?_
            generalize hcc : ZaC a0 u7 u43 u44 u45 u46 u47 u48 u49 u50 u51 u52 = ac
            unfold Oper.wp execOp
            go_simp
            rw [← hcc]
            show ZaI _ _ _ _ _ _ _ W5 a0 (mark f 2) ((ZaC a0 u7 u43 u44 u45 u46 u47 u48 u49 u50 u51 u52).put (some 45) _) _
            rw [ZaC_put45]
            exact ZaI.at_ _ _ _ _ _ _ _ _ _ _ _ _ (NE 2 11 (by decide) h11) (ZaAt_2 H hbs (below_alloc (Below.refl W.heap.size W) _) (fun _ => ⟨_, rfl, Own.lit0 kS 9 W _ _ hbs⟩))
          · have ho2 := ho
            simp only [List.getElem?_toArray, List.getElem?_cons_succ, List.getElem?_cons_zero, Option.some.injEq] at ho2
            subst ho2
            refine wpOp_plain ho rfl ?_
            have r1 := ((ZaC_other a0 u7 u43 u44 u45 u46 u47 u48 u49 u50 u51 u52 6 (by decide)).trans T2.out.2.1)
            generalize hcc : ZaC a0 u7 u43 u44 u45 u46 u47 u48 u49 u50 u51 u52 = ac at r1
            unfold Oper.wp execOp
            go_simp
            rw [← hcc]
            show ZaI _ _ _ _ _ _ _ W5 a0 (mark f 3) ((ZaC a0 u7 u43 u44 u45 u46 u47 u48 u49 u50 u51 u52).put (some 46) _) _
            rw [ZaC_put46]
            exact ZaI.at_ _ _ _ _ _ _ _ _ _ _ _ _ (NE 3 11 (by decide) h11) (ZaAt_3 H hbs (Below.refl W.heap.size W) (fun _ => rfl))
          · have ho2 := ho
            simp only [List.getElem?_toArray, List.getElem?_cons_succ, List.getElem?_cons_zero, Option.some.injEq] at ho2
            subst ho2
            refine wpOp_plain ho rfl ?_
            have r1 := (ZaC_get46 a0 u7 u43 u44 u45 u46 u47 u48 u49 u50 u51 u52 (by rw [T2.out.2.2]; decide)).trans (congrArg some (H.out.p (he ⟨3, .data⟩ (by simp) rfl)))
            have c0 := (H.out.bel.cell (p := ⟨w4.heap.size, 0, none⟩) hXr).trans YR.out.1
            generalize hcc : ZaC a0 u7 u43 u44 u45 u46 u47 u48 u49 u50 u51 u52 = ac at r1
            unfold Oper.wp execOp
            go_simp
            rw [← hcc]
            show ZaI _ _ _ _ _ _ _ W5 a0 (mark f 4) ((ZaC a0 u7 u43 u44 u45 u46 u47 u48 u49 u50 u51 u52).put (some 47) _) _
            rw [ZaC_put47]
            exact ZaI.at_ _ _ _ _ _ _ _ _ _ _ _ _ (NE 4 11 (by decide) h11) (ZaAt_4 H hbs (Below.refl W.heap.size W) (fun _ => rfl))
          · have ho2 := ho
            simp only [List.getElem?_toArray, List.getElem?_cons_succ, List.getElem?_cons_zero, Option.some.injEq] at ho2
            subst ho2
            refine wpOp_plain ho rfl ?_
            obtain ⟨S, e1, ho1⟩ := H.out.b (he ⟨2, .data⟩ (by simp) rfl)
            have r1 := (ZaC_get45 a0 u7 u43 u44 u45 u46 u47 u48 u49 u50 u51 u52 (by rw [T2.out.2.2]; decide)).trans (congrArg some e1)
            have r2 := (ZaC_get47 a0 u7 u43 u44 u45 u46 u47 u48 u49 u50 u51 u52 (by rw [T2.out.2.2]; decide)).trans (congrArg some (H.out.m (he ⟨4, .data⟩ (by simp) rfl)))
            obtain ⟨v1, w1, hr1, ho3, hb1⟩ := run_append_zero (P := Try.prog) W5.heap.size 22 22 (.string ⟨#[]⟩) Try.underlying22 info_s rfl (by decide) (by decide) S _ ho1 (KN5.out.below pS H.out.bel) hbs HL.out
            generalize hcc : ZaC a0 u7 u43 u44 u45 u46 u47 u48 u49 u50 u51 u52 = ac at r1 r2
            unfold Oper.wp execOp
            simp only [resolve, invoke, builtin, Sem.run_bind, Sem.run_pure, Result.andThen_ok, List.map_toArray, List.map_cons, List.map_nil, eval_tmp r1, eval_tmp r2, hr1]
            rw [← hcc]
            show ZaI _ _ _ _ _ _ _ W5 a0 (mark f 5) ((ZaC a0 u7 u43 u44 u45 u46 u47 u48 u49 u50 u51 u52).put (some 48) _) _
            rw [ZaC_put48]
            exact ZaI.at_ _ _ _ _ _ _ _ _ _ _ _ _ (NE 5 11 (by decide) h11) (ZaAt_5 H hbs hb1 (fun _ => (strip_kS (ok' := fun _ => False) ho3).rd (fun _ h => h.elim) (fun _ h => h)))
          · have ho2 := ho
            simp only [List.getElem?_toArray, List.getElem?_cons_succ, List.getElem?_cons_zero, Option.some.injEq] at ho2
            subst ho2
            refine wpOp_plain ho rfl ?_
            have r1 := ((ZaC_other a0 u7 u43 u44 u45 u46 u47 u48 u49 u50 u51 u52 6 (by decide)).trans T2.out.2.1)
            generalize hcc : ZaC a0 u7 u43 u44 u45 u46 u47 u48 u49 u50 u51 u52 = ac at r1
            unfold Oper.wp execOp
            go_simp
            rw [← hcc]
            show ZaI _ _ _ _ _ _ _ W5 a0 (mark f 6) ((ZaC a0 u7 u43 u44 u45 u46 u47 u48 u49 u50 u51 u52).put (some 49) _) _
            rw [ZaC_put49]
            exact ZaI.at_ _ _ _ _ _ _ _ _ _ _ _ _ (NE 6 11 (by decide) h11) (ZaAt_6 H hbs (Below.refl W.heap.size W) (fun _ => rfl))
          · have ho2 := ho
            simp only [List.getElem?_toArray, List.getElem?_cons_succ, List.getElem?_cons_zero, Option.some.injEq] at ho2
            subst ho2
            refine wpOp_plain ho rfl ?_
            have r1 := (ZaC_get49 a0 u7 u43 u44 u45 u46 u47 u48 u49 u50 u51 u52 (by rw [T2.out.2.2]; decide)).trans (congrArg some (H.out.y (he ⟨6, .data⟩ (by simp) rfl)))
            have c0 := (H.out.bel.cell (p := ⟨w4.heap.size, 1, none⟩) hXr).trans YR.out.2
            generalize hcc : ZaC a0 u7 u43 u44 u45 u46 u47 u48 u49 u50 u51 u52 = ac at r1
            unfold Oper.wp execOp
            go_simp
            rw [← hcc]
            show ZaI _ _ _ _ _ _ _ W5 a0 (mark f 7) ((ZaC a0 u7 u43 u44 u45 u46 u47 u48 u49 u50 u51 u52).put (some 50) _) _
            rw [ZaC_put50]
            exact ZaI.at_ _ _ _ _ _ _ _ _ _ _ _ _ (NE 7 11 (by decide) h11) (ZaAt_7 H hbs (Below.refl W.heap.size W) (fun _ => rfl))
          · have ho2 := ho
            simp only [List.getElem?_toArray, List.getElem?_cons_succ, List.getElem?_cons_zero, Option.some.injEq] at ho2
            subst ho2
            refine wpOp_plain ho rfl ?_
            have hs := H.out.s (he ⟨5, .data⟩ (by simp) rfl)
            obtain ⟨A5, k5, e5⟩ : ∃ A k, u48 = .slice A (r.name).length k := ⟨_, _, hs.choose_spec.choose_spec.1⟩
            have r1 := (ZaC_get48 a0 u7 u43 u44 u45 u46 u47 u48 u49 u50 u51 u52 (by rw [T2.out.2.2]; decide)).trans (congrArg some e5)
            have r2 := (ZaC_get50 a0 u7 u43 u44 u45 u46 u47 u48 u49 u50 u51 u52 (by rw [T2.out.2.2]; decide)).trans (congrArg some (H.out.t (he ⟨7, .data⟩ (by simp) rfl)))
            rw [e5] at hs
            generalize hcc : ZaC a0 u7 u43 u44 u45 u46 u47 u48 u49 u50 u51 u52 = ac at r1 r2
            unfold Oper.wp execOp
            go_simp
            rw [← hcc]
            show ZaI _ _ _ _ _ _ _ W5 a0 (mark f 8) ((ZaC a0 u7 u43 u44 u45 u46 u47 u48 u49 u50 u51 u52).put (some 51) _) _
            rw [ZaC_put51]
            exact ZaI.at_ _ _ _ _ _ _ _ _ _ _ _ _ (NE 8 11 (by decide) h11) (ZaAt_8 H hbs (Below.refl W.heap.size W) (fun _ => ⟨_, rfl, ⟨_, rfl, hs, HT.out, (by show R64 1; unfold R64; omega)⟩⟩))
          · have ho2 := ho
            simp only [List.getElem?_toArray, List.getElem?_cons_succ, List.getElem?_cons_zero, Option.some.injEq] at ho2
            subst ho2
            refine wpOp_plain ho rfl ?_
            obtain ⟨c1, e1, hk1⟩ := H.out.o (he ⟨1, .data⟩ (by simp) rfl)
            obtain ⟨c2, e2, hk2⟩ := H.out.q (he ⟨8, .data⟩ (by simp) rfl)
            have r1 := (ZaC_get44 a0 u7 u43 u44 u45 u46 u47 u48 u49 u50 u51 u52 (by rw [T2.out.2.2]; decide)).trans (congrArg some e1)
            have r2 := (ZaC_get51 a0 u7 u43 u44 u45 u46 u47 u48 u49 u50 u51 u52 (by rw [T2.out.2.2]; decide)).trans (congrArg some e2)
            have hc := zans_calls z c1 _ c2 W (kZ.mono (fun _ _ => trivial) hk1) (kQ.mono (fun _ _ => trivial) hk2)
            clear e1 e2
            generalize hcc : ZaC a0 u7 u43 u44 u45 u46 u47 u48 u49 u50 u51 u52 = ac at r1 r2
            unfold Oper.wp execOp
            go_simp
            refine hc.mono ?_
            rintro e w1 ⟨m, hm, c3, rfl, hk3, hb1⟩
            rw [← hcc]
            show ZaI _ _ _ _ _ _ _ W5 a0 (mark f 9) ((ZaC a0 u7 u43 u44 u45 u46 u47 u48 u49 u50 u51 u52).put (some 52) _) _
            rw [ZaC_put52]
            exact ZaI.at_ _ _ _ _ _ _ _ _ _ _ _ _ (NE 9 11 (by decide) h11) (ZaAt_9 H hbs hb1 (fun _ => ⟨m, c3, rfl, hm, kM.mono (fun k hk => ⟨Nat.le_trans hbs hk, fun h4 M hM => ptr_ne (H.out.v ((mark_ne' (f := f) (i := 9) (j := 10) (by decide)).symm.trans h4)) hM hk⟩) hk3⟩))
          · have ho2 := ho
            simp only [List.getElem?_toArray, List.getElem?_cons_succ, List.getElem?_cons_zero, Option.some.injEq] at ho2
            subst ho2
            refine wpOp_plain ho rfl ?_
            generalize hcc : ZaC a0 u7 u43 u44 u45 u46 u47 u48 u49 u50 u51 u52 = ac
            unfold Oper.wp execOp
            go_simp
            rw [← hcc]
            show ZaI _ _ _ _ _ _ _ W5 a0 (mark f 10) ((ZaC a0 u7 u43 u44 u45 u46 u47 u48 u49 u50 u51 u52).put (some 7) _) _
            rw [ZaC_put7]
            exact ZaI.at_ _ _ _ _ _ _ _ _ _ _ _ _ (NE 10 11 (by decide) h11) (ZaAt_10 H hbs (below_alloc (Below.refl W.heap.size W) _) rfl (fun _ => ⟨_, rfl, hbs, by simp, there_new W _ _⟩))
          · have ho2 := ho
            simp only [List.getElem?_toArray, List.getElem?_cons_succ, List.getElem?_cons_zero, Option.some.injEq] at ho2
            subst ho2
            have h10 := he ⟨10, .data⟩ (by simp) rfl
            obtain ⟨m, c, e3, hm, hk⟩ := H.out.a (he ⟨9, .data⟩ (by simp) rfl)
            obtain ⟨M, e1, hM1, hM2, ht1⟩ := H.out.v h10
            have r1 := (ZaC_get7 a0 u7 u43 u44 u45 u46 u47 u48 u49 u50 u51 u52 (by rw [T2.out.2.2]; decide)).trans (congrArg some e1)
            have r2 := (ZaC_get52 a0 u7 u43 u44 u45 u46 u47 u48 u49 u50 u51 u52 (by rw [T2.out.2.2]; decide)).trans (congrArg some e3)
            have hcl := kM.len hk
            have hcl' : c.toArray.size = 14 := by rw [List.size_toArray]; exact hcl
            have ht' : W.there M 0 c.toArray.size := by rw [hcl']; exact ht1
            have hi' : (Try.prog.info? 35).map (·.size) = some c.toArray.size := by rw [hcl']; exact infoM
            refine wpOp_store_mid ho rfl 35 (.tmp 7) (.tmp 52) rfl M 0 c.toArray (eval_tmp r1) (eval_tmp r2) ht' hi' (all_oneCell_toArray (kM.one hk)) ?_
            refine ZaI_nodst rfl ?_
            exact ZaI.fin u7 u43 u44 u45 u46 u47 u48 u49 u50 u51 u52 _ mark_self (Za_endof H.out.bel e1 hM1 hM2 hm (kM.mono (fun k hk => ⟨hk.1, hk.2 h10 M e1⟩) hk) ht1 rfl)
      · rename_i KK hKK
        intro f a W hall hI
        obtain ⟨u7, u43, u44, u45, u46, u47, u48, u49, u50, u51, u52, rfl, HE⟩ := ZaI_end hI (hall 11 (by decide))
        clear hall hI
        have BM := Aside0.mk HE.bel
        obtain ⟨M, m, c, rfl, hnM, hMl, hm, hkm, hrm⟩ := HE.res
        clear HE
        have HKM := Aside0.mk hkm
        have HRM := Aside0.mk hrm
        have HM := Aside0.mk hm
        clear hkm hrm hm
        refine hKK _ W ?_
        (try simp only [ZaC, Act.put, List.setIfInBounds_toArray, List.set_cons_zero, List.set_cons_succ])
        have BWW : Aside0 (Below w.heap.size w W) := ⟨B05.out.trans (BM.out.mono B05.out.size)⟩
        have KZW := Aside0.mk (K_below HZ.out BWW.out)
        have KNW := Aside0.mk (KN5.out.below pS BM.out)
        have s0 := (BM.out.cell (p := ⟨w4.heap.size, 0, none⟩) hXr).trans YR.out.1
        have hlp4 : wp.heap.size < w4.heap.size := Nat.lt_of_lt_of_le hlp HB4.out.size
        have hlp5 : wp.heap.size < W5.heap.size := Nat.lt_trans hlp4 hXr
        have p0 := (BM.out.cell (p := ⟨wp.heap.size, 0, none⟩) hlp5).trans ((B45.out.cell (p := ⟨wp.heap.size, 0, none⟩) hlp4).trans ((HB4.out.cell (p := ⟨wp.heap.size, 0, none⟩) hlp).trans HPZ.out.1))
        have p1 := (BM.out.cell (p := ⟨wp.heap.size, 1, none⟩) hlp5).trans ((B45.out.cell (p := ⟨wp.heap.size, 1, none⟩) hlp4).trans ((HB4.out.cell (p := ⟨wp.heap.size, 1, none⟩) hlp).trans HPZ.out.2.1))
        have HPW := Aside0.mk (And.intro p0 (And.intro p1 s0))
        go_wp2_with fail
        refine (rcut_calls z _ _ r.name (fun _ => True) W KZW.out KNW.out).mono ?_
        rintro e w6 ⟨hb6, hg6⟩
        have HB6 := Aside0.mk hb6
        clear hb6 p0 p1 s0
        have BW6 : Aside0 (Below w.heap.size w w6) := ⟨BWW.out.trans (HB6.out.mono BWW.out.size)⟩
        obtain ⟨A8m, k8m, A9m, k9m, A10m, k10m, A11m, k11m, hcm, _, ha9, _⟩ := kM_form HKM.out
        have HA9 := Aside0.mk ha9
        have m3 : W.cell? ⟨M, 3, none⟩ = some (.bool m.aa) := by
          have := HRM.out 3 (.bool m.aa) (by rw [hcm]; rfl)
          simpa using this
        have m7 : W.cell? ⟨M, 7, none⟩ = some (.int .i64 m.rcode) := by
          have := HRM.out 7 (.int .i64 m.rcode) (by rw [hcm]; rfl)
          simpa using this
        have m9 : W.cell? ⟨M, 9, none⟩ = some (.slice A9m m.ans.length k9m) := by
          have := HRM.out 9 (.slice A9m m.ans.length k9m) (by rw [hcm]; rfl)
          simpa using this
        have HMC := Aside0.mk (And.intro m3 (And.intro m7 m9))
        have n3 := (HB6.out.cell (p := ⟨M, 3, none⟩) hMl).trans m3
        have n7 := (HB6.out.cell (p := ⟨M, 7, none⟩) hMl).trans m7
        have n9 := (HB6.out.cell (p := ⟨M, 9, none⟩) hMl).trans m9
        have n0 := (HB6.out.cell (p := ⟨w4.heap.size, 0, none⟩) (Nat.lt_of_lt_of_le hXr BM.out.size)).trans HPW.out.2.2
        have n1 := (HB6.out.cell (p := ⟨w4.heap.size, 1, none⟩) (Nat.lt_of_lt_of_le hXr BM.out.size)).trans ((BM.out.cell (p := ⟨w4.heap.size, 1, none⟩) hXr).trans YR.out.2)
        clear m3 m7 m9 hcm ha9
        have LAW := Aside0.mk (asked_law HS.out HMEM.out HM.out)
        cases hc : zcut z r.name with
        | some cc =>
          rw [hc] at hg6
          obtain ⟨v6, rfl, _⟩ := hg6
          have hlw2 := LAW.out.1 cc hc
          rw [hlw2.1] at n3
          rw [hlw2.2, List.length_nil] at n9
          clear hlw2
          go_wp2_with fail
          go_ret
          exact ⟨rfl, BW6.out⟩
        | none =>
          rw [hc] at hg6
          subst hg6
          have hlw2 := LAW.out.2 hc
          have HR1 : Aside0 (rset m.ans r.name r.typ = rset z.recs r.name r.typ) := ⟨by rw [hlw2.1]; exact rset_zof _ _ _⟩
          rw [hlw2.2.1] at n3
          rw [hlw2.2.2] at n7
          clear hlw2 hc
          have hzW : w.heap.size < W.heap.size := Nat.lt_of_lt_of_le hXz BM.out.size
          have hpW : wp.heap.size < W.heap.size := Nat.lt_of_lt_of_le hlp5 BM.out.size
          have zv0 := (HB6.out.cell (p := ⟨w.heap.size, 0, none⟩) hzW).trans ((BM.out.cell (p := ⟨w.heap.size, 0, none⟩) hXz).trans YZ.out.1)
          have zv1 := (HB6.out.cell (p := ⟨w.heap.size, 1, none⟩) hzW).trans ((BM.out.cell (p := ⟨w.heap.size, 1, none⟩) hXz).trans YZ.out.2)
          have pv0 := (HB6.out.cell (p := ⟨wp.heap.size, 0, none⟩) hpW).trans HPW.out.1
          have pv1 := (HB6.out.cell (p := ⟨wp.heap.size, 1, none⟩) hpW).trans HPW.out.2.1
          have ST6 := Aside0.mk (And.intro (Below.refl w6.heap.size w6) (And.intro zv0 (And.intro zv1 (And.intro pv0 (And.intro pv1 (And.intro n0 (And.intro n1 (And.intro n3 n7))))))))
          have hcall := rset_calls _ _ m.ans r.name r.typ w6 (HA9.out.any.below pR HB6.out) (KNW.out.below pS HB6.out)
          rw [HR1.out] at hcall
          have HC1 := Aside0.mk hcall
          have HC2 := Aside0.mk (fun (W2 : World) (hB : Below w.heap.size w W2) (hN : kS.Rd W2 (fun _ => True) (.slice A0 r.name.length k0) r.name) => rset_calls (.slice (some ad) z.recs.length cr) _ z.recs r.name r.typ W2 (HRR.out.below pR hB) hN)
          clear hcall HR1
          generalize rset z.recs r.name r.typ = RS at HC1 HC2
          obtain ⟨rs, rt⟩ := RS
          go_wp2_with fail
          refine HC1.out.mono ?_
          rintro e w7 ⟨v7, rfl, ho7, hb7⟩
          have HO7 : Aside0 (kD.Own 42 w7 w6.heap.size (fun k => k < w6.heap.size) v7 rs) := ⟨ho7⟩
          obtain ⟨C7, c7, rfl, _⟩ := HO7.out.slice_
          have ST7 := Aside0.mk (keep8 hb7 ST6.out)
          clear ho7 hb7 zv0 zv1 pv0 pv1 n0 n1 n3 n7 n9 HC1
          obtain ⟨B7, zv0, zv1, pv0, pv1, n0, n1, n3, n7⟩ := ST7.out
          have BW7 : Aside0 (Below w.heap.size w w7) := ⟨BW6.out.trans (B7.mono BW6.out.size)⟩
          have BV7 : Aside0 (Below W.heap.size W w7) := ⟨HB6.out.trans (B7.mono HB6.out.size)⟩
          clear B7
          go_wp2_with fail
          refine (HC2.out w7 BW7.out (KNW.out.below pS BV7.out)).mono ?_
          rintro e w8 ⟨v8, rfl, ho8, hb8⟩
          have HO8 : Aside0 (kD.Own 42 w8 w7.heap.size (fun k => k < w7.heap.size) v8 rs) := ⟨ho8⟩
          have HO7b := Aside0.mk (HO7.out.below hb8)
          obtain ⟨C8, c8', rfl, _⟩ := HO8.out.slice_
          have ST8 := Aside0.mk (keep8 hb8 ST7.out)
          have BV8 : Aside0 (Below W.heap.size W w8) := ⟨BV7.out.trans (hb8.mono BV7.out.size)⟩
          clear ho8 hb8 zv0 zv1 pv0 pv1 n0 n1 n3 n7 HC2
          go_wp2_with fail
          refine (sameset_calls _ _ rs w8 (HO7b.out.rd (fun _ _ => trivial) (fun _ _ => trivial)) (HO8.out.rd (fun _ _ => trivial) (fun _ _ => trivial))).mono ?_
          rintro e w9 ⟨rfl, hb9⟩
          have ST9 := Aside0.mk (keep8 hb9 ST8.out)
          have BV9 : Aside0 (Below W.heap.size W w9) := ⟨BV8.out.trans (hb9.mono BV8.out.size)⟩
          have BW9 : Aside0 (Below w.heap.size w w9) := ⟨BWW.out.trans (BV9.out.mono BWW.out.size)⟩
          clear hb9
          obtain ⟨_, zv0, zv1, pv0, pv1, n0, n1, n3, n7⟩ := ST9.out
          have OL9 := Aside0.mk (own_box (d := kS) (e := 9) (w := w9) (ok := fun _ => True) (p := NOB) (cs := [.string NOB]) ⟨rfl, nob_sz⟩ (by decide))
          have RN9 : Aside0 (kS.Rd (w9.alloc (.cells #[.string NOB] 9)) (fun k => True ∧ some k ≠ (Value.slice (some ⟨w9.heap.size, 0, none⟩) 1 1).ownBlock) (.slice A0 r.name.length k0) r.name) := ⟨(((KNW.out.low pS).below pS BV9.out).below pS (below_alloc (Below.refl _ _) _)).mono (fun k hk => ⟨trivial, fun he => by
            have h1 : k = w9.heap.size := by injection he
            have h2 := hk.2
            have h3 := BV9.out.size
            omega⟩)⟩
          have LB9 : Aside0 (([NOB].length + r.name.length) * kS.bytes ≤ B47) := ⟨by
            have h1 := mem_short HS.out HMEM.out
            have h2 : kS.bytes = 16 := rfl
            rw [h2]
            unfold B47
            simp only [List.length_cons, List.length_nil]
            omega⟩
          have BA9 : Aside0 (Below w9.heap.size w9 (w9.alloc (.cells #[.string NOB] 9))) := ⟨below_alloc (Below.refl _ _) _⟩
          have nn0 : (w9.alloc (.cells #[.string { data := #[110, 111, 98, 111, 100, 121, 45, 105, 115, 45, 99, 97, 108, 108, 101, 100, 45, 115, 111] }] 9)).cell? ⟨w4.heap.size, 0, none⟩ = some (.slice A0 r.name.length k0) := (BA9.out.cell (p := ⟨w4.heap.size, 0, none⟩) (World.block_lt_of_cell? w9 _ n0)).trans n0
          go_upto_region 14 with (at_builtin; refine Own.append_row kS w9.heap.size rfl (.tmp 109) (.tmp 111) 22 9 (.string ⟨#[]⟩) rfl Try.underlying22 info_s rfl (by decide) (by decide) _ _ [NOB] r.name (fun _ => True) rfl rfl OL9.out RN9.out BA9.out BA9.out.size LB9.out ?_; intro v10 w10 ho10 hb10 hg10 ha10)
          generalize hnm : [NOB] ++ r.name = nm at ho10
          have HNM := Aside0.mk hnm
          have RN10 : Aside0 (kS.Rd w10 (fun _ => True) v10 nm) := ⟨ho10.rd (fun _ _ => trivial) (fun _ _ => trivial)⟩
          obtain ⟨C10, c10, rfl, _⟩ := ho10.slice_
          have ST10 := Aside0.mk (keep8 hb10 ST9.out)
          have BV10 : Aside0 (Below W.heap.size W w10) := ⟨BV9.out.trans (hb10.mono BV9.out.size)⟩
          have BW10 : Aside0 (Below w.heap.size w w10) := ⟨BWW.out.trans (BV10.out.mono BWW.out.size)⟩
          clear ho10 hb10 hg10 ha10 hnm nn0 zv0 zv1 pv0 pv1 n0 n1 n3 n7
          obtain ⟨_, zv0, zv1, pv0, pv1, n0, n1, n3, n7⟩ := ST10.out
          cases hsn : nSound nm with
          | false =>
            have HSN := Aside0.mk hsn
            clear hsn
            go_wp2_with fail
            refine (rsound_calls_v false _ nm w10 RN10.out HSN.out).mono ?_
            rintro e w11 ⟨rfl, rfl⟩
            go_wp2_with fail
            go_ret
            exact ⟨rfl, BW10.out⟩
          | true =>
            have HSN := Aside0.mk hsn
            clear hsn
            go_wp2_with fail
            refine (rsound_calls_v true _ nm w10 RN10.out HSN.out).mono ?_
            rintro e w11 ⟨rfl, rfl⟩
            go_wp2_with fail
            cases hth : z.recs.any fun o => nUnder o.name nm with
            | true =>
              have HTH := Aside0.mk hth
              clear hth
              refine (bv (rthere_calls z _ _ nm w10 (K_below HZ.out BW10.out) RN10.out) HTH.out).mono ?_
              rintro e w11 ⟨rfl, hb11⟩
              have BF : Aside0 (Below w.heap.size w w11) := ⟨BW10.out.trans (hb11.mono BW10.out.size)⟩
              clear hb11
              go_wp2_with fail
              go_ret
              exact ⟨rfl, BF.out⟩
            | false =>
              have HTH := Aside0.mk hth
              clear hth
              refine (bv (rthere_calls z _ _ nm w10 (K_below HZ.out BW10.out) RN10.out) HTH.out).mono ?_
              rintro e w11 ⟨rfl, hb11⟩
              have ST11 := Aside0.mk (keep8 hb11 ST10.out)
              have RN11 := Aside0.mk (RN10.out.below pS hb11)
              have BW11 : Aside0 (Below w.heap.size w w11) := ⟨BW10.out.trans (hb11.mono BW10.out.size)⟩
              clear hb11 zv0 zv1 pv0 pv1 n0 n1 n3 n7
              obtain ⟨_, zv0, zv1, pv0, pv1, n0, n1, n3, n7⟩ := ST11.out
              go_wp2_with fail
              refine (lawown_calls z _ w11 (K_below HZ.out BW11.out)).mono ?_
              rintro e w12 ⟨c12, rfl, hk12, hb12⟩
              have HK12 := Aside0.mk hk12
              have ST12 := Aside0.mk (keep8 hb12 ST11.out)
              have RN12 := Aside0.mk (RN11.out.below pS hb12)
              have BW12 : Aside0 (Below w.heap.size w w12) := ⟨BW11.out.trans (hb12.mono BW11.out.size)⟩
              clear hb12 hk12 zv0 zv1 pv0 pv1 n0 n1 n3 n7
              obtain ⟨_, zv0, zv1, pv0, pv1, n0, n1, n3, n7⟩ := ST12.out
              go_wp2_with fail
              refine (zans_calls z c12 ⟨nm, 1, 1⟩ [.slice C10 nm.length c10, .int .i64 1, .int .i64 1] w12 (kZ.mono (fun _ _ => trivial) HK12.out) ⟨_, rfl, RN12.out, (by show R64 1; unfold R64; omega), (by show R64 1; unfold R64; omega)⟩).mono ?_
              rintro e w13 ⟨km, hkm, c13, rfl, hk13, hb13⟩
              have HKA := Aside0.mk hkm
              have ST13 := Aside0.mk (keep8 hb13 ST12.out)
              have RN13 := Aside0.mk (RN12.out.below pS hb13)
              have BW13 : Aside0 (Below w.heap.size w w13) := ⟨BW12.out.trans (hb13.mono BW12.out.size)⟩
              obtain ⟨D8, d8', D9, d9', D10, d10', D11, d11', rfl, _, _, rb13, _⟩ := kM_form hk13
              have RB13 := Aside0.mk rb13
              clear hb13 hk13 hkm rb13 zv0 zv1 pv0 pv1 n0 n1 n3 n7
              go_upto_region 17 with (fail)
              generalize hW14 : w13.alloc (.cells #[.int .i64 km.id, .bool km.resp, .int .i64 km.opc, .bool km.aa, .bool km.tc, .bool km.rd, .bool km.ra, .int .i64 km.rcode, .slice D8 km.qs.length d8', .slice D9 km.ans.length d9', .slice D10 km.auth.length d10', .slice D11 km.extra.length d11', .bool km.edns, .int .i64 km.size] 35) = W14
              have B14 : Aside0 (Below w13.heap.size w13 W14) := ⟨by rw [← hW14]; exact below_alloc (Below.refl _ _) _⟩
              have hx14 : w13.heap.size < W14.heap.size := by rw [← hW14]; simp
              have k7 : W14.cell? ⟨w13.heap.size, 7, none⟩ = some (.int .i64 km.rcode) := by rw [← hW14, cellN rfl]; rfl
              have k10 : W14.cell? ⟨w13.heap.size, 10, none⟩ = some (.slice D10 km.auth.length d10') := by rw [← hW14, cellN rfl]; rfl
              have K7 := Aside0.mk (And.intro k7 k10)
              have ST14 := Aside0.mk (keep8 B14.out ST13.out)
              have BW14 : Aside0 (Below w.heap.size w W14) := ⟨BW13.out.trans (B14.out.mono BW13.out.size)⟩
              clear hW14 k7 k10
              obtain ⟨_, zv0, zv1, pv0, pv1, n0, n1, n3, n7⟩ := ST14.out
              go_wp2_with fail
              refine (rcut_calls z _ _ nm (fun _ => True) W14 (K_below HZ.out BW14.out) (RN13.out.below pS B14.out)).mono ?_
              rintro e w15 ⟨hb15, hg15⟩
              have HB15 := Aside0.mk hb15
              have BF : Aside0 (Below w.heap.size w w15) := ⟨BW14.out.trans (HB15.out.mono BW14.out.size)⟩
              clear hb15 zv0 zv1 pv0 pv1 n0 n1 n3 n7
              cases hc2 : zcut z nm with
              | some cc =>
                rw [hc2] at hg15
                obtain ⟨v15, rfl, _⟩ := hg15
                go_wp2_with fail
                go_ret
                exact ⟨rfl, BF.out⟩
              | none =>
                rw [hc2] at hg15
                subst hg15
                have LW2 := asked_none HS.out HMEM.out NOB (by have h := HNM.out; rw [show NOB :: r.name = [NOB] ++ r.name from rfl, h]; exact HSN.out) (by have h := HNM.out; rw [show NOB :: r.name = [NOB] ++ r.name from rfl, h]; exact HTH.out) (by have h := HNM.out; rw [show NOB :: r.name = [NOB] ++ r.name from rfl, h]; exact hc2) (k := km) (by have h := HNM.out; rw [show NOB :: r.name = [NOB] ++ r.name from rfl, h]; exact HKA.out)
                have k7 := (HB15.out.cell (p := ⟨w13.heap.size, 7, none⟩) hx14).trans K7.out.1
                have k10 := (HB15.out.cell (p := ⟨w13.heap.size, 10, none⟩) hx14).trans K7.out.2
                rw [LW2.1] at k7
                rw [LW2.2.1] at k10
                obtain ⟨D2, e2, he2, _, hrow2⟩ := ((RB13.out.below pR B14.out).below pR HB15.out)
                obtain ⟨rfl, rfl⟩ : D10 = D2 ∧ d10' = e2 := by injection he2 with h1 _ h3; exact ⟨h1, h3⟩
                have hl1 : 0 < km.auth.length := by rw [LW2.2.1]; decide
                obtain ⟨ae, vx, g4, g5, g6, g7, g8, rfl, hKr2, a0, a1, a2, a3, a4, a5, a6, a7, a8⟩ := cell_r hrow2 0 hl1
                have ht := LW2.2.2 _ (List.getElem?_eq_getElem hl1)
                rw [ht] at a1
                have hz0 : ae.add (0 * 9) = ae := by unfold Addr.add; simp
                rw [hz0] at a1
                clear LW2 he2 hrow2 hKr2 a0 a2 a3 a4 a5 a6 a7 a8 ht hz0 hc2
                go_wp2_with fail
                go_ret
                exact ⟨rfl, BF.out⟩
theorem zoneasked_row (z : Zone) (cz : List Value) (b : Int) (w : World) (hz : kZ.K w (fun _ => True) z cz) (hb : 0 ≤ b ∧ b ≤ 255) :
    Calls Try.prog 4 #[.agg cz.toArray, .int .u8 b] w fun e w' => e = .returned (.bool true) ∧ Below w.heap.size w w' := zoneasked_calls z cz b w hz hb.1 hb.2
end Go.Proofs.Ytkbjbkmaokebgaa.Gz

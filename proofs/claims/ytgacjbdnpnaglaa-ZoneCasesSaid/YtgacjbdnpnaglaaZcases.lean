import Derived.Test.YtgacjbdnpnaglaaZcr
set_option linter.unusedVariables false
set_option linter.unusedSimpArgs false
namespace Go.Proofs.Ytgacjbdnpnaglaa.Gz
open Go.RowKit Go.Proofs.YtgacjbdnpnaglaaW.PrintWords
open Ki
set_option maxHeartbeats 16000000 in
set_option maxRecDepth 100000 in
theorem zonecases_calls (z : Zone) (cz : List Value) (q : Qn) (cq : List Value) (w : World) (hz : kZ.K w (fun _ => True) z cz) (hq : kQ.K w (fun _ => True) q cq) :
    Calls Try.prog 5 #[.agg cz.toArray, .agg cq.toArray] w fun e w' => e = .returned (.bool true) ∧ Below w.heap.size w w' := by
  obtain ⟨An, cn, Ar, cr, rfl⟩ := kZ_form hz
  obtain ⟨vq, rfl, hqn, hqt, hqc⟩ := hq
  have HQ : Aside0 (kQ.K w (fun _ => True) q [vq, .int .i64 q.typ, .int .i64 q.cls]) := ⟨⟨_, rfl, hqn, hqt, hqc⟩⟩
  have HQN := Aside0.mk hqn
  obtain ⟨Aq, cq', rfl, _, _⟩ := hqn
  have HZ := Aside0.mk hz
  clear hz
  generalize hW0 : (w.alloc (.cells #[.slice An z.name.length cn, .slice Ar z.recs.length cr] 25)).alloc (.cells #[.slice Aq q.name.length cq', .int .i64 q.typ, .int .i64 q.cls] 27) = W0
  have HW0 := Aside0.mk hW0
  have BX : Aside0 (Below w.heap.size w W0) := ⟨by rw [← hW0]; exact below_alloc (below_alloc (Below.refl _ _) _) _⟩
  have hs0 : W0.heap.size = w.heap.size + 2 := by rw [← hW0]; simp
  have y0 : W0.cell? ⟨w.heap.size, 0, none⟩ = some (.slice An z.name.length cn) := by rw [← hW0, cellA (by simp)]; simp
  have y1 : W0.cell? ⟨w.heap.size, 1, none⟩ = some (.slice Ar z.recs.length cr) := by rw [← hW0, cellA (by simp)]; simp
  have q0 : W0.cell? ⟨w.heap.size + 1, 0, none⟩ = some (.slice Aq q.name.length cq') := by rw [← hW0, cellN (by simp)]; rfl
  have q1 : W0.cell? ⟨w.heap.size + 1, 1, none⟩ = some (.int .i64 q.typ) := by rw [← hW0, cellN (by simp)]; rfl
  have q2 : W0.cell? ⟨w.heap.size + 1, 2, none⟩ = some (.int .i64 q.cls) := by rw [← hW0, cellN (by simp)]; rfl
  have HY := Aside0.mk (And.intro y0 (And.intro y1 (And.intro q0 (And.intro q1 q2))))
  have HS0 := Aside0.mk hs0
  have hl0 : w.heap.size < W0.heap.size := by omega
  have hl1 : w.heap.size + 1 < W0.heap.size := by omega
  clear hW0 hs0
  go_enter Try.func5, Try.ntmps5
  go_wp2_with fail
  rw [HW0.out]
  refine (answers_calls W0).mono ?_
  rintro e w1 ⟨rfl, hb1⟩
  have HB1 := Aside0.mk hb1
  obtain ⟨bc, bf⟩ := bcell hb1
  clear hb1
  go_wp2_with fail
  refine (light_calls z _ w1 (K_below HZ.out (BX.out.trans (HB1.out.mono BX.out.size)))).mono ?_
  rintro e w2 ⟨b2, rfl, hb2⟩
  have HB2 := Aside0.mk (HB1.out.trans (hb2.mono HB1.out.size))
  clear hb2 bc bf
  obtain ⟨bc, bf⟩ := bcell HB2.out
  cases b2 with
  | false =>
    go_wp2_with fail
    refine (answers_calls _).mono ?_
    rintro e wf ⟨rfl, hbf⟩
    have HBF := Aside0.mk ((BX.out.trans (HB2.out.mono BX.out.size)).trans (hbf.mono (BX.out.trans (HB2.out.mono BX.out.size)).size))
    clear hbf
    go_wp2_with fail
    go_ret
    exact ⟨rfl, HBF.out⟩
  | true =>
    by_cases n1 : 130 < q.name.length
    · skip
      go_wp2_with fail
      refine (answers_calls _).mono ?_
      rintro e wf ⟨rfl, hbf⟩
      have HBF := Aside0.mk ((BX.out.trans (HB2.out.mono BX.out.size)).trans (hbf.mono (BX.out.trans (HB2.out.mono BX.out.size)).size))
      clear hbf
      go_wp2_with fail
      go_ret
      exact ⟨rfl, HBF.out⟩
    have S130 := Aside0.mk n1
    go_upto_region 5 with (fail)
    generalize hW3 : w2.alloc (.cells #[.slice none 0 0, .int .i64 q.typ, .int .i64 q.cls] 27) = W3
    have hl2 : w.heap.size < w2.heap.size := Nat.lt_of_lt_of_le hl0 HB2.out.size
    have hl3 : w.heap.size + 1 < w2.heap.size := Nat.lt_of_lt_of_le hl1 HB2.out.size
    have BW3 : Aside0 (Below w.heap.size w W3) := ⟨by rw [← hW3]; exact (BX.out.trans (HB2.out.mono BX.out.size)).trans ((below_alloc (Below.refl _ _) _).mono (BX.out.trans (HB2.out.mono BX.out.size)).size)⟩
    have B23 : Aside0 (Below w2.heap.size w2 W3) := ⟨by rw [← hW3]; exact below_alloc (Below.refl _ _) _⟩
    have U0 : W3.cell? ⟨w2.heap.size, 0, none⟩ = some (.slice none 0 0) := by rw [← hW3, cellN rfl]; rfl
    have UA : Aside0 (UpAt q w2.heap.size W3 W3 0 (.slice none 0 0)) := ⟨{ bel := Below.refl _ _, lt := by rw [← hW3]; simp, c1 := (by rw [← hW3, cellN rfl]; rfl), c2 := (by rw [← hW3, cellN rfl]; rfl), fz := (fun o => by rw [← hW3, frozenN rfl]), own := Own.nil _ _ _ _ _ }⟩
    have YZ : Aside0 (W3.cell? ⟨w.heap.size, 0, none⟩ = some (.slice An z.name.length cn) ∧ W3.cell? ⟨w.heap.size, 1, none⟩ = some (.slice Ar z.recs.length cr)) := ⟨(B23.out.cell (p := ⟨w.heap.size, 0, none⟩) hl2).trans ((HB2.out.cell (p := ⟨w.heap.size, 0, none⟩) hl0).trans HY.out.1), (B23.out.cell (p := ⟨w.heap.size, 1, none⟩) hl2).trans ((HB2.out.cell (p := ⟨w.heap.size, 1, none⟩) hl0).trans HY.out.2.1)⟩
    have YQ : Aside0 (W3.cell? ⟨w.heap.size + 1, 0, none⟩ = some (.slice Aq q.name.length cq') ∧ W3.cell? ⟨w.heap.size + 1, 1, none⟩ = some (.int .i64 q.typ) ∧ W3.cell? ⟨w.heap.size + 1, 2, none⟩ = some (.int .i64 q.cls)) := ⟨(B23.out.cell (p := ⟨w.heap.size + 1, 0, none⟩) hl3).trans ((HB2.out.cell (p := ⟨w.heap.size + 1, 0, none⟩) hl1).trans HY.out.2.2.1), (B23.out.cell (p := ⟨w.heap.size + 1, 1, none⟩) hl3).trans ((HB2.out.cell (p := ⟨w.heap.size + 1, 1, none⟩) hl1).trans HY.out.2.2.2.1), (B23.out.cell (p := ⟨w.heap.size + 1, 2, none⟩) hl3).trans ((HB2.out.cell (p := ⟨w.heap.size + 1, 2, none⟩) hl1).trans HY.out.2.2.2.2)⟩
    have HQ' := Aside0.mk (And.intro hqt hqc)
    clear hW3 bc bf y0 y1 q0 q1 q2
    go_wp2_with fail
    go_loopg [6] q.name.length (fun gg s6 wr => ∃ (i : Nat) (v : Value), i ≤ q.name.length ∧ q.name.length - i ≤ gg ∧ s6 = .int .i64 i ∧ wr.cell? ⟨w2.heap.size, 0, none⟩ = some v ∧ Aside0 (UpAt q w2.heap.size W3 wr i v))
    case atStart => exact ⟨0, _, Nat.zero_le _, by omega, rfl, U0, UA⟩
    case round =>
      obtain ⟨i, v, hi, hg, rfl, cU, HU⟩ := hrel
      obtain ⟨wo, rfl⟩ : ∃ wo : World, wo = wr := ⟨_, rfl⟩
      clear U0
      have BWo : Aside0 (Below w.heap.size w wo) := ⟨BW3.out.trans ((HU.out.bel.mono (Nat.le_of_lt hl2)))⟩
      have yq := (HU.out.bel.cell (p := ⟨w.heap.size + 1, 0, none⟩) hl3).trans YQ.out.1
      have hUo := HU.out.lt
      by_cases hil : i < q.name.length
      · have HIL := Aside0.mk hil
        obtain ⟨Aq2, cq2, he2, _, hrow2⟩ := HQN.out.below pS BWo.out
        obtain ⟨rfl, rfl⟩ : Aq = Aq2 ∧ cq' = cq2 := by injection he2 with h1 _ h3; exact ⟨h1, h3⟩
        obtain ⟨ad, rfl, es⟩ := cell_s hrow2 i hil
        have hsz : Sz q.name[i] := rd_sz HQN.out _ (List.getElem_mem _)
        have HTK : Aside0 ((q.name.take (i + 1)).map Up.ups = (q.name.take i).map Up.ups ++ [Up.ups q.name[i]]) := ⟨by rw [List.take_succ_eq_append_getElem hil, List.map_append]; rfl⟩
        have HLEN : Aside0 (((q.name.take i).map Up.ups).length + 1 ≤ 200) := ⟨by rw [List.length_map, List.length_take]; have := S130.out; omega⟩
        have HOW := Aside0.mk HU.out.own
        generalize (q.name.take i).map Up.ups = acc at HTK HLEN HOW
        generalize q.name[i] = s at es hsz HTK
        have hs63 : s.size ≤ 9223372036854775807 := by unfold Sz B47 at hsz; omega
        have hcv := fun W => Lib.run_convert_string_bytes (P := Try.prog) W 9 39 5 s Try.underlying9 Try.underlying39 Try.underlying5
        have i0 : (0 : Int) ≤ (i : Int) := by omega
        have i1 : (i : Int) < (q.name.length : Int) := by omega
        have CU := Aside0.mk cU
        have HSZ := Aside0.mk hsz
        clear he2 hrow2 hsz cU
        go_wp2_with fail
        go_loopg [8] s.size (fun gg s8 wr => ∃ k : Nat, k ≤ s.size ∧ s.size - k ≤ gg ∧ s8 = .int .i64 k ∧ Aside0 (∃ M, Up.Upp s wr wo.heap.size M k) ∧ Aside0 (Below wo.heap.size wo wr))
        case atStart => exact ⟨0, Nat.zero_le _, by omega, rfl, ⟨Up.Upp.start s wo⟩, ⟨bytes_below (Below.refl _ _) (Nat.le_refl _) _ _⟩⟩
        case round =>
          obtain ⟨k, hk, hgk, rfl, ⟨M, HL⟩, HBI⟩ := hrel
          have HL' : Aside0 (Up.Upp s wr wo.heap.size M k) := ⟨HL⟩
          clear HL hcv es
          by_cases hlk : k < s.size
          · obtain ⟨c1, f1⟩ := HL'.out.cell hlk
            generalize hcc : s.data.toList.getD k 0 = cc at c1
            have Hcc : Hid (s.data.toList.getD k 0 = cc) := hcc
            have HLK := Aside0.mk hlk
            clear hcc
            have hcb := cc.toNat_lt
            go_wp2_with fail
            all_goals go_roundg (s.size - (k + 1))
            all_goals first
              | (case measure => have := HLK.out; omega)
              | skip
            · refine ⟨k + 1, by have := HLK.out; omega, by omega, by go_num, ⟨M, HL'.out.store HLK.out ?_⟩, ⟨HBI.out.setCell (Nat.le_refl _) _⟩⟩
              rw [show s.data.toList.getD k 0 = cc from Hcc]
              have := Up.upc_yes cc (by omega)
              omega
            · refine ⟨k + 1, by have := HLK.out; omega, by omega, by go_num, ⟨M, HL'.out.skip HLK.out ?_⟩, HBI⟩
              rw [show s.data.toList.getD k 0 = cc from Hcc]
              exact Up.upc_no cc (by omega)
            · refine ⟨k + 1, by have := HLK.out; omega, by omega, by go_num, ⟨M, HL'.out.skip HLK.out ?_⟩, HBI⟩
              rw [show s.data.toList.getD k 0 = cc from Hcc]
              exact Up.upc_no cc (by omega)
          · have hks : k = s.size := by omega
            have HLS : Aside0 (Up.Upp s wr wo.heap.size M s.size) := ⟨hks ▸ HL'.out⟩
            clear hks HL'
            have hst := fun c => HLS.out.str c
            have cU' := (HBI.out.cell (p := ⟨w2.heap.size, 0, none⟩) hUo).trans CU.out
            have HP : Aside0 (kS.K wr (fun k => k ≠ w2.heap.size ∧ some k ≠ v.ownBlock) (Up.ups s) [.string (Up.ups s)]) := ⟨⟨rfl, by have := HSZ.out; unfold Sz at this ⊢; rw [Up.ups_size]; exact this⟩⟩
            have HOW2 := Aside0.mk (HOW.out.below HBI.out)
            have hb0 : w2.heap.size + 1 ≤ wr.heap.size := Nat.le_trans hUo HBI.out.size
            have HLB : Aside0 ((acc.length + 1) * 16 ≤ B47) := ⟨by have := HLEN.out; unfold B47; omega⟩
            go_wp2_with (at_builtin; refine Own.append kS (w0 := wr) (w2.heap.size + 1) rfl (.tmp 67) (.tmp 70) 22 9 (.string ⟨#[]⟩) rfl Try.underlying22 info_s rfl (by decide) (by decide) _ _ _ _ _ rfl rfl HP.out HOW2.out (Below.refl _ _) hb0 HLB.out ?_; intro v4 w4 ho4 hb4 hg4 ha4; generalize acc ++ [Up.ups s] = acc2 at ho4 HTK; obtain ⟨A4, k4, rfl, _⟩ := ho4.slice_; have c4 := (hb4.cell (p := ⟨w2.heap.size, 0, none⟩) (Nat.lt_succ_self _)).trans cU'; have f4 := (hb4.frozen (p := ⟨w2.heap.size, 0, none⟩) (Nat.lt_succ_self _)).trans ((HBI.out.frozen (p := ⟨w2.heap.size, 0, none⟩) hUo).trans (HU.out.fz 0)))
            go_roundg (q.name.length - (i + 1))
            case measure => have := HIL.out; omega
            case rel => exact ⟨i + 1, _, by have := HIL.out; omega, by omega, by go_num, set_same c4, ⟨HU.out.next HBI.out hb4 (by rw [HTK.out]; exact ho4)⟩⟩
      · have hia : i = q.name.length := by omega
        have HK := Aside0.mk hia
        clear hia
        have hown := HU.out.own
        rw [HK.out, List.take_length] at hown
        have HUN : Aside0 ((q.name.map Up.ups).map Nm.lows = q.name.map Nm.lows) := ⟨Up.map_ups _⟩
        generalize q.name.map Up.ups = un at hown HUN
        obtain ⟨u, hu⟩ : ∃ u : Qn, u = ⟨un, q.typ, q.cls⟩ := ⟨_, rfl⟩
        have HUD := Aside0.mk hu
        obtain ⟨Au, ku, rfl, _⟩ := hown.slice_
        have KUo : Aside0 (kQ.K wo (fun _ => True) u [.slice Au un.length ku, .int .i64 q.typ, .int .i64 q.cls]) := ⟨by rw [hu]; exact ⟨_, rfl, hown.rd (fun _ _ => trivial) (fun _ _ => trivial), HQ'.out.1, HQ'.out.2⟩⟩
        have KNo : Aside0 (kS.Rd wo (fun _ => True) (.slice Au un.length ku) u.name) := ⟨by rw [hu]; exact hown.rd (fun _ _ => trivial) (fun _ _ => trivial)⟩
        have KZo := Aside0.mk (K_below HZ.out BWo.out)
        have KQo := Aside0.mk (K_below HQ.out BWo.out)
        have hXz : w.heap.size < wo.heap.size := Nat.lt_trans hl2 hUo
        have hXq : w.heap.size + 1 < wo.heap.size := Nat.lt_trans hl3 hUo
        have hXu : w2.heap.size < wo.heap.size := hUo
        have Y4 : Aside0 (wo.cell? ⟨w.heap.size, 0, none⟩ = some (.slice An z.name.length cn) ∧ wo.cell? ⟨w.heap.size, 1, none⟩ = some (.slice Ar z.recs.length cr)) := ⟨(HU.out.bel.cell (p := ⟨w.heap.size, 0, none⟩) hl2).trans YZ.out.1, (HU.out.bel.cell (p := ⟨w.heap.size, 1, none⟩) hl2).trans YZ.out.2⟩
        have Q4 : Aside0 (wo.cell? ⟨w.heap.size + 1, 0, none⟩ = some (.slice Aq q.name.length cq') ∧ wo.cell? ⟨w.heap.size + 1, 1, none⟩ = some (.int .i64 q.typ) ∧ wo.cell? ⟨w.heap.size + 1, 2, none⟩ = some (.int .i64 q.cls)) := ⟨(HU.out.bel.cell (p := ⟨w.heap.size + 1, 0, none⟩) hl3).trans YQ.out.1, (HU.out.bel.cell (p := ⟨w.heap.size + 1, 1, none⟩) hl3).trans YQ.out.2.1, (HU.out.bel.cell (p := ⟨w.heap.size + 1, 2, none⟩) hl3).trans YQ.out.2.2⟩
        have U4 : Aside0 (wo.cell? ⟨w2.heap.size, 0, none⟩ = some (.slice Au un.length ku) ∧ wo.cell? ⟨w2.heap.size, 1, none⟩ = some (.int .i64 q.typ) ∧ wo.cell? ⟨w2.heap.size, 2, none⟩ = some (.int .i64 q.cls)) := ⟨cU, HU.out.c1, HU.out.c2⟩
        clear hown hu
        go_upto_region 15 with (fail)
        clear cU yq
        refine wp_region_from (by kernel_rfl) (ZcI z q u wo.heap.size [.slice An z.name.length cn, .slice Ar z.recs.length cr] [.slice Aq q.name.length cq', .int .i64 q.typ, .int .i64 q.cls] [.slice Au un.length ku, .int .i64 q.typ, .int .i64 q.cls] wo) (by kernel_rfl) ?_ ?_ ?_
        · exact ZcI_start z q u _ _ _ _ (Below.refl _ _).drew _ rfl rfl rfl rfl rfl rfl rfl rfl rfl rfl
        · generalize ha0 : (⟨_, _⟩ : Act) = a0
          have T2 : Aside0 (a0.tmps[2]? = some (.pointer (some ⟨w.heap.size, 0, none⟩)) ∧ a0.tmps[3]? = some (.pointer (some ⟨w.heap.size + 1, 0, none⟩)) ∧ a0.tmps[5]? = some (.pointer (some ⟨w2.heap.size, 0, none⟩)) ∧ a0.tmps.size = 102) := ⟨by rw [← ha0]; rfl, by rw [← ha0]; rfl, by rw [← ha0]; rfl, by rw [← ha0]; rfl⟩
          clear ha0
          intro f a W i o ho hf he hsh hI
          have hi : i < 12 := (Array.getElem?_eq_some_iff.1 ho).1
          cases hI with
          | fin u9 u10 u73 u74 u75 u76 u77 u78 u79 u80 _ h11 h =>
            exfalso
            have q10 : f 10 = true := hsh 11 _ rfl h11 ⟨10, .phase⟩ (by simp) rfl
            have q0 : f 0 = true := hsh 11 _ rfl h11 ⟨0, .phase⟩ (by simp) rfl
            have q1 : f 1 = true := hsh 11 _ rfl h11 ⟨1, .phase⟩ (by simp) rfl
            have q2 : f 2 = true := hsh 11 _ rfl h11 ⟨2, .phase⟩ (by simp) rfl
            have q3 : f 3 = true := hsh 11 _ rfl h11 ⟨3, .phase⟩ (by simp) rfl
            have q4 : f 4 = true := hsh 11 _ rfl h11 ⟨4, .phase⟩ (by simp) rfl
            have q5 : f 5 = true := hsh 11 _ rfl h11 ⟨5, .phase⟩ (by simp) rfl
            have q6 : f 6 = true := hsh 11 _ rfl h11 ⟨6, .phase⟩ (by simp) rfl
            have q7 : f 7 = true := hsh 11 _ rfl h11 ⟨7, .phase⟩ (by simp) rfl
            have q8 : f 8 = true := hsh 11 _ rfl h11 ⟨8, .phase⟩ (by simp) rfl
            have q9 : f 9 = true := hsh 11 _ rfl h11 ⟨9, .phase⟩ (by simp) rfl
            rcases (show i = 0 ∨ i = 1 ∨ i = 2 ∨ i = 3 ∨ i = 4 ∨ i = 5 ∨ i = 6 ∨ i = 7 ∨ i = 8 ∨ i = 9 ∨ i = 10 ∨ i = 11 from by omega) with rfl | rfl | rfl | rfl | rfl | rfl | rfl | rfl | rfl | rfl | rfl | rfl
            · exact absurd (hf.symm.trans q0) (by decide)
            · exact absurd (hf.symm.trans q1) (by decide)
            · exact absurd (hf.symm.trans q2) (by decide)
            · exact absurd (hf.symm.trans q3) (by decide)
            · exact absurd (hf.symm.trans q4) (by decide)
            · exact absurd (hf.symm.trans q5) (by decide)
            · exact absurd (hf.symm.trans q6) (by decide)
            · exact absurd (hf.symm.trans q7) (by decide)
            · exact absurd (hf.symm.trans q8) (by decide)
            · exact absurd (hf.symm.trans q9) (by decide)
            · exact absurd (hf.symm.trans q10) (by decide)
            · exact absurd (hf.symm.trans h11) (by decide)
          | mid u9 u10 u73 u74 u75 u76 u77 u78 u79 u80 _ h10 h11 h =>
            have q3 : f 3 = true := hsh 10 _ rfl h10 ⟨3, .data⟩ (by simp) rfl
            have q7 : f 7 = true := hsh 10 _ rfl h10 ⟨7, .chain⟩ (by simp) rfl
            have q8 : f 8 = true := hsh 10 _ rfl h10 ⟨8, .data⟩ (by simp) rfl
            have q9 : f 9 = true := hsh 10 _ rfl h10 ⟨9, .phase⟩ (by simp) rfl
            have q1 : f 1 = true := hsh 3 _ rfl q3 ⟨1, .data⟩ (by simp) rfl
            have q2 : f 2 = true := hsh 3 _ rfl q3 ⟨2, .data⟩ (by simp) rfl
            have q0 : f 0 = true := hsh 1 _ rfl q1 ⟨0, .data⟩ (by simp) rfl
            have q5 : f 5 = true := hsh 7 _ rfl q7 ⟨5, .data⟩ (by simp) rfl
            have q6 : f 6 = true := hsh 7 _ rfl q7 ⟨6, .data⟩ (by simp) rfl
            have q4 : f 4 = true := hsh 5 _ rfl q5 ⟨4, .data⟩ (by simp) rfl
            rcases (show i = 0 ∨ i = 1 ∨ i = 2 ∨ i = 3 ∨ i = 4 ∨ i = 5 ∨ i = 6 ∨ i = 7 ∨ i = 8 ∨ i = 9 ∨ i = 10 ∨ i = 11 from by omega) with rfl | rfl | rfl | rfl | rfl | rfl | rfl | rfl | rfl | rfl | rfl | rfl
            · exact absurd (hf.symm.trans q0) (by decide)
            · exact absurd (hf.symm.trans q1) (by decide)
            · exact absurd (hf.symm.trans q2) (by decide)
            · exact absurd (hf.symm.trans q3) (by decide)
            · exact absurd (hf.symm.trans q4) (by decide)
            · exact absurd (hf.symm.trans q5) (by decide)
            · exact absurd (hf.symm.trans q6) (by decide)
            · exact absurd (hf.symm.trans q7) (by decide)
            · exact absurd (hf.symm.trans q8) (by decide)
            · exact absurd (hf.symm.trans q9) (by decide)
            · exact absurd (hf.symm.trans h10) (by decide)
            · have ho2 := ho
              simp only [List.getElem?_toArray, List.getElem?_cons_succ, List.getElem?_cons_zero, Option.some.injEq] at ho2
              subst ho2
              obtain ⟨M, M', m, m', c, c', e1, e2, hM1, hM2, hM3, hM4, hne, hm, hm', hk, hk', hr, ht, e3⟩ := h.res
              have r1 := (ZcC_get10 a0 u9 u10 u73 u74 u75 u76 u77 u78 u79 u80 (by rw [T2.out.2.2.2]; decide)).trans (congrArg some e2)
              have r2 := (ZcC_get80 a0 u9 u10 u73 u74 u75 u76 u77 u78 u79 u80 (by rw [T2.out.2.2.2]; decide)).trans (congrArg some e3)
              have hcl := kM.len hk'
              have hcl' : c'.toArray.size = 14 := by rw [List.size_toArray]; exact hcl
              have ht' : W.there M' 0 c'.toArray.size := by rw [hcl']; exact ht
              have hi' : (Try.prog.info? 35).map (·.size) = some c'.toArray.size := by rw [hcl']; exact infoM
              refine wpOp_store_mid ho rfl 35 (.tmp 10) (.tmp 80) rfl M' 0 c'.toArray (eval_tmp r1) (eval_tmp r2) ht' hi' (all_oneCell_toArray (kM.one hk')) ?_
              refine ZcI_nodst rfl ?_
              exact ZcI.fin u9 u10 u73 u74 u75 u76 u77 u78 u79 u80 _ mark_self (Zc_endof h.bel e1 e2 hM1 hM2 hM3 hM4 hne hm hm' hk hk' hr ht rfl)
          | at_ u9 u10 u73 u74 u75 u76 u77 u78 u79 u80 _ h10 h11 h =>
            have H := Aside0.mk h
            clear h hsh
            have hbs : wo.heap.size ≤ W.heap.size := H.out.bel.size
            have NE : ∀ i j, j ≠ i → f j = false → mark f i j = false := fun i j h h' => (mark_ne' (f := f) h).trans h'
            rcases (show i = 0 ∨ i = 1 ∨ i = 2 ∨ i = 3 ∨ i = 4 ∨ i = 5 ∨ i = 6 ∨ i = 7 ∨ i = 8 ∨ i = 9 ∨ i = 10 ∨ i = 11 from by omega) with rfl | rfl | rfl | rfl | rfl | rfl | rfl | rfl | rfl | rfl | rfl | rfl
            · have ho2 := ho
              simp only [List.getElem?_toArray, List.getElem?_cons_succ, List.getElem?_cons_zero, Option.some.injEq] at ho2
              subst ho2
              refine wpOp_plain ho rfl ?_
              have r1 := ((ZcC_other a0 u9 u10 u73 u74 u75 u76 u77 u78 u79 u80 2 (by decide)).trans T2.out.1)
              have c0 := (H.out.bel.cell (p := ⟨w.heap.size, 0, none⟩) hXz).trans Y4.out.1
              have c1 := (H.out.bel.cell (p := ⟨w.heap.size, 1, none⟩) hXz).trans Y4.out.2
              generalize hcc : ZcC a0 u9 u10 u73 u74 u75 u76 u77 u78 u79 u80 = ac at r1
              unfold Oper.wp execOp
              go_simp
              rw [← hcc]
              show ZcI z q u _ _ _ _ wo a0 (mark f 0) ((ZcC a0 u9 u10 u73 u74 u75 u76 u77 u78 u79 u80).put (some 73) _) _
              rw [ZcC_put73]
              exact ZcI.at_ _ _ _ _ _ _ _ _ _ _ _ (NE 0 10 (by decide) h10) (NE 0 11 (by decide) h11) (ZcAt_0 H hbs (Below.refl W.heap.size W) (fun _ => rfl))
            · have ho2 := ho
              simp only [List.getElem?_toArray, List.getElem?_cons_succ, List.getElem?_cons_zero, Option.some.injEq] at ho2
              subst ho2
              refine wpOp_plain ho rfl ?_
              have r1 := (ZcC_get73 a0 u9 u10 u73 u74 u75 u76 u77 u78 u79 u80 (by rw [T2.out.2.2.2]; decide)).trans (congrArg some (H.out.lA (he ⟨0, .data⟩ (by simp) rfl)))
              have hc := lawown_calls z [.slice An z.name.length cn, .slice Ar z.recs.length cr] W (K_below KZo.out H.out.bel)
              generalize hcc : ZcC a0 u9 u10 u73 u74 u75 u76 u77 u78 u79 u80 = ac at r1
              unfold Oper.wp execOp
              go_simp
              refine hc.mono ?_
              rintro e w1 ⟨c1, rfl, hk1, hb1⟩
              rw [← hcc]
              show ZcI z q u _ _ _ _ wo a0 (mark f 1) ((ZcC a0 u9 u10 u73 u74 u75 u76 u77 u78 u79 u80).put (some 74) _) _
              rw [ZcC_put74]
              exact ZcI.at_ _ _ _ _ _ _ _ _ _ _ _ (NE 1 10 (by decide) h10) (NE 1 11 (by decide) h11) (ZcAt_1 H hbs hb1 (fun _ => ⟨_, rfl, kZ.mono (fun k hk => Nat.le_trans hbs hk) hk1⟩))
            · have ho2 := ho
              simp only [List.getElem?_toArray, List.getElem?_cons_succ, List.getElem?_cons_zero, Option.some.injEq] at ho2
              subst ho2
              refine wpOp_plain ho rfl ?_
              have r1 := ((ZcC_other a0 u9 u10 u73 u74 u75 u76 u77 u78 u79 u80 3 (by decide)).trans T2.out.2.1)
              have c0 := (H.out.bel.cell (p := ⟨w.heap.size + 1, 0, none⟩) hXq).trans Q4.out.1
              have c1 := (H.out.bel.cell (p := ⟨w.heap.size + 1, 1, none⟩) hXq).trans Q4.out.2.1
              have c2 := (H.out.bel.cell (p := ⟨w.heap.size + 1, 2, none⟩) hXq).trans Q4.out.2.2
              generalize hcc : ZcC a0 u9 u10 u73 u74 u75 u76 u77 u78 u79 u80 = ac at r1
              unfold Oper.wp execOp
              go_simp
              rw [← hcc]
              show ZcI z q u _ _ _ _ wo a0 (mark f 2) ((ZcC a0 u9 u10 u73 u74 u75 u76 u77 u78 u79 u80).put (some 75) _) _
              rw [ZcC_put75]
              exact ZcI.at_ _ _ _ _ _ _ _ _ _ _ _ (NE 2 10 (by decide) h10) (NE 2 11 (by decide) h11) (ZcAt_2 H hbs (Below.refl W.heap.size W) (fun _ => rfl))
            · have ho2 := ho
              simp only [List.getElem?_toArray, List.getElem?_cons_succ, List.getElem?_cons_zero, Option.some.injEq] at ho2
              subst ho2
              refine wpOp_plain ho rfl ?_
              obtain ⟨c1, e1, hk1⟩ := H.out.oA (he ⟨1, .data⟩ (by simp) rfl)
              have r1 := (ZcC_get74 a0 u9 u10 u73 u74 u75 u76 u77 u78 u79 u80 (by rw [T2.out.2.2.2]; decide)).trans (congrArg some e1)
              have r2 := (ZcC_get75 a0 u9 u10 u73 u74 u75 u76 u77 u78 u79 u80 (by rw [T2.out.2.2.2]; decide)).trans (congrArg some (H.out.gA (he ⟨2, .data⟩ (by simp) rfl)))
              have hc := zans_calls z c1 q [.slice Aq q.name.length cq', .int .i64 q.typ, .int .i64 q.cls] W (kZ.mono (fun _ _ => trivial) hk1) (K_below KQo.out H.out.bel)
              clear e1
              generalize hcc : ZcC a0 u9 u10 u73 u74 u75 u76 u77 u78 u79 u80 = ac at r1 r2
              unfold Oper.wp execOp
              go_simp
              refine hc.mono ?_
              rintro e w1 ⟨m, hm, c3, rfl, hk3, hb1⟩
              rw [← hcc]
              show ZcI z q u _ _ _ _ wo a0 (mark f 3) ((ZcC a0 u9 u10 u73 u74 u75 u76 u77 u78 u79 u80).put (some 76) _) _
              rw [ZcC_put76]
              exact ZcI.at_ _ _ _ _ _ _ _ _ _ _ _ (NE 3 10 (by decide) h10) (NE 3 11 (by decide) h11) (ZcAt_3 H hbs hb1 (fun _ => ⟨m, c3, rfl, hm, kM.mono (fun k hk => ⟨Nat.le_trans hbs hk, fun h4 M hM => ptr_ne (H.out.vA ((mark_ne' (f := f) (i := 3) (j := 8) (by decide)).symm.trans h4)) hM hk, fun h4 M hM => ptr_ne (H.out.vB ((mark_ne' (f := f) (i := 3) (j := 9) (by decide)).symm.trans h4)) hM hk⟩) hk3⟩))
            · have ho2 := ho
              simp only [List.getElem?_toArray, List.getElem?_cons_succ, List.getElem?_cons_zero, Option.some.injEq] at ho2
              subst ho2
              refine wpOp_plain ho rfl ?_
              have r1 := ((ZcC_other a0 u9 u10 u73 u74 u75 u76 u77 u78 u79 u80 2 (by decide)).trans T2.out.1)
              have c0 := (H.out.bel.cell (p := ⟨w.heap.size, 0, none⟩) hXz).trans Y4.out.1
              have c1 := (H.out.bel.cell (p := ⟨w.heap.size, 1, none⟩) hXz).trans Y4.out.2
              generalize hcc : ZcC a0 u9 u10 u73 u74 u75 u76 u77 u78 u79 u80 = ac at r1
              unfold Oper.wp execOp
              go_simp
              rw [← hcc]
              show ZcI z q u _ _ _ _ wo a0 (mark f 4) ((ZcC a0 u9 u10 u73 u74 u75 u76 u77 u78 u79 u80).put (some 77) _) _
              rw [ZcC_put77]
              exact ZcI.at_ _ _ _ _ _ _ _ _ _ _ _ (NE 4 10 (by decide) h10) (NE 4 11 (by decide) h11) (ZcAt_4 H hbs (Below.refl W.heap.size W) (fun _ => rfl))
            · have ho2 := ho
              simp only [List.getElem?_toArray, List.getElem?_cons_succ, List.getElem?_cons_zero, Option.some.injEq] at ho2
              subst ho2
              refine wpOp_plain ho rfl ?_
              have r1 := (ZcC_get77 a0 u9 u10 u73 u74 u75 u76 u77 u78 u79 u80 (by rw [T2.out.2.2.2]; decide)).trans (congrArg some (H.out.lB (he ⟨4, .data⟩ (by simp) rfl)))
              have hc := lawown_calls z [.slice An z.name.length cn, .slice Ar z.recs.length cr] W (K_below KZo.out H.out.bel)
              generalize hcc : ZcC a0 u9 u10 u73 u74 u75 u76 u77 u78 u79 u80 = ac at r1
              unfold Oper.wp execOp
              go_simp
              refine hc.mono ?_
              rintro e w1 ⟨c1, rfl, hk1, hb1⟩
              rw [← hcc]
              show ZcI z q u _ _ _ _ wo a0 (mark f 5) ((ZcC a0 u9 u10 u73 u74 u75 u76 u77 u78 u79 u80).put (some 78) _) _
              rw [ZcC_put78]
              exact ZcI.at_ _ _ _ _ _ _ _ _ _ _ _ (NE 5 10 (by decide) h10) (NE 5 11 (by decide) h11) (ZcAt_5 H hbs hb1 (fun _ => ⟨_, rfl, kZ.mono (fun k hk => Nat.le_trans hbs hk) hk1⟩))
            · have ho2 := ho
              simp only [List.getElem?_toArray, List.getElem?_cons_succ, List.getElem?_cons_zero, Option.some.injEq] at ho2
              subst ho2
              refine wpOp_plain ho rfl ?_
              have r1 := ((ZcC_other a0 u9 u10 u73 u74 u75 u76 u77 u78 u79 u80 5 (by decide)).trans T2.out.2.2.1)
              have c0 := (H.out.bel.cell (p := ⟨w2.heap.size, 0, none⟩) hXu).trans U4.out.1
              have c1 := (H.out.bel.cell (p := ⟨w2.heap.size, 1, none⟩) hXu).trans U4.out.2.1
              have c2 := (H.out.bel.cell (p := ⟨w2.heap.size, 2, none⟩) hXu).trans U4.out.2.2
              generalize hcc : ZcC a0 u9 u10 u73 u74 u75 u76 u77 u78 u79 u80 = ac at r1
              unfold Oper.wp execOp
              go_simp
              rw [← hcc]
              show ZcI z q u _ _ _ _ wo a0 (mark f 6) ((ZcC a0 u9 u10 u73 u74 u75 u76 u77 u78 u79 u80).put (some 79) _) _
              rw [ZcC_put79]
              exact ZcI.at_ _ _ _ _ _ _ _ _ _ _ _ (NE 6 10 (by decide) h10) (NE 6 11 (by decide) h11) (ZcAt_6 H hbs (Below.refl W.heap.size W) (fun _ => rfl))
            · have ho2 := ho
              simp only [List.getElem?_toArray, List.getElem?_cons_succ, List.getElem?_cons_zero, Option.some.injEq] at ho2
              subst ho2
              refine wpOp_plain ho rfl ?_
              obtain ⟨c1, e1, hk1⟩ := H.out.oB (he ⟨5, .data⟩ (by simp) rfl)
              have r1 := (ZcC_get78 a0 u9 u10 u73 u74 u75 u76 u77 u78 u79 u80 (by rw [T2.out.2.2.2]; decide)).trans (congrArg some e1)
              have r2 := (ZcC_get79 a0 u9 u10 u73 u74 u75 u76 u77 u78 u79 u80 (by rw [T2.out.2.2.2]; decide)).trans (congrArg some (H.out.gB (he ⟨6, .data⟩ (by simp) rfl)))
              have hc := zans_calls z c1 u [.slice Au un.length ku, .int .i64 q.typ, .int .i64 q.cls] W (kZ.mono (fun _ _ => trivial) hk1) (K_below KUo.out H.out.bel)
              clear e1
              generalize hcc : ZcC a0 u9 u10 u73 u74 u75 u76 u77 u78 u79 u80 = ac at r1 r2
              unfold Oper.wp execOp
              go_simp
              refine hc.mono ?_
              rintro e w1 ⟨m, hm, c3, rfl, hk3, hb1⟩
              rw [← hcc]
              show ZcI z q u _ _ _ _ wo a0 (mark f 7) ((ZcC a0 u9 u10 u73 u74 u75 u76 u77 u78 u79 u80).put (some 80) _) _
              rw [ZcC_put80]
              exact ZcI.at_ _ _ _ _ _ _ _ _ _ _ _ (NE 7 10 (by decide) h10) (NE 7 11 (by decide) h11) (ZcAt_7 H hbs hb1 (fun _ => ⟨m, c3, rfl, hm, kM.mono (fun k hk => ⟨Nat.le_trans hbs hk, fun h4 M hM => ptr_ne (H.out.vA ((mark_ne' (f := f) (i := 7) (j := 8) (by decide)).symm.trans h4)) hM hk, fun h4 M hM => ptr_ne (H.out.vB ((mark_ne' (f := f) (i := 7) (j := 9) (by decide)).symm.trans h4)) hM hk⟩) hk3⟩))
            · have ho2 := ho
              simp only [List.getElem?_toArray, List.getElem?_cons_succ, List.getElem?_cons_zero, Option.some.injEq] at ho2
              subst ho2
              refine wpOp_plain ho rfl ?_
              generalize hcc : ZcC a0 u9 u10 u73 u74 u75 u76 u77 u78 u79 u80 = ac
              unfold Oper.wp execOp
              go_simp
              rw [← hcc]
              show ZcI z q u _ _ _ _ wo a0 (mark f 8) ((ZcC a0 u9 u10 u73 u74 u75 u76 u77 u78 u79 u80).put (some 9) _) _
              rw [ZcC_put9]
              exact ZcI.at_ _ _ _ _ _ _ _ _ _ _ _ (NE 8 10 (by decide) h10) (NE 8 11 (by decide) h11) (ZcAt_8 H hbs (below_alloc (Below.refl W.heap.size W) _) rfl (fun _ => ⟨_, rfl, hbs, by simp, there_new W _ _⟩))
            · have ho2 := ho
              simp only [List.getElem?_toArray, List.getElem?_cons_succ, List.getElem?_cons_zero, Option.some.injEq] at ho2
              subst ho2
              refine wpOp_plain ho rfl ?_
              generalize hcc : ZcC a0 u9 u10 u73 u74 u75 u76 u77 u78 u79 u80 = ac
              unfold Oper.wp execOp
              go_simp
              rw [← hcc]
              show ZcI z q u _ _ _ _ wo a0 (mark f 9) ((ZcC a0 u9 u10 u73 u74 u75 u76 u77 u78 u79 u80).put (some 10) _) _
              rw [ZcC_put10]
              exact ZcI.at_ _ _ _ _ _ _ _ _ _ _ _ (NE 9 10 (by decide) h10) (NE 9 11 (by decide) h11) (ZcAt_9 H hbs (below_alloc (Below.refl W.heap.size W) _) rfl (fun _ => ⟨_, rfl, hbs, by simp, there_new W _ _⟩))
            · have ho2 := ho
              simp only [List.getElem?_toArray, List.getElem?_cons_succ, List.getElem?_cons_zero, Option.some.injEq] at ho2
              subst ho2
              have h8 := he ⟨8, .data⟩ (by simp) rfl
              have h9 := he ⟨9, .phase⟩ (by simp) rfl
              obtain ⟨m, c, e3, hm, hk⟩ := H.out.aA (he ⟨3, .data⟩ (by simp) rfl)
              obtain ⟨m', c', e4, hm', hk'⟩ := H.out.aB (he ⟨7, .chain⟩ (by simp) rfl)
              obtain ⟨M, e1, hM1, hM2, ht1⟩ := H.out.vA h8
              obtain ⟨M', e2, hM3, hM4, ht2⟩ := H.out.vB h9
              have hne := H.out.dis h8 h9 M M' e1 e2
              have r1 := (ZcC_get9 a0 u9 u10 u73 u74 u75 u76 u77 u78 u79 u80 (by rw [T2.out.2.2.2]; decide)).trans (congrArg some e1)
              have r2 := (ZcC_get76 a0 u9 u10 u73 u74 u75 u76 u77 u78 u79 u80 (by rw [T2.out.2.2.2]; decide)).trans (congrArg some e3)
              have hcl := kM.len hk
              have hcl' : c.toArray.size = 14 := by rw [List.size_toArray]; exact hcl
              have ht' : W.there M 0 c.toArray.size := by rw [hcl']; exact ht1
              have hi' : (Try.prog.info? 35).map (·.size) = some c.toArray.size := by rw [hcl']; exact infoM
              refine wpOp_store_mid ho rfl 35 (.tmp 9) (.tmp 76) rfl M 0 c.toArray (eval_tmp r1) (eval_tmp r2) ht' hi' (all_oneCell_toArray (kM.one hk)) ?_
              refine ZcI_nodst rfl ?_
              exact ZcI.mid u9 u10 u73 u74 u75 u76 u77 u78 u79 u80 _ mark_self (NE 10 11 (by decide) h11) (Zc_midof H.out.bel e1 e2 hM1 hM2 hM3 hM4 hne hm hm' (kM.mono (fun k hk => ⟨hk.1, hk.2.1 h8 M e1, hk.2.2 h9 M' e2⟩) hk) (kM.mono (fun k hk => ⟨hk.1, hk.2.1 h8 M e1, hk.2.2 h9 M' e2⟩) hk') ht1 ht2 e4 rfl)
            · exfalso
              have q10 : f 10 = true := he ⟨10, .chain⟩ (by have ho2 := ho; simp only [List.getElem?_toArray, List.getElem?_cons_succ, List.getElem?_cons_zero, Option.some.injEq] at ho2; subst ho2; simp) rfl
              exact absurd (h10.symm.trans q10) (by decide)
        · rename_i KK hKK
          intro f a W hall hI
          obtain ⟨u9, u10, u73, u74, u75, u76, u77, u78, u79, u80, rfl, HE⟩ := ZcI_end hI (hall 11 (by decide))
          clear hall hI
          have BM := Aside0.mk HE.bel
          obtain ⟨M, M', m, m', c, c', rfl, rfl, hM1, hM2, hM3, hM4, hne, hm, hm', hk, hk', hr, hr', ht'⟩ := HE.res
          clear HE
          have HR := Aside0.mk hr
          have HR' := Aside0.mk hr'
          have HT := Aside0.mk ht'
          have HKM := Aside0.mk hk
          have hL := cases_law (q := q) (u := u) (by rw [HUD.out]; exact HUN.out.symm) (by rw [HUD.out]) (by rw [HUD.out]) hm hm'
          obtain ⟨A8, k8, A9, k9, A10, k10, A11, k11, hc, _, _⟩ := kM_form hk
          obtain ⟨B8, l8, B9, l9, B10, l10, B11, l11, hc', hq2, _⟩ := kM_form hk'
          have HK8 := Aside0.mk (kM_qs hk hk' hL.2.2 (.slice A8 m.qs.length k8) (by rw [hc]; rfl))
          have m8 : W.cell? ⟨M, 8, none⟩ = some (.slice A8 m.qs.length k8) := by
            have := hr 8 (.slice A8 m.qs.length k8) (by rw [hc]; rfl)
            simpa using this
          have m8' : W.cell? ⟨M', 8, none⟩ = some (.slice B8 1 l8) := by
            have := hr' 8 (.slice B8 m'.qs.length l8) (by rw [hc']; rfl)
            rw [hL.1] at this
            simpa using this
          rw [hL.1] at hq2
          obtain ⟨A2, c2, he2, _, hrow2⟩ := hq2
          obtain ⟨rfl, rfl⟩ : B8 = A2 ∧ l8 = c2 := by injection he2 with h1 _ h3; exact ⟨h1, h3⟩
          obtain ⟨ad, vw, rfl, hKr, e0, _, _⟩ := cell_q hrow2 0 (by simp)
          rw [show ad.add (0 * 3) = ad from by simp [Addr.add]] at e0
          obtain ⟨vv, hvv, hn1, _, _⟩ := hKr
          obtain rfl : vw = vv := by simpa using hvv
          have hn1 : kS.Rd W _ vw u.name := hn1
          obtain ⟨A0, k0, rfl, hn1'⟩ : ∃ A0 k0, vw = .slice A0 u.name.length k0 ∧ Aside0 (kS.Rd W (fun _ => True) vw u.name) := ⟨_, _, hn1.choose_spec.choose_spec.1, ⟨hn1.any⟩⟩
          have hn2' := Aside0.mk (KNo.out.below pS BM.out)
          have cu0 := (BM.out.cell (p := ⟨w2.heap.size, 0, none⟩) hXu).trans U4.out.1
          have HLEN8 : Aside0 (c.length = 14 ∧ (c'.set 8 (.slice A8 m.qs.length k8)).length = 14) := ⟨kM.len HKM.out, kM.len HK8.out⟩
          clear hk hk' hr hr' ht' hm hm' hn1 hrow2 he2 hvv hc hc' hL
          refine hKK _ W ?_
          (try simp only [ZcC, Act.put, List.setIfInBounds_toArray, List.set_cons_zero, List.set_cons_succ])
          have hst2 : Below W.heap.size W W.drew ∧ W.drew.cell? ⟨M', 8, none⟩ = some (.slice (some ad) 1 l8) ∧ W.drew.cell? ad = some (.slice A0 u.name.length k0) ∧ W.drew.cell? ⟨w2.heap.size, 0, none⟩ = some (.slice Au un.length ku) := ⟨(Below.refl _ _).drew, m8', e0, cu0⟩
          go_upto_region 16 with (fail)
          go_region_held3 (fun w' => Below W.heap.size W w' ∧ w'.cell? ⟨M', 8, none⟩ = some (.slice (some ad) 1 l8) ∧ w'.cell? ad = some (.slice A0 u.name.length k0) ∧ w'.cell? ⟨w2.heap.size, 0, none⟩ = some (.slice Au un.length ku))
            (first | (with_reducible exact keepQ3 hb5 (by assumption)) | go_keep)
            ((go_at_call 23; refine (bv (exact_calls _ _ u.name u.name _ (hn1'.out.below pS (And.left (by assumption))) (hn2'.out.below pS (And.left (by assumption)))) (decide_eq_true rfl)).mono ?_; rintro e w5 ⟨rfl, hb5⟩))
          have hs5 : Below W.heap.size W w5 := And.left (by assumption)
          have B5 := Aside0.mk hs5
          clear hs5
          have n8 := (B5.out.cell (p := ⟨M, 8, none⟩) hM2).trans m8
          have n8' := (B5.out.cell (p := ⟨M', 8, none⟩) hM4).trans m8'
          have f8' := (B5.out.frozen (p := ⟨M', 8, none⟩) hM4).trans (by have := (HT.out 8 (by decide)).2; simpa using this)
          generalize hv8 : (Value.slice A8 m.qs.length k8) = v8 at HK8 HLEN8 
          have RM : Aside0 ((w5.setCell ⟨M', 8, none⟩ v8).rangeAt M 0 c) := ⟨World.rangeAt_setCells_apart (range_below B5.out hM2 HR.out) M' 8 [v8] (.inl hne)⟩
          have RM' : Aside0 ((w5.setCell ⟨M', 8, none⟩ v8).rangeAt M' 0 (c'.set 8 v8)) := ⟨range_set (range_below B5.out hM4 HR'.out) 8 v8⟩
          have K1 : Aside0 (kM.K (w5.setCell ⟨M', 8, none⟩ v8) (fun _ => True) m c) := ⟨kM.mono (fun _ _ => trivial) (kM.step (fun k hk _ => Below.heap_setCell w5 ⟨M', 8, none⟩ v8 k hk.2.2) (K_below HKM.out B5.out))⟩
          have K2 : Aside0 (kM.K (w5.setCell ⟨M', 8, none⟩ v8) (fun _ => True) m (c'.set 8 v8)) := ⟨kM.mono (fun _ _ => trivial) (kM.step (fun k hk _ => Below.heap_setCell w5 ⟨M', 8, none⟩ v8 k hk.2.2) (K_below HK8.out B5.out))⟩
          have BE : Aside0 (Below w.heap.size w (w5.setCell ⟨M', 8, none⟩ v8)) := ⟨(((BWo.out.trans (BM.out.mono BWo.out.size)).trans (B5.out.mono (BWo.out.trans (BM.out.mono BWo.out.size)).size))).setCell (Nat.le_trans BWo.out.size hM3) _⟩
          subst hv8
          go_wp2_with (first | (refine wpList_load_mid rfl 35 (.tmp 9) rfl _ 0 rfl _ _ RM.out Try.underlying35 rfl (by rw [HLEN8.out.1]; exact infoM) ?_) | (refine wpList_load_mid rfl 35 (.tmp 10) rfl _ 0 rfl _ _ RM'.out Try.underlying35 rfl (by rw [HLEN8.out.2]; exact infoM) ?_))
          refine (samemsg_calls m _ _ _ K1.out K2.out).mono ?_
          rintro e w6 ⟨rfl, hb6⟩
          have B6 : Aside0 (Below w.heap.size w w6) := ⟨BE.out.trans (hb6.mono BE.out.size)⟩
          clear hb6
          go_wp2_with fail
          go_ret
          exact ⟨rfl, B6.out⟩
end Go.Proofs.Ytgacjbdnpnaglaa.Gz

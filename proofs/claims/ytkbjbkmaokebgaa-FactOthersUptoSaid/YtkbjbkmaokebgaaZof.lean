import Derived.Test.YtkbjbkmaokebgaaZown
set_option linter.unusedVariables false
set_option linter.unusedSimpArgs false
namespace Go.Proofs.Ytkbjbkmaokebgaa.Gz
open Go.RowKit Go.Proofs.YtkbjbkmaokebgaaW.PrintWords
open Ki
/-- The records of a name and a type. -/
def zof (l : List RR) (n : List ByteArray) (kind : Int) : List RR := l.filter fun r => (decide (kind = 255) || decide (r.typ = kind)) && nEq r.name n
theorem zof_len (l : List RR) (n : List ByteArray) (kind : Int) : (zof l n kind).length ≤ l.length := List.length_filter_le _ _
theorem zof_step (l : List RR) (n : List ByteArray) (kind : Int) (k : Nat) (h : k < l.length) :
    zof (l.take (k + 1)) n kind = zof (l.take k) n kind ++ if (decide (kind = 255) || decide (l[k].typ = kind)) && nEq l[k].name n then [l[k]] else [] := by
  rw [List.take_succ_eq_append_getElem h]
  unfold zof
  rw [List.filter_append]
  congr 1
  simp only [List.filter_cons, List.filter_nil]
theorem kR_forms {w : World} {ok : Nat → Prop} {r : RR} {cs : List Value} (h : kR.K w ok r cs) :
    ∃ A0 k0 A4 k4 A5 k5 A6 k6 A7 k7 A8 k8, cs = [.slice A0 r.name.length k0, .int .i64 r.typ, .int .i64 r.cls, .int .i64 r.ttl, .slice A4 r.data.bytes.length k4, .slice A5 r.data.host.length k5, .slice A6 r.data.mail.length k6, .slice A7 r.data.nums.length k7, .slice A8 r.data.texts.length k8] := by
  obtain ⟨v0, cd, rfl, h0, _, _, _, hd⟩ := h
  obtain ⟨A4, k4, A5, k5, A6, k6, A7, k7, A8, k8, rfl⟩ := kD_form hd
  obtain ⟨A0, k0, rfl, _⟩ := h0
  exact ⟨_, _, _, _, _, _, _, _, _, _, _, _, rfl⟩
set_option maxHeartbeats 8000000 in
set_option maxRecDepth 100000 in
theorem zof_any (z : Zone) (cz : List Value) (v : Value) (n : List ByteArray) (w : World) (hz : kZ.K w (fun _ => True) z cz) (hv : kS.Rd w (fun _ => True) v n) :
    Calls Try.prog 79 #[.agg cz.toArray, v, .int .i64 255] w (Gives kR w (zof z.recs n 255)) := by
  obtain ⟨vn, vr, rfl, hn, hr⟩ := hz
  have HN := Aside0.mk hv
  have RR' := Aside0.mk hr
  have hmax := hr.max
  have hroom := hr.room
  have hbytes : kR.bytes = 168 := rfl
  obtain ⟨An, cn, rfl, hln, _⟩ := hn
  obtain ⟨Ar, cr, rfl, hlr, _⟩ := hr
  obtain ⟨Av, cv, rfl, _, _⟩ := hv
  generalize hW0 : w.alloc (.cells #[.slice An z.name.length cn, .slice Ar z.recs.length cr] 25) = W0
  have BX : Aside0 (Below w.heap.size w W0) := ⟨by rw [← hW0]; exact below_alloc (Below.refl _ _) _⟩
  have hs0 : W0.heap.size = w.heap.size + 1 := by rw [← hW0]; simp
  have y0 : W0.cell? ⟨w.heap.size, 0, none⟩ = some (.slice An z.name.length cn) := by rw [← hW0]; simp
  have y1 : W0.cell? ⟨w.heap.size, 1, none⟩ = some (.slice Ar z.recs.length cr) := by rw [← hW0]; simp
  have z0 := Aside0.mk (And.intro y0 y1)
  have HW0 := Aside0.mk hW0
  have HS0 := Aside0.mk hs0
  clear hW0 hs0
  go_enter Try.func79, Try.ntmps79
  go_wp2_with fail
  rw [HW0.out]
  go_wp2_with fail
  go_loopg [7, 13] z.recs.length (fun gg s7 s13 wr => ∃ k : Nat, k ≤ z.recs.length ∧ z.recs.length - k ≤ gg ∧ s13 = .int .i64 k ∧ Aside0 (Below W0.heap.size W0 wr) ∧ Aside0 (kR.Own 44 wr W0.heap.size (fun k => W0.heap.size ≤ k) s7 (zof (z.recs.take k) n 255)))
  case atStart => exact ⟨0, Nat.zero_le _, by omega, rfl, ⟨Below.refl _ _⟩, ⟨Own.nil _ _ _ _ _⟩⟩
  case round =>
    obtain ⟨k, hk, hg, rfl, HB, HO⟩ := hrel
    clear y0 y1
    have y0 := (HB.out.cell (p := ⟨w.heap.size, 0, none⟩) (by rw [HS0.out]; simp)).trans z0.out.1
    have y1 := (HB.out.cell (p := ⟨w.heap.size, 1, none⟩) (by rw [HS0.out]; simp)).trans z0.out.2
    by_cases hlt : k < z.recs.length
    · have hbw := BX.out.trans (HB.out.mono BX.out.size)
      have hszr : w.heap.size < wr.heap.size := by have := HB.out.size; rw [HS0.out] at this; omega
      obtain ⟨Ar', cr', he, _, hrow⟩ := RR'.out.below pR hbw
      obtain ⟨rfl, rfl⟩ : Ar = Ar' ∧ cr = cr' := by injection he with h1 _ h3; exact ⟨h1, h3⟩
      obtain ⟨ad, vv, c4, c5, c6, c7, c8, rfl, hK, e0, e1, e2, e3, e4, e5, e6, e7, e8⟩ := cell_r hrow k hlt
      have HLT := Aside0.mk hlt
      have HST := Aside0.mk (zof_step z.recs n 255 k hlt)
      have HRM : Aside0 (((zof (z.recs.take k) n 255).length + 1) * kR.bytes ≤ B47) := ⟨by
        have h1 := zof_len (z.recs.take k) n 255
        rw [List.length_take] at h1
        have : (zof (z.recs.take k) n 255).length + 1 ≤ z.recs.length := by omega
        exact Nat.le_trans (Nat.mul_le_mul_right _ this) hroom⟩
      generalize hy : z.recs[k] = r at hK e1 e2 e3 HST
      generalize zof (z.recs.take k) n 255 = acc at HO HST HRM
      obtain ⟨A0, k0, A4, k4, A5, k5, A6, k6, A7, k7, A8, k8, rfl, rfl, rfl, rfl, rfl, rfl⟩ := kR_form hK
      have HK := Aside0.mk hK
      have hKn := hK
      obtain ⟨v0, cd0, hcs, hv0, _⟩ := hKn
      obtain rfl : Value.slice A0 r.name.length k0 = v0 := by injection hcs
      have HV := Aside0.mk hv0
      clear hcs hv0 hy hK hrow he
      obtain ⟨As, ks, rfl, _⟩ := HO.out.slice_
      have PK : Aside0 ((decide ((255 : Int) = 255) || decide (r.typ = 255)) = true) := ⟨rfl⟩
      go_wp2_with fail
      generalize hW1 : wr.alloc (.cells #[.slice A0 r.name.length k0, .int .i64 r.typ, .int .i64 r.cls, .int .i64 r.ttl, .slice A4 r.data.bytes.length k4, .slice A5 r.data.host.length k5, .slice A6 r.data.mail.length k6, .slice A7 r.data.nums.length k7, .slice A8 r.data.texts.length k8] 44) = W1
      have hs1 : W1.heap.size = wr.heap.size + 1 := by rw [← hW1]; simp
      have BWr : Below wr.heap.size wr W1 := by rw [← hW1]; exact below_alloc (Below.refl _ _) _
      have BW : Aside0 (Below w.heap.size w W1) := ⟨hbw.trans (BWr.mono hbw.size)⟩
      have BWr := Aside0.mk BWr
      have BR1 : Aside0 (Below W0.heap.size W0 W1) := ⟨HB.out.trans (BWr.out.mono HB.out.size)⟩
      have OW1 := Aside0.mk (HO.out.below BWr.out)
      have x0 : W1.cell? ⟨wr.heap.size, 0, none⟩ = some (.slice A0 r.name.length k0) := by rw [← hW1]; simp
      have x1 : W1.cell? ⟨wr.heap.size, 1, none⟩ = some (.int .i64 r.typ) := by rw [← hW1]; simp
      have x2 : W1.cell? ⟨wr.heap.size, 2, none⟩ = some (.int .i64 r.cls) := by rw [← hW1]; simp
      have x3 : W1.cell? ⟨wr.heap.size, 3, none⟩ = some (.int .i64 r.ttl) := by rw [← hW1]; simp
      have x4 : W1.cell? ⟨wr.heap.size, 4, none⟩ = some (.slice A4 r.data.bytes.length k4) := by rw [← hW1]; simp
      have x5 : W1.cell? ⟨wr.heap.size, 5, none⟩ = some (.slice A5 r.data.host.length k5) := by rw [← hW1]; simp
      have x6 : W1.cell? ⟨wr.heap.size, 6, none⟩ = some (.slice A6 r.data.mail.length k6) := by rw [← hW1]; simp
      have x7 : W1.cell? ⟨wr.heap.size, 7, none⟩ = some (.slice A7 r.data.nums.length k7) := by rw [← hW1]; simp
      have x8 : W1.cell? ⟨wr.heap.size, 8, none⟩ = some (.slice A8 r.data.texts.length k8) := by rw [← hW1]; simp
      have y0' := (BWr.out.cell (p := ⟨w.heap.size, 0, none⟩) hszr).trans y0
      have y1' := (BWr.out.cell (p := ⟨w.heap.size, 1, none⟩) hszr).trans y1
      have hl1 : w.heap.size < W1.heap.size := by omega
      have hl2 : wr.heap.size < W1.heap.size := by omega
      have HS1 := Aside0.mk hs1
      clear hW1 hs1 e0 e1 e2 e3 e4 e5 e6 e7 e8 y0 y1 hbw
      go_wp2_with fail
      cases p3 : nEq r.name n with
      | false =>
        have P3 := Aside0.mk p3
        clear p3
        refine (bv (equal_calls _ _ r.name n _ (HV.out.below pS BWr.out) (HN.out.below pS BW.out)) P3.out).mono ?_
        rintro e w2 ⟨rfl, hb2⟩
        have HB2 := Aside0.mk hb2
        clear hb2
        obtain ⟨bc, bf⟩ := bcell HB2.out
        have BRX : Aside0 (Below W0.heap.size W0 w2) := ⟨BR1.out.trans (HB2.out.mono BR1.out.size)⟩
        have OWX := (OW1.out.below HB2.out)
        go_wp2_with fail
        go_roundg (z.recs.length - (k + 1))
        case measure => have := HLT.out; omega
        case rel =>
          refine ⟨k + 1, by have := HLT.out; omega, by omega, by go_num, BRX, ?_⟩
          rw [HST.out, P3.out, Bool.and_false]
          simpa using Aside0.mk OWX
      | true =>
        have P3 := Aside0.mk p3
        clear p3
        refine (bv (equal_calls _ _ r.name n _ (HV.out.below pS BWr.out) (HN.out.below pS BW.out)) P3.out).mono ?_
        rintro e w2 ⟨rfl, hb2⟩
        have HB2 := Aside0.mk hb2
        clear hb2
        obtain ⟨bc, bf⟩ := bcell HB2.out
        have BRX : Aside0 (Below W0.heap.size W0 w2) := ⟨BR1.out.trans (HB2.out.mono BR1.out.size)⟩
        have OWX := (OW1.out.below HB2.out)
        have OWX := Aside0.mk OWX
        go_wp2_with fail
        refine (zown_calls r [.slice A0 r.name.length k0, .int .i64 r.typ, .int .i64 r.cls, .int .i64 r.ttl, .slice A4 r.data.bytes.length k4, .slice A5 r.data.host.length k5, .slice A6 r.data.mail.length k6, .slice A7 r.data.nums.length k7, .slice A8 r.data.texts.length k8] _ (K_below HK.out (BWr.out.trans (HB2.out.mono BWr.out.size)))).mono ?_
        rintro e w3 ⟨cs3, rfl, hk3, hb3⟩
        have HB3 := Aside0.mk hb3
        have HK3 := Aside0.mk hk3
        have BR3 : Aside0 (Below W0.heap.size W0 w3) := ⟨BRX.out.trans (HB3.out.mono BRX.out.size)⟩
        have OW3 := Aside0.mk (OWX.out.below HB3.out)
        obtain ⟨A0', k0', A4', k4', A5', k5', A6', k6', A7', k7', A8', k8', rfl⟩ := kR_forms hk3
        have HP : Aside0 (kR.K w3 (fun k => W0.heap.size ≤ k ∧ some k ≠ (Value.slice As acc.length ks).ownBlock) r _) := ⟨kR.mono (fun kk hkk => ⟨Nat.le_trans BRX.out.size hkk, fun he => by have := (OWX.out.lt kk he.symm).2; omega⟩) HK3.out⟩
        clear hk3 hb3 bc bf
        go_wp2_with (at_builtin; refine Own.append kR W0.heap.size rfl (.tmp 31) (.tmp 34) 23 44 (.agg #[.slice none 0 0, .int .i64 0, .int .i64 0, .int .i64 0, .slice none 0 0, .slice none 0 0, .slice none 0 0, .slice none 0 0, .slice none 0 0]) rfl Try.underlying23 infoR0 rfl (by decide) (by decide) _ _ _ _ _ rfl rfl HP.out OW3.out BR3.out BR3.out.size HRM.out ?_; intro v4 w4 ho4 hb4 hg4 ha4)
        go_roundg (z.recs.length - (k + 1))
        case measure => have := HLT.out; omega
        case rel =>
          refine ⟨k + 1, by have := HLT.out; omega, by omega, by go_num, ⟨hb4⟩, ?_⟩
          rw [HST.out, P3.out, PK.out]
          exact ⟨ho4⟩
    · have hka : k = z.recs.length := by omega
      have HK := Aside0.mk hka
      clear hka
      go_wp2
      go_ret
      have ho := HO.out
      rw [HK.out, List.take_length] at ho
      exact ⟨_, rfl, ho.rd (fun _ h => Nat.le_trans BX.out.size h) (fun _ h => Nat.le_trans BX.out.size h), BX.out.trans (HB.out.mono BX.out.size)⟩
set_option maxHeartbeats 8000000 in
set_option maxRecDepth 100000 in
theorem zof_other (z : Zone) (cz : List Value) (v : Value) (n : List ByteArray) (kind : Int) (w : World) (hz : kZ.K w (fun _ => True) z cz) (hv : kS.Rd w (fun _ => True) v n) (f1 : (kind == 255) = false) :
    Calls Try.prog 79 #[.agg cz.toArray, v, .int .i64 kind] w (Gives kR w (zof z.recs n kind)) := by
  obtain ⟨vn, vr, rfl, hn, hr⟩ := hz
  have HN := Aside0.mk hv
  have HQ : Aside0 (¬ kind = 255) := ⟨beq_eq_false_iff_ne.mp f1⟩
  have RR' := Aside0.mk hr
  have hmax := hr.max
  have hroom := hr.room
  have hbytes : kR.bytes = 168 := rfl
  obtain ⟨An, cn, rfl, hln, _⟩ := hn
  obtain ⟨Ar, cr, rfl, hlr, _⟩ := hr
  obtain ⟨Av, cv, rfl, _, _⟩ := hv
  generalize hW0 : w.alloc (.cells #[.slice An z.name.length cn, .slice Ar z.recs.length cr] 25) = W0
  have BX : Aside0 (Below w.heap.size w W0) := ⟨by rw [← hW0]; exact below_alloc (Below.refl _ _) _⟩
  have hs0 : W0.heap.size = w.heap.size + 1 := by rw [← hW0]; simp
  have y0 : W0.cell? ⟨w.heap.size, 0, none⟩ = some (.slice An z.name.length cn) := by rw [← hW0]; simp
  have y1 : W0.cell? ⟨w.heap.size, 1, none⟩ = some (.slice Ar z.recs.length cr) := by rw [← hW0]; simp
  have z0 := Aside0.mk (And.intro y0 y1)
  have HW0 := Aside0.mk hW0
  have HS0 := Aside0.mk hs0
  clear hW0 hs0
  go_enter Try.func79, Try.ntmps79
  go_wp2_with fail
  rw [HW0.out]
  go_wp2_with fail
  go_loopg [7, 13] z.recs.length (fun gg s7 s13 wr => ∃ k : Nat, k ≤ z.recs.length ∧ z.recs.length - k ≤ gg ∧ s13 = .int .i64 k ∧ Aside0 (Below W0.heap.size W0 wr) ∧ Aside0 (kR.Own 44 wr W0.heap.size (fun k => W0.heap.size ≤ k) s7 (zof (z.recs.take k) n kind)))
  case atStart => exact ⟨0, Nat.zero_le _, by omega, rfl, ⟨Below.refl _ _⟩, ⟨Own.nil _ _ _ _ _⟩⟩
  case round =>
    obtain ⟨k, hk, hg, rfl, HB, HO⟩ := hrel
    clear y0 y1
    have y0 := (HB.out.cell (p := ⟨w.heap.size, 0, none⟩) (by rw [HS0.out]; simp)).trans z0.out.1
    have y1 := (HB.out.cell (p := ⟨w.heap.size, 1, none⟩) (by rw [HS0.out]; simp)).trans z0.out.2
    by_cases hlt : k < z.recs.length
    · have hbw := BX.out.trans (HB.out.mono BX.out.size)
      have hszr : w.heap.size < wr.heap.size := by have := HB.out.size; rw [HS0.out] at this; omega
      obtain ⟨Ar', cr', he, _, hrow⟩ := RR'.out.below pR hbw
      obtain ⟨rfl, rfl⟩ : Ar = Ar' ∧ cr = cr' := by injection he with h1 _ h3; exact ⟨h1, h3⟩
      obtain ⟨ad, vv, c4, c5, c6, c7, c8, rfl, hK, e0, e1, e2, e3, e4, e5, e6, e7, e8⟩ := cell_r hrow k hlt
      have HLT := Aside0.mk hlt
      have HST := Aside0.mk (zof_step z.recs n kind k hlt)
      have HRM : Aside0 (((zof (z.recs.take k) n kind).length + 1) * kR.bytes ≤ B47) := ⟨by
        have h1 := zof_len (z.recs.take k) n kind
        rw [List.length_take] at h1
        have : (zof (z.recs.take k) n kind).length + 1 ≤ z.recs.length := by omega
        exact Nat.le_trans (Nat.mul_le_mul_right _ this) hroom⟩
      generalize hy : z.recs[k] = r at hK e1 e2 e3 HST
      generalize zof (z.recs.take k) n kind = acc at HO HST HRM
      obtain ⟨A0, k0, A4, k4, A5, k5, A6, k6, A7, k7, A8, k8, rfl, rfl, rfl, rfl, rfl, rfl⟩ := kR_form hK
      have HK := Aside0.mk hK
      have hKn := hK
      obtain ⟨v0, cd0, hcs, hv0, _⟩ := hKn
      obtain rfl : Value.slice A0 r.name.length k0 = v0 := by injection hcs
      have HV := Aside0.mk hv0
      clear hcs hv0 hy hK hrow he
      obtain ⟨As, ks, rfl, _⟩ := HO.out.slice_
      by_cases q2 : r.typ = kind
      · have f2 : (r.typ == kind) = true := beq_iff_eq.mpr q2
        have PK : Aside0 ((decide (kind = 255) || decide (r.typ = kind)) = true) := ⟨by rw [decide_eq_true q2, Bool.or_true]⟩
        clear q2
        go_wp2_with fail
        generalize hW1 : wr.alloc (.cells #[.slice A0 r.name.length k0, .int .i64 r.typ, .int .i64 r.cls, .int .i64 r.ttl, .slice A4 r.data.bytes.length k4, .slice A5 r.data.host.length k5, .slice A6 r.data.mail.length k6, .slice A7 r.data.nums.length k7, .slice A8 r.data.texts.length k8] 44) = W1
        have hs1 : W1.heap.size = wr.heap.size + 1 := by rw [← hW1]; simp
        have BWr : Below wr.heap.size wr W1 := by rw [← hW1]; exact below_alloc (Below.refl _ _) _
        have BW : Aside0 (Below w.heap.size w W1) := ⟨hbw.trans (BWr.mono hbw.size)⟩
        have BWr := Aside0.mk BWr
        have BR1 : Aside0 (Below W0.heap.size W0 W1) := ⟨HB.out.trans (BWr.out.mono HB.out.size)⟩
        have OW1 := Aside0.mk (HO.out.below BWr.out)
        have x0 : W1.cell? ⟨wr.heap.size, 0, none⟩ = some (.slice A0 r.name.length k0) := by rw [← hW1]; simp
        have x1 : W1.cell? ⟨wr.heap.size, 1, none⟩ = some (.int .i64 r.typ) := by rw [← hW1]; simp
        have x2 : W1.cell? ⟨wr.heap.size, 2, none⟩ = some (.int .i64 r.cls) := by rw [← hW1]; simp
        have x3 : W1.cell? ⟨wr.heap.size, 3, none⟩ = some (.int .i64 r.ttl) := by rw [← hW1]; simp
        have x4 : W1.cell? ⟨wr.heap.size, 4, none⟩ = some (.slice A4 r.data.bytes.length k4) := by rw [← hW1]; simp
        have x5 : W1.cell? ⟨wr.heap.size, 5, none⟩ = some (.slice A5 r.data.host.length k5) := by rw [← hW1]; simp
        have x6 : W1.cell? ⟨wr.heap.size, 6, none⟩ = some (.slice A6 r.data.mail.length k6) := by rw [← hW1]; simp
        have x7 : W1.cell? ⟨wr.heap.size, 7, none⟩ = some (.slice A7 r.data.nums.length k7) := by rw [← hW1]; simp
        have x8 : W1.cell? ⟨wr.heap.size, 8, none⟩ = some (.slice A8 r.data.texts.length k8) := by rw [← hW1]; simp
        have y0' := (BWr.out.cell (p := ⟨w.heap.size, 0, none⟩) hszr).trans y0
        have y1' := (BWr.out.cell (p := ⟨w.heap.size, 1, none⟩) hszr).trans y1
        have hl1 : w.heap.size < W1.heap.size := by omega
        have hl2 : wr.heap.size < W1.heap.size := by omega
        have HS1 := Aside0.mk hs1
        clear hW1 hs1 e0 e1 e2 e3 e4 e5 e6 e7 e8 y0 y1 hbw
        go_wp2_with fail
        cases p3 : nEq r.name n with
        | false =>
          have P3 := Aside0.mk p3
          clear p3
          refine (bv (equal_calls _ _ r.name n _ (HV.out.below pS BWr.out) (HN.out.below pS BW.out)) P3.out).mono ?_
          rintro e w2 ⟨rfl, hb2⟩
          have HB2 := Aside0.mk hb2
          clear hb2
          obtain ⟨bc, bf⟩ := bcell HB2.out
          have BRX : Aside0 (Below W0.heap.size W0 w2) := ⟨BR1.out.trans (HB2.out.mono BR1.out.size)⟩
          have OWX := (OW1.out.below HB2.out)
          go_wp2_with fail
          go_roundg (z.recs.length - (k + 1))
          case measure => have := HLT.out; omega
          case rel =>
            refine ⟨k + 1, by have := HLT.out; omega, by omega, by go_num, BRX, ?_⟩
            rw [HST.out, P3.out, Bool.and_false]
            simpa using Aside0.mk OWX
        | true =>
          have P3 := Aside0.mk p3
          clear p3
          refine (bv (equal_calls _ _ r.name n _ (HV.out.below pS BWr.out) (HN.out.below pS BW.out)) P3.out).mono ?_
          rintro e w2 ⟨rfl, hb2⟩
          have HB2 := Aside0.mk hb2
          clear hb2
          obtain ⟨bc, bf⟩ := bcell HB2.out
          have BRX : Aside0 (Below W0.heap.size W0 w2) := ⟨BR1.out.trans (HB2.out.mono BR1.out.size)⟩
          have OWX := (OW1.out.below HB2.out)
          have OWX := Aside0.mk OWX
          go_wp2_with fail
          refine (zown_calls r [.slice A0 r.name.length k0, .int .i64 r.typ, .int .i64 r.cls, .int .i64 r.ttl, .slice A4 r.data.bytes.length k4, .slice A5 r.data.host.length k5, .slice A6 r.data.mail.length k6, .slice A7 r.data.nums.length k7, .slice A8 r.data.texts.length k8] _ (K_below HK.out (BWr.out.trans (HB2.out.mono BWr.out.size)))).mono ?_
          rintro e w3 ⟨cs3, rfl, hk3, hb3⟩
          have HB3 := Aside0.mk hb3
          have HK3 := Aside0.mk hk3
          have BR3 : Aside0 (Below W0.heap.size W0 w3) := ⟨BRX.out.trans (HB3.out.mono BRX.out.size)⟩
          have OW3 := Aside0.mk (OWX.out.below HB3.out)
          obtain ⟨A0', k0', A4', k4', A5', k5', A6', k6', A7', k7', A8', k8', rfl⟩ := kR_forms hk3
          have HP : Aside0 (kR.K w3 (fun k => W0.heap.size ≤ k ∧ some k ≠ (Value.slice As acc.length ks).ownBlock) r _) := ⟨kR.mono (fun kk hkk => ⟨Nat.le_trans BRX.out.size hkk, fun he => by have := (OWX.out.lt kk he.symm).2; omega⟩) HK3.out⟩
          clear hk3 hb3 bc bf
          go_wp2_with (at_builtin; refine Own.append kR W0.heap.size rfl (.tmp 31) (.tmp 34) 23 44 (.agg #[.slice none 0 0, .int .i64 0, .int .i64 0, .int .i64 0, .slice none 0 0, .slice none 0 0, .slice none 0 0, .slice none 0 0, .slice none 0 0]) rfl Try.underlying23 infoR0 rfl (by decide) (by decide) _ _ _ _ _ rfl rfl HP.out OW3.out BR3.out BR3.out.size HRM.out ?_; intro v4 w4 ho4 hb4 hg4 ha4)
          go_roundg (z.recs.length - (k + 1))
          case measure => have := HLT.out; omega
          case rel =>
            refine ⟨k + 1, by have := HLT.out; omega, by omega, by go_num, ⟨hb4⟩, ?_⟩
            rw [HST.out, P3.out, PK.out]
            exact ⟨ho4⟩

      · have f2 : (r.typ == kind) = false := beq_eq_false_iff_ne.mpr q2
        have PK : Aside0 ((decide (kind = 255) || decide (r.typ = kind)) = false) := ⟨by rw [decide_eq_false q2, decide_eq_false HQ.out]; rfl⟩
        clear q2
        go_wp2_with fail
        generalize hW1 : wr.alloc (.cells #[.slice A0 r.name.length k0, .int .i64 r.typ, .int .i64 r.cls, .int .i64 r.ttl, .slice A4 r.data.bytes.length k4, .slice A5 r.data.host.length k5, .slice A6 r.data.mail.length k6, .slice A7 r.data.nums.length k7, .slice A8 r.data.texts.length k8] 44) = W1
        have hs1 : W1.heap.size = wr.heap.size + 1 := by rw [← hW1]; simp
        have BWr : Below wr.heap.size wr W1 := by rw [← hW1]; exact below_alloc (Below.refl _ _) _
        have BW : Aside0 (Below w.heap.size w W1) := ⟨hbw.trans (BWr.mono hbw.size)⟩
        have BWr := Aside0.mk BWr
        have BR1 : Aside0 (Below W0.heap.size W0 W1) := ⟨HB.out.trans (BWr.out.mono HB.out.size)⟩
        have OW1 := Aside0.mk (HO.out.below BWr.out)
        have x0 : W1.cell? ⟨wr.heap.size, 0, none⟩ = some (.slice A0 r.name.length k0) := by rw [← hW1]; simp
        have x1 : W1.cell? ⟨wr.heap.size, 1, none⟩ = some (.int .i64 r.typ) := by rw [← hW1]; simp
        have x2 : W1.cell? ⟨wr.heap.size, 2, none⟩ = some (.int .i64 r.cls) := by rw [← hW1]; simp
        have x3 : W1.cell? ⟨wr.heap.size, 3, none⟩ = some (.int .i64 r.ttl) := by rw [← hW1]; simp
        have x4 : W1.cell? ⟨wr.heap.size, 4, none⟩ = some (.slice A4 r.data.bytes.length k4) := by rw [← hW1]; simp
        have x5 : W1.cell? ⟨wr.heap.size, 5, none⟩ = some (.slice A5 r.data.host.length k5) := by rw [← hW1]; simp
        have x6 : W1.cell? ⟨wr.heap.size, 6, none⟩ = some (.slice A6 r.data.mail.length k6) := by rw [← hW1]; simp
        have x7 : W1.cell? ⟨wr.heap.size, 7, none⟩ = some (.slice A7 r.data.nums.length k7) := by rw [← hW1]; simp
        have x8 : W1.cell? ⟨wr.heap.size, 8, none⟩ = some (.slice A8 r.data.texts.length k8) := by rw [← hW1]; simp
        have y0' := (BWr.out.cell (p := ⟨w.heap.size, 0, none⟩) hszr).trans y0
        have y1' := (BWr.out.cell (p := ⟨w.heap.size, 1, none⟩) hszr).trans y1
        have hl1 : w.heap.size < W1.heap.size := by omega
        have hl2 : wr.heap.size < W1.heap.size := by omega
        have HS1 := Aside0.mk hs1
        clear hW1 hs1 e0 e1 e2 e3 e4 e5 e6 e7 e8 y0 y1 hbw
        have BRX := BR1
        have OWX := OW1.out
        go_wp2_with fail
        go_roundg (z.recs.length - (k + 1))
        case measure => have := HLT.out; omega
        case rel =>
          refine ⟨k + 1, by have := HLT.out; omega, by omega, by go_num, BRX, ?_⟩
          rw [HST.out, PK.out, Bool.false_and]
          simpa using Aside0.mk OWX
    · have hka : k = z.recs.length := by omega
      have HK := Aside0.mk hka
      clear hka
      go_wp2
      go_ret
      have ho := HO.out
      rw [HK.out, List.take_length] at ho
      exact ⟨_, rfl, ho.rd (fun _ h => Nat.le_trans BX.out.size h) (fun _ h => Nat.le_trans BX.out.size h), BX.out.trans (HB.out.mono BX.out.size)⟩
theorem zof_calls (z : Zone) (cz : List Value) (v : Value) (n : List ByteArray) (kind : Int) (w : World) (hz : kZ.K w (fun _ => True) z cz) (hv : kS.Rd w (fun _ => True) v n) :
    Calls Try.prog 79 #[.agg cz.toArray, v, .int .i64 kind] w (Gives kR w (zof z.recs n kind)) := by
  by_cases h : kind = 255
  · subst h; exact zof_any z cz v n w hz hv
  · exact zof_other z cz v n kind w hz hv (beq_eq_false_iff_ne.mpr h)
end Go.Proofs.Ytkbjbkmaokebgaa.Gz

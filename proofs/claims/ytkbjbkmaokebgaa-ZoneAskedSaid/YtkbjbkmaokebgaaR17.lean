import Derived.Test.YtkbjbkmaokebgaaKit2
set_option linter.unusedVariables false
set_option linter.unusedSimpArgs false
namespace Go.Proofs.Ytkbjbkmaokebgaa.Gz
open Go.RowKit Go.Proofs.YtkbjbkmaokebgaaW.PrintWords
open Ki
/-- A call hands back a row of its own, whose elements lead to what was there. -/
def GivesShared (w : World) (xs : List RR) (e : Ending) (w' : World) : Prop :=
  ∃ v, e = .returned v ∧ kR.Own 44 w' w.heap.size (fun k => k < w.heap.size) v xs ∧ Below w.heap.size w w'
set_option maxHeartbeats 8000000 in
set_option maxRecDepth 100000 in
theorem rof_calls (z : Zone) (cz : List Value) (v : Value) (n : List ByteArray) (kind : Int) (w : World) (hz : kZ.K w (fun _ => True) z cz) (hv : kS.Rd w (fun _ => True) v n) :
    Calls Try.prog 45 #[.agg cz.toArray, v, .int .i64 kind] w (GivesShared w (zof z.recs n kind)) := by
  obtain ⟨vn, vr, rfl, hn, hr⟩ := hz
  have HN := Aside0.mk hv
  have RR' := Aside0.mk (hr.low pR)
  have hmax := hr.max
  have hroom := Aside0.mk hr.room
  obtain ⟨An, cn, rfl, hln, _⟩ := hn
  obtain ⟨Ar, cr, rfl, hlr, _⟩ := hr
  obtain ⟨Av, cv, rfl, _, _⟩ := hv
  generalize hW0 : w.alloc (.cells #[.slice An z.name.length cn, .slice Ar z.recs.length cr] 31) = W0
  have BX : Aside0 (Below w.heap.size w W0) := ⟨by rw [← hW0]; exact below_alloc (Below.refl _ _) _⟩
  have hs0 : W0.heap.size = w.heap.size + 1 := by rw [← hW0]; simp
  have y0 : W0.cell? ⟨w.heap.size, 0, none⟩ = some (.slice An z.name.length cn) := by rw [← hW0]; simp
  have y1 : W0.cell? ⟨w.heap.size, 1, none⟩ = some (.slice Ar z.recs.length cr) := by rw [← hW0]; simp
  have z0 := Aside0.mk (And.intro y0 y1)
  have HW0 := Aside0.mk hW0
  have HS0 := Aside0.mk hs0
  clear hW0 hs0 y0 y1
  go_enter Try.func45, Try.ntmps45
  go_wp2_with fail
  rw [HW0.out]
  go_loopg [7, 8] z.recs.length (fun gg s7 s8 wr => ∃ k : Nat, k ≤ z.recs.length ∧ z.recs.length - k ≤ gg ∧ s8 = .int .i64 k ∧ Aside0 (Below W0.heap.size W0 wr) ∧ Aside0 (kR.Own 44 wr W0.heap.size (fun k => k < w.heap.size) s7 (zof (z.recs.take k) n kind)))
  case atStart => exact ⟨0, Nat.zero_le _, by omega, rfl, ⟨Below.refl _ _⟩, ⟨Own.nil _ _ _ _ _⟩⟩
  case round =>
    obtain ⟨k, hk, hg, rfl, HB, HO⟩ := hrel
    have y1 := (HB.out.cell (p := ⟨w.heap.size, 1, none⟩) (by rw [HS0.out]; simp)).trans z0.out.2
    obtain ⟨As, ks, rfl, _⟩ := HO.out.slice_
    by_cases hlt : k < z.recs.length
    · have hbw := Aside0.mk (BX.out.trans (HB.out.mono BX.out.size))
      obtain ⟨Ar', cr', he, _, hrow⟩ := RR'.out.below pR hbw.out
      obtain ⟨rfl, rfl⟩ : Ar = Ar' ∧ cr = cr' := by injection he with h1 _ h3; exact ⟨h1, h3⟩
      obtain ⟨ad, vv, c4, c5, c6, c7, c8, rfl, hK, e0, e1, e2, e3, e4, e5, e6, e7, e8⟩ := cell_r hrow k hlt
      have HLT := Aside0.mk hlt
      have HST := Aside0.mk (zof_step z.recs n kind k hlt)
      have HRM : Aside0 (((zof (z.recs.take k) n kind).length + 1) * kR.bytes ≤ B47) := ⟨by
        have h1 := zof_len (z.recs.take k) n kind
        rw [List.length_take] at h1
        have : (zof (z.recs.take k) n kind).length + 1 ≤ z.recs.length := by omega
        exact Nat.le_trans (Nat.mul_le_mul_right _ this) hroom.out⟩
      generalize z.recs[k] = r at hK e1 e2 e3 HST
      generalize zof (z.recs.take k) n kind = acc at HO HST HRM
      obtain ⟨A0, k0, A4, k4, A5, k5, A6, k6, A7, k7, A8, k8, rfl, rfl, rfl, rfl, rfl, rfl⟩ := kR_form hK
      have HK := Aside0.mk hK
      have hKn := hK
      obtain ⟨v0, cd0, hcs, hv0, _⟩ := hKn
      obtain rfl : Value.slice A0 r.name.length k0 = v0 := by injection hcs
      have HV := Aside0.mk hv0.any
      clear hcs hv0 hK hrow he
      go_wp2_with fail
      generalize hW1 : wr.alloc (.cells #[.slice A0 r.name.length k0, .int .i64 r.typ, .int .i64 r.cls, .int .i64 r.ttl, .slice A4 r.data.bytes.length k4, .slice A5 r.data.host.length k5, .slice A6 r.data.mail.length k6, .slice A7 r.data.nums.length k7, .slice A8 r.data.texts.length k8] 44) = W1
      have hs1 : W1.heap.size = wr.heap.size + 1 := by rw [← hW1]; simp
      have BWr : Below wr.heap.size wr W1 := by rw [← hW1]; exact below_alloc (Below.refl _ _) _
      have BWr := Aside0.mk BWr
      have BW : Aside0 (Below w.heap.size w W1) := ⟨hbw.out.trans (BWr.out.mono hbw.out.size)⟩
      have BR1 : Aside0 (Below W0.heap.size W0 W1) := ⟨HB.out.trans (BWr.out.mono HB.out.size)⟩
      have x0 : W1.cell? ⟨wr.heap.size, 0, none⟩ = some (Value.slice A0 r.name.length k0) := by rw [← hW1, cellN rfl]; rfl
      have x1 : W1.cell? ⟨wr.heap.size, 1, none⟩ = some (.int .i64 r.typ) := by rw [← hW1, cellN rfl]; rfl
      have x2 : W1.cell? ⟨wr.heap.size, 2, none⟩ = some (.int .i64 r.cls) := by rw [← hW1, cellN rfl]; rfl
      have x3 : W1.cell? ⟨wr.heap.size, 3, none⟩ = some (.int .i64 r.ttl) := by rw [← hW1, cellN rfl]; rfl
      have x4 : W1.cell? ⟨wr.heap.size, 4, none⟩ = some (.slice A4 r.data.bytes.length k4) := by rw [← hW1, cellN rfl]; rfl
      have x5 : W1.cell? ⟨wr.heap.size, 5, none⟩ = some (.slice A5 r.data.host.length k5) := by rw [← hW1, cellN rfl]; rfl
      have x6 : W1.cell? ⟨wr.heap.size, 6, none⟩ = some (.slice A6 r.data.mail.length k6) := by rw [← hW1, cellN rfl]; rfl
      have x7 : W1.cell? ⟨wr.heap.size, 7, none⟩ = some (.slice A7 r.data.nums.length k7) := by rw [← hW1, cellN rfl]; rfl
      have x8 : W1.cell? ⟨wr.heap.size, 8, none⟩ = some (.slice A8 r.data.texts.length k8) := by rw [← hW1, cellN rfl]; rfl
      have hl2 : wr.heap.size < W1.heap.size := by omega
      clear hW1 hs1 e0 e1 e2 e3 e4 e5 e6 e7 e8 y1
      cases p3 : nEq r.name n with
      | false =>
        have P3 := Aside0.mk p3
        clear p3
        refine (bv (requal_calls _ _ r.name n _ (HV.out.below pS BWr.out) (HN.out.below pS BW.out)) P3.out).mono ?_
        rintro e w2 ⟨rfl, hb2⟩
        have HB2 := Aside0.mk hb2
        obtain ⟨bc, bf⟩ := bcell hb2
        clear hb2
        have BRX : Aside0 (Below W0.heap.size W0 w2) := ⟨BR1.out.trans (HB2.out.mono BR1.out.size)⟩
        have OWX := Aside0.mk ((HO.out.below BWr.out).below HB2.out)
        go_wp2_with fail
        go_roundg (z.recs.length - (k + 1))
        case measure => have := HLT.out; omega
        case rel =>
          refine ⟨k + 1, by have := HLT.out; omega, by omega, by go_num, BRX, ?_⟩
          rw [HST.out, P3.out, Bool.and_false]
          simpa using OWX
      | true =>
        have P3 := Aside0.mk p3
        clear p3
        refine (bv (requal_calls _ _ r.name n _ (HV.out.below pS BWr.out) (HN.out.below pS BW.out)) P3.out).mono ?_
        rintro e w2 ⟨rfl, hb2⟩
        have HB2 := Aside0.mk hb2
        obtain ⟨bc, bf⟩ := bcell hb2
        clear hb2
        have BRX : Aside0 (Below W0.heap.size W0 w2) := ⟨BR1.out.trans (HB2.out.mono BR1.out.size)⟩
        have OWX := Aside0.mk ((HO.out.below BWr.out).below HB2.out)
        by_cases a1 : kind = 255
        · have f1 : (kind == 255) = true := beq_iff_eq.mpr a1
          have A1 := Aside0.mk a1
          clear a1
          have PK : Aside0 ((decide (kind = 255) || decide (r.typ = kind)) = true) := ⟨by rw [decide_eq_true A1.out]; rfl⟩
          have HP : Aside0 (kR.K w2 (fun k => k < w.heap.size ∧ some k ≠ (Value.slice As acc.length ks).ownBlock) r [.slice A0 r.name.length k0, .int .i64 r.typ, .int .i64 r.cls, .int .i64 r.ttl, .slice A4 r.data.bytes.length k4, .slice A5 r.data.host.length k5, .slice A6 r.data.mail.length k6, .slice A7 r.data.nums.length k7, .slice A8 r.data.texts.length k8]) := ⟨kR.mono (fun kk hkk => ⟨hkk.2, fun he => by have h1 := (OWX.out.lt kk he.symm).1; have h2 := hkk.2; have h3 := BX.out.size; omega⟩) (K_below HK.out (BWr.out.trans (HB2.out.mono BWr.out.size)))⟩
          go_wp2_with (at_builtin; refine Own.append kR W0.heap.size rfl (.tmp 36) (.tmp 38) 23 44 (.agg #[.slice none 0 0, .int .i64 0, .int .i64 0, .int .i64 0, .slice none 0 0, .slice none 0 0, .slice none 0 0, .slice none 0 0, .slice none 0 0]) rfl Try.underlying23 infoR0 rfl (by decide) (by decide) _ _ _ _ _ rfl rfl HP.out OWX.out BRX.out BRX.out.size HRM.out ?_; intro v4 w4 ho4 hb4 hg4 ha4)
          go_roundg (z.recs.length - (k + 1))
          case measure => have := HLT.out; omega
          case rel =>
            refine ⟨k + 1, by have := HLT.out; omega, by omega, by go_num, ⟨hb4⟩, ?_⟩
            rw [HST.out, P3.out, PK.out]
            exact ⟨ho4⟩
        · have f1 : (kind == 255) = false := beq_eq_false_iff_ne.mpr a1
          by_cases a2 : r.typ = kind
          · have f2 : (r.typ == kind) = true := beq_iff_eq.mpr a2
            have A2 := Aside0.mk a2
            clear a1 a2
            have PK : Aside0 ((decide (kind = 255) || decide (r.typ = kind)) = true) := ⟨by rw [decide_eq_true A2.out, Bool.or_true]⟩
            have HP : Aside0 (kR.K w2 (fun k => k < w.heap.size ∧ some k ≠ (Value.slice As acc.length ks).ownBlock) r [.slice A0 r.name.length k0, .int .i64 r.typ, .int .i64 r.cls, .int .i64 r.ttl, .slice A4 r.data.bytes.length k4, .slice A5 r.data.host.length k5, .slice A6 r.data.mail.length k6, .slice A7 r.data.nums.length k7, .slice A8 r.data.texts.length k8]) := ⟨kR.mono (fun kk hkk => ⟨hkk.2, fun he => by have h1 := (OWX.out.lt kk he.symm).1; have h2 := hkk.2; have h3 := BX.out.size; omega⟩) (K_below HK.out (BWr.out.trans (HB2.out.mono BWr.out.size)))⟩
            go_wp2_with (at_builtin; refine Own.append kR W0.heap.size rfl (.tmp 36) (.tmp 38) 23 44 (.agg #[.slice none 0 0, .int .i64 0, .int .i64 0, .int .i64 0, .slice none 0 0, .slice none 0 0, .slice none 0 0, .slice none 0 0, .slice none 0 0]) rfl Try.underlying23 infoR0 rfl (by decide) (by decide) _ _ _ _ _ rfl rfl HP.out OWX.out BRX.out BRX.out.size HRM.out ?_; intro v4 w4 ho4 hb4 hg4 ha4)
            go_roundg (z.recs.length - (k + 1))
            case measure => have := HLT.out; omega
            case rel =>
              refine ⟨k + 1, by have := HLT.out; omega, by omega, by go_num, ⟨hb4⟩, ?_⟩
              rw [HST.out, P3.out, PK.out]
              exact ⟨ho4⟩
          · have f2 : (r.typ == kind) = false := beq_eq_false_iff_ne.mpr a2
            have A1 := Aside0.mk a1
            have A2 := Aside0.mk a2
            clear a1 a2
            go_wp2_with fail
            go_roundg (z.recs.length - (k + 1))
            case measure => have := HLT.out; omega
            case rel =>
              refine ⟨k + 1, by have := HLT.out; omega, by omega, by go_num, BRX, ?_⟩
              rw [HST.out, decide_eq_false A1.out, decide_eq_false A2.out, Bool.or_false, Bool.false_and]
              simpa using OWX
    · have hka : k = z.recs.length := by omega
      have HK := Aside0.mk hka
      clear hka
      go_wp2_with fail
      go_ret
      have ho := HO.out
      have hl : zof (z.recs.take k) n kind = zof z.recs n kind := by rw [HK.out, List.take_length]
      refine ⟨_, rfl, ?_, BX.out.trans (HB.out.mono BX.out.size)⟩
      rw [← hl]
      exact own_base ho BX.out.size
set_option maxHeartbeats 4000000 in
set_option maxRecDepth 100000 in
theorem rcut_calls (z : Zone) (cz : List Value) (v : Value) (n : List ByteArray) (ok : Nat → Prop) (w : World) (hz : kZ.K w (fun _ => True) z cz) (hv : kS.Rd w ok v n) :
    Calls Try.prog 18 #[.agg cz.toArray, v] w (GivesCut w ok (zcut z n)) := by
  have HZ := Aside0.mk hz
  have HV := Aside0.mk hv
  have hmn := hv.room
  obtain ⟨vn, vr, rfl, hn, hr⟩ := hz
  have hmz := hn.room
  have hbs : kS.bytes = 16 := rfl
  rw [hbs] at hmn hmz
  unfold B47 at hmn hmz
  obtain ⟨An, cn, rfl, hln, _⟩ := hn
  obtain ⟨Ar, cr, rfl, hlr, _⟩ := hr
  obtain ⟨Av, cv, rfl, hlv, _⟩ := hv
  generalize hW0 : w.alloc (.cells #[.slice An z.name.length cn, .slice Ar z.recs.length cr] 31) = W0
  have BX : Aside0 (Below w.heap.size w W0) := ⟨by rw [← hW0]; exact below_alloc (Below.refl _ _) _⟩
  have hs0 : W0.heap.size = w.heap.size + 1 := by rw [← hW0]; simp
  have y0 : W0.cell? ⟨w.heap.size, 0, none⟩ = some (.slice An z.name.length cn) := by rw [← hW0]; simp
  have y1 : W0.cell? ⟨w.heap.size, 1, none⟩ = some (.slice Ar z.recs.length cr) := by rw [← hW0]; simp
  have z0 := Aside0.mk (And.intro y0 y1)
  have HW0 := Aside0.mk hW0
  have HS0 := Aside0.mk hs0
  clear hW0 hs0 hbs
  have HC := Aside0.mk (fun (W : World) (hB : Below W0.heap.size W0 W) (x : Value) (c : List ByteArray) (hx : kS.Rd w ok x c) =>
    Aside0.mk (rof_calls z _ x c 2 W (K_below HZ.out (BX.out.trans (hB.mono BX.out.size))) ((hx.any).below pS (BX.out.trans (hB.mono BX.out.size)))))
  go_enter Try.func18, Try.ntmps18
  go_wp2_with fail
  rw [HW0.out]
  go_wp2_with fail
  go_loopg [6] (n.length + 1) (fun gg s6 wr => ∃ k : Nat, z.name.length + 1 ≤ k ∧ (k ≤ n.length + 1 ∨ k = z.name.length + 1) ∧ n.length + 1 - k ≤ gg ∧ s6 = .int .i64 k ∧ Aside0 (Below W0.heap.size W0 wr) ∧ Aside0 (zcut z n = zcutG z.recs n (n.length + 1 - k)))
  case atStart => exact ⟨z.name.length + 1, Nat.le_refl _, .inr rfl, by omega, by go_num, ⟨Below.refl _ _⟩, ⟨by unfold zcut; congr 1; omega⟩⟩
  case round =>
    obtain ⟨k, hk1, hk2, hg, rfl, HB, HA⟩ := hrel
    clear y0 y1
    have y0 := (HB.out.cell (p := ⟨w.heap.size, 0, none⟩) (by rw [HS0.out]; simp)).trans z0.out.1
    have y1 := (HB.out.cell (p := ⟨w.heap.size, 1, none⟩) (by rw [HS0.out]; simp)).trans z0.out.2
    have HK2 := Aside0.mk hk2
    clear hk2
    by_cases hkn : k ≤ n.length
    · obtain ⟨vc, hsl, hslR⟩ := tail_run Av cv n ((n.length : Int) - (k : Int)) (by omega) (by omega) hlv
      have HR := Aside0.mk (hslR _ _ HV.out)
      have HT : Aside0 (((n.length : Int) - (k : Int)).toNat = n.length - k) := ⟨by omega⟩
      have HI : Aside0 (zcutG z.recs n (n.length + 1 - k) = if 0 < (zof z.recs (n.drop (n.length - k)) 2).length then some (n.drop (n.length - k)) else zcutG z.recs n (n.length - k)) := ⟨by
        rw [show n.length + 1 - k = (n.length - k) + 1 from by omega]; rfl⟩
      rw [HT.out] at HR
      clear hslR
      have HKN := Aside0.mk hkn
      go_wp2_with fail
      refine (HC.out _ HB.out _ _ HR.out).out.mono ?_
      rintro e w1 ⟨v1, rfl, ho1, hb1⟩
      obtain ⟨A1, k1, rfl, _⟩ := ho1.slice_
      have B1 : Aside0 (Below W0.heap.size W0 w1) := ⟨HB.out.trans (hb1.mono HB.out.size)⟩
      clear hb1 ho1
      by_cases q : 0 < (zof z.recs (n.drop (n.length - k)) 2).length
      · have HQ := Aside0.mk q
        go_wp2_with fail
        go_ret2
        refine ⟨BX.out.trans (B1.out.mono BX.out.size), ?_⟩
        rw [HA.out, HI.out, if_pos HQ.out]
        exact ⟨_, rfl, HR.out.below pS (BX.out.trans (B1.out.mono BX.out.size))⟩
      · have HQ := Aside0.mk q
        go_wp2_with fail
        go_roundg (n.length + 1 - (k + 1))
        case measure => have := HKN.out; omega
        case rel =>
          refine ⟨k + 1, by omega, .inl (by have := HKN.out; omega), by omega, by go_num, B1, ⟨?_⟩⟩
          rw [HA.out, HI.out, if_neg HQ.out]
          congr 1
          omega
    · have HKN := Aside0.mk hkn
      go_wp2_with fail
      go_ret2
      refine ⟨BX.out.trans (HB.out.mono BX.out.size), ?_⟩
      rw [HA.out, show n.length + 1 - k = 0 from by have := HKN.out; omega]
      rfl
set_option maxHeartbeats 4000000 in
set_option maxRecDepth 100000 in
theorem rthere_calls (z : Zone) (cz : List Value) (v : Value) (n : List ByteArray) (w : World) (hz : kZ.K w (fun _ => True) z cz) (hv : kS.Rd w (fun _ => True) v n) :
    Calls Try.prog 22 #[.agg cz.toArray, v] w fun e w' => e = .returned (.bool (z.recs.any fun r => nUnder r.name n)) ∧ Below w.heap.size w w' := by
  have HV := Aside0.mk hv
  obtain ⟨vn, vr, rfl, hn, hr⟩ := hz
  have RR' := Aside0.mk hr
  have hmax := hr.max
  obtain ⟨An, cn, rfl, hln, _⟩ := hn
  obtain ⟨Ar, cr, rfl, hlr, _⟩ := hr
  obtain ⟨Av, cv, rfl, hlv, _⟩ := hv
  generalize hW0 : w.alloc (.cells #[.slice An z.name.length cn, .slice Ar z.recs.length cr] 31) = W0
  have BX : Aside0 (Below w.heap.size w W0) := ⟨by rw [← hW0]; exact below_alloc (Below.refl _ _) _⟩
  have hs0 : W0.heap.size = w.heap.size + 1 := by rw [← hW0]; simp
  have y1 : W0.cell? ⟨w.heap.size, 1, none⟩ = some (.slice Ar z.recs.length cr) := by rw [← hW0]; simp
  have z0 := Aside0.mk y1
  have HW0 := Aside0.mk hW0
  have HS0 := Aside0.mk hs0
  clear hW0 hs0 y1
  go_enter Try.func22, Try.ntmps22
  go_wp2_with fail
  rw [HW0.out]
  go_wp2_with fail
  go_loopg [5] z.recs.length (fun gg s5 wr => ∃ k : Nat, k ≤ z.recs.length ∧ z.recs.length - k ≤ gg ∧ s5 = .int .i64 k ∧ Aside0 (Below W0.heap.size W0 wr) ∧ Aside0 ((z.recs.take k).any (fun r => nUnder r.name n) = false))
  case atStart => exact ⟨0, Nat.zero_le _, by omega, rfl, ⟨Below.refl _ _⟩, ⟨rfl⟩⟩
  case round =>
    obtain ⟨k, hk, hg, rfl, HB, HA⟩ := hrel
    have y1 := (HB.out.cell (p := ⟨w.heap.size, 1, none⟩) (by rw [HS0.out]; simp)).trans z0.out
    have hbw := Aside0.mk (BX.out.trans (HB.out.mono BX.out.size))
    by_cases hlt : k < z.recs.length
    · obtain ⟨Ar', cr', he, _, hrow⟩ := RR'.out.below pR hbw.out
      obtain ⟨rfl, rfl⟩ : Ar = Ar' ∧ cr = cr' := by injection he with h1 _ h3; exact ⟨h1, h3⟩
      obtain ⟨ad, vv, c4, c5, c6, c7, c8, rfl, hK, e0, _⟩ := cell_r hrow k hlt
      have HST := Aside0.mk (any_take z.recs (fun r => nUnder r.name n) k hlt)
      have HTK := Aside0.mk (fun h => any_take_of z.recs (fun r => nUnder r.name n) k z.recs.length hlt (Nat.le_refl _) h)
      generalize z.recs[k] = r at hK HST HTK
      obtain ⟨v0, cd0, hcs, hv0, _⟩ := hK
      obtain rfl : vv = v0 := by injection hcs
      have HV0 := Aside0.mk hv0
      obtain ⟨A0, k0, rfl, _, _⟩ := hv0
      have HLT := Aside0.mk hlt
      clear hcs hrow he
      cases p : nUnder r.name n with
      | true =>
        have P := Aside0.mk p
        clear p
        go_wp2_with fail
        refine (bv (runder_calls _ _ r.name n _ HV0.out (HV.out.below pS hbw.out)) P.out).mono ?_
        rintro e w1 ⟨rfl, hb1⟩
        have B1 : Aside0 (Below w.heap.size w w1) := ⟨hbw.out.trans (hb1.mono hbw.out.size)⟩
        clear hb1
        have HR : Aside0 ((z.recs.any fun r => nUnder r.name n) = true) := ⟨by have h := HTK.out P.out; rwa [List.take_length] at h⟩
        go_wp2_with fail
        go_ret
        refine ⟨?_, B1.out⟩
        rw [HR.out]; rfl
      | false =>
        have P := Aside0.mk p
        clear p
        go_wp2_with fail
        refine (bv (runder_calls _ _ r.name n _ HV0.out (HV.out.below pS hbw.out)) P.out).mono ?_
        rintro e w1 ⟨rfl, hb1⟩
        have B1 : Aside0 (Below W0.heap.size W0 w1) := ⟨HB.out.trans (hb1.mono HB.out.size)⟩
        clear hb1
        go_wp2_with fail
        go_roundg (z.recs.length - (k + 1))
        case measure => have := HLT.out; omega
        case rel => exact ⟨k + 1, by have := HLT.out; omega, by omega, by go_num, B1, ⟨by rw [HST.out, HA.out, P.out]; rfl⟩⟩
    · have hka : k = z.recs.length := by omega
      have HR : Aside0 ((z.recs.any fun r => nUnder r.name n) = false) := ⟨by have h := HA.out; rwa [hka, List.take_length] at h⟩
      clear hka
      go_wp2_with fail
      go_ret
      refine ⟨?_, hbw.out⟩
      rw [HR.out]; rfl
end Go.Proofs.Ytkbjbkmaokebgaa.Gz

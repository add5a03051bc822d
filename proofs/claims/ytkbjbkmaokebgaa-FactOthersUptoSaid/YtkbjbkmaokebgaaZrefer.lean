import Derived.Test.YtkbjbkmaokebgaaBut
import Derived.Deep.RegionLaw
set_option linter.unusedVariables false
set_option linter.unusedSimpArgs false
namespace Go.Proofs.Ytkbjbkmaokebgaa.Gz
open Go.RowKit Go.Proofs.YtkbjbkmaokebgaaW.PrintWords
open Ki
theorem addr_ne {M a b : Nat} (h : a ≠ b) : (⟨M, a, none⟩ : Addr) ≠ ⟨M, b, none⟩ := fun e => h (by injection e)
theorem cellA {w : World} {o : Obj} {b f : Nat} (h : b < w.heap.size) : (w.alloc o).cell? ⟨b, f, none⟩ = w.cell? ⟨b, f, none⟩ := (below_alloc (Below.refl _ _) o).cell (p := ⟨b, f, none⟩) h
theorem frozenA {w : World} {o : Obj} {b f : Nat} (h : b < w.heap.size) : (w.alloc o).frozen? ⟨b, f, none⟩ = w.frozen? ⟨b, f, none⟩ := (below_alloc (Below.refl _ _) o).frozen (p := ⟨b, f, none⟩) h
/-- What zone.refer leaves in the message in block M: the servers, their addresses, AA. -/
def Referred (z : Zone) (c : List ByteArray) (M : Nat) (l9 : Nat) (w : World) (e : Ending) (w' : World) : Prop :=
  ∃ va vx, e = .returned (.tuple #[]) ∧ But w.heap.size M w w' ∧ w'.cell? ⟨M, 10, none⟩ = some va ∧ kR.Rd w' (fun k => w.heap.size ≤ k) va (zof z.recs c 2) ∧
    w'.cell? ⟨M, 11, none⟩ = some vx ∧ kR.Rd w' (fun k => w.heap.size ≤ k) vx (zhosts z.recs (zof z.recs c 2)) ∧ w'.cell? ⟨M, 3, none⟩ = some (.bool (decide (0 < l9))) ∧
    (∀ o, o ≠ 3 → o ≠ 10 → o ≠ 11 → w'.cell? ⟨M, o, none⟩ = w.cell? ⟨M, o, none⟩) ∧ (∀ o, w'.frozen? ⟨M, o, none⟩ = w.frozen? ⟨M, o, none⟩)
set_option maxHeartbeats 8000000 in
set_option maxRecDepth 100000 in
theorem refer_calls (z : Zone) (cz : List Value) (v : Value) (c : List ByteArray) (M : Nat) (A9 : Option Addr) (l9 k9 : Nat) (u10 u3 : Value) (w : World) (hz : kZ.K w (fun k => k ≠ M) z cz) (hv : kS.Rd w (fun k => k ≠ M) v c)
    (hM : M < w.heap.size) (m9 : w.cell? ⟨M, 9, none⟩ = some (.slice A9 l9 k9)) (m10 : w.cell? ⟨M, 10, none⟩ = some u10) (m11 : w.cell? ⟨M, 11, none⟩ = some (.slice none 0 0)) (m3 : w.cell? ⟨M, 3, none⟩ = some u3)
    (f3 : w.frozen? ⟨M, 3, none⟩ = false) (f10 : w.frozen? ⟨M, 10, none⟩ = false) (f11 : w.frozen? ⟨M, 11, none⟩ = false) :
    Calls Try.prog 78 #[.agg cz.toArray, .pointer (some ⟨M, 0, none⟩), v] w (Referred z c M l9 w) := by
  have HZ := Aside0.mk hz
  have HV := Aside0.mk hv
  obtain ⟨vn, vr, rfl, hn, hr⟩ := hz
  have RR' := Aside0.mk hr
  have hmax := hr.max
  have hroom := hr.room
  obtain ⟨An, cn, rfl, hln, _⟩ := hn
  obtain ⟨Ar, cr, rfl, hlr, _⟩ := hr
  obtain ⟨Av, cv, rfl, _, _⟩ := hv
  generalize hW0 : w.alloc (.cells #[.slice An z.name.length cn, .slice Ar z.recs.length cr] 25) = W0
  have BX : Aside0 (Below w.heap.size w W0) := ⟨by rw [← hW0]; exact below_alloc (Below.refl _ _) _⟩
  have hs0 : W0.heap.size = w.heap.size + 1 := by rw [← hW0]; simp
  have y0 : W0.cell? ⟨w.heap.size, 0, none⟩ = some (.slice An z.name.length cn) := by rw [← hW0]; simp
  have y1 : W0.cell? ⟨w.heap.size, 1, none⟩ = some (.slice Ar z.recs.length cr) := by rw [← hW0]; simp
  have HM : Aside0 ((∀ o, W0.cell? ⟨M, o, none⟩ = w.cell? ⟨M, o, none⟩) ∧ ∀ o, W0.frozen? ⟨M, o, none⟩ = w.frozen? ⟨M, o, none⟩) := ⟨fun o => BX.out.cell (p := ⟨M, o, none⟩) hM, fun o => BX.out.frozen (p := ⟨M, o, none⟩) hM⟩
  have n9 := (HM.out.1 9).trans m9
  have n10 := (HM.out.1 10).trans m10
  have n11 := (HM.out.1 11).trans m11
  have n3 := (HM.out.1 3).trans m3
  have g3 := (HM.out.2 3).trans f3
  have g10 := (HM.out.2 10).trans f10
  have g11 := (HM.out.2 11).trans f11
  have hM0 : M < W0.heap.size := by omega
  have hZ0 : w.heap.size < W0.heap.size := by omega
  have z0 := Aside0.mk (And.intro y0 y1)
  have HW0 := Aside0.mk hW0
  have HS0 := Aside0.mk hs0
  clear hW0 hs0 m9 m10 m11 m3 f3 f10 f11
  have eg : ∀ args w, (callFunc 110 args).run Try.prog w = .ok (.enter 110 args) w := enters Try.func110 (by kernel_rfl) rfl
  have HC := Aside0.mk (zof_calls z _ _ c 2 W0 (K_below (kZ.mono (fun _ _ => trivial) HZ.out) BX.out) (HV.out.any.below pS BX.out))
  go_enter Try.func78, Try.ntmps78
  go_wp2_with fail
  rw [HW0.out]
  go_wp2_with fail
  refine HC.out.mono ?_
  rintro e w1 ⟨va, rfl, hra, hb1⟩
  obtain ⟨bc, bf⟩ := bcell hb1
  have HRA := Aside0.mk (hra.low pR)
  have HB1 := Aside0.mk hb1
  obtain ⟨Aa, ka, rfl, _, _⟩ := hra
  clear hb1
  go_wp2_with fail
  have s2 : W0.heap.size ≤ w1.heap.size := HB1.out.size
  clear y0 y1
  have o10 : w1.cell? ⟨M, 10, none⟩ = some u10 := (bc M 10 hM0).trans n10
  generalize hW2 : w1.setCell ⟨M, 10, none⟩ (.slice Aa (zof z.recs c 2).length ka) = W2
  have BT0 : Aside0 (But W0.heap.size M W0 W2) := ⟨by rw [← hW2]; exact (But.of HB1.out).set 10 _⟩
  have hs2 : W2.heap.size = w1.heap.size := by rw [← hW2]; simp
  have HRA2 : Aside0 (kR.Rd W2 (fun k => W0.heap.size ≤ k ∧ k < W2.heap.size) (.slice Aa (zof z.recs c 2).length ka) (zof z.recs c 2)) := ⟨by rw [hs2]; rw [← hW2]; exact rd_set pR HRA.out (fun k hk => by omega) 10 _⟩
  have p10 : W2.cell? ⟨M, 10, none⟩ = some (.slice Aa (zof z.recs c 2).length ka) := by rw [← hW2]; exact World.cell?_setCell_same w1 _ _ o10
  have p11 : W2.cell? ⟨M, 11, none⟩ = some (.slice none 0 0) := by rw [← hW2, World.cell?_setCell_other _ _ _ _ (by simp)]; exact (bc M 11 hM0).trans n11
  have HOC : Aside0 (∀ o, o ≠ 10 → W2.cell? ⟨M, o, none⟩ = w.cell? ⟨M, o, none⟩) := ⟨fun o ho => by rw [← hW2, World.cell?_setCell_other _ _ _ _ (addr_ne (Ne.symm ho))]; exact (bc M o hM0).trans (HM.out.1 o)⟩
  have HFC : Aside0 (∀ o, W2.frozen? ⟨M, o, none⟩ = w.frozen? ⟨M, o, none⟩) := ⟨fun o => by rw [← hW2, World.frozen?_setCell]; exact (bf M o hM0).trans (HM.out.2 o)⟩
  have t11 : W2.frozen? ⟨M, 11, none⟩ = false := by rw [← hW2, World.frozen?_setCell]; exact (bf M 11 hM0).trans g11
  have t3 : W2.frozen? ⟨M, 3, none⟩ = false := by rw [← hW2, World.frozen?_setCell]; exact (bf M 3 hM0).trans g3
  have hMZ : ¬ (w.heap.size = M) := by omega
  have hMZ' : ¬ (M = w.heap.size) := by omega
  have y0 := (BT0.out.cell (o := 0) hZ0 hMZ).trans z0.out.1
  have y1 := (BT0.out.cell (o := 1) hZ0 hMZ).trans z0.out.2
  have z2 := Aside0.mk (And.intro y0 y1)
  have P10 := Aside0.mk p10
  have hM2 : M < W2.heap.size := by omega
  have hZ2 : w.heap.size < W2.heap.size := by omega
  have HN9 : Aside0 (W2.cell? ⟨M, 9, none⟩ = some (.slice A9 l9 k9) ∧ W2.cell? ⟨M, 3, none⟩ = some u3) := ⟨(HOC.out 9 (by decide)).trans ((HM.out.1 9).symm.trans n9), (HOC.out 3 (by decide)).trans ((HM.out.1 3).symm.trans n3)⟩
  generalize hns : zof z.recs c 2 = ns at HRA HRA2 p10 P10 hW2
  have HNS := Aside0.mk hns
  clear bc bf hW2 hs2 o10 n9 n10 n11 n3 g3 g10 g11 hns
  go_loopg [18] z.recs.length (fun gg s18 wr => ∃ (k : Nat) (vx : Value), k ≤ z.recs.length ∧ z.recs.length - k ≤ gg ∧ s18 = .int .i64 k ∧ Aside0 (But W2.heap.size M W2 wr) ∧ wr.cell? ⟨M, 11, none⟩ = some vx ∧ Aside0 (kR.Own 44 wr W2.heap.size (fun k => W2.heap.size ≤ k) vx (zhosts (z.recs.take k) ns)) ∧ Aside0 (∀ o, o ≠ 11 → wr.cell? ⟨M, o, none⟩ = W2.cell? ⟨M, o, none⟩) ∧ Aside0 (∀ o, wr.frozen? ⟨M, o, none⟩ = W2.frozen? ⟨M, o, none⟩))
  case atStart => exact ⟨0, _, Nat.zero_le _, by omega, rfl, ⟨But.refl _ _ _⟩, p11, ⟨Own.nil _ _ _ _ _⟩, ⟨fun _ _ => rfl⟩, ⟨fun _ => rfl⟩⟩
  case round =>
    obtain ⟨k, vx, hk, hg, rfl, HB, q11, HO, HOC', HFC'⟩ := hrel
    clear y0 y1 p10 p11
    have y0 := (HB.out.cell (o := 0) hZ2 hMZ).trans z2.out.1
    have y1 := (HB.out.cell (o := 1) hZ2 hMZ).trans z2.out.2
    have q10 := (HOC'.out 10 (by decide)).trans P10.out
    have r11 := (HFC'.out 11).trans t11
    by_cases hlt : k < z.recs.length
    · have hMr : M < wr.heap.size := Nat.lt_of_lt_of_le hM2 HB.out.size
      have hszr : w.heap.size < wr.heap.size := Nat.lt_of_lt_of_le hZ2 HB.out.size
      have BWR : Aside0 (But w.heap.size M w wr) := ⟨((But.of BX.out).trans (BT0.out.mono (by omega))).trans (HB.out.mono (by omega))⟩
      obtain ⟨Ar', cr', he, _, hrow⟩ := BWR.out.rd pR RR'.out (fun _ h => h)
      obtain ⟨rfl, rfl⟩ : Ar = Ar' ∧ cr = cr' := by injection he with h1 _ h3; exact ⟨h1, h3⟩
      obtain ⟨ad, vv, c4, c5, c6, c7, c8, rfl, hK, e0, e1, e2, e3, e4, e5, e6, e7, e8⟩ := cell_r hrow k hlt
      have HLT := Aside0.mk hlt
      have HST := Aside0.mk (zhosts_step z.recs ns k hlt)
      have HRM : Aside0 (((zhosts (z.recs.take k) ns).length + 1) * kR.bytes ≤ B47) := ⟨by
        have h1 := zhosts_len (z.recs.take k) ns
        rw [List.length_take] at h1
        have : (zhosts (z.recs.take k) ns).length + 1 ≤ z.recs.length := by omega
        exact Nat.le_trans (Nat.mul_le_mul_right _ this) hroom⟩
      generalize hy : z.recs[k] = r at hK e1 e2 e3 HST
      generalize zhosts (z.recs.take k) ns = acc at HO HST HRM
      obtain ⟨A0, k0, A4, k4, A5, k5, A6, k6, A7, k7, A8, k8, rfl, rfl, rfl, rfl, rfl, rfl⟩ := kR_form hK
      have hKn := hK
      obtain ⟨v0, cd0, hcs, hv0, _⟩ := hKn
      obtain rfl : Value.slice A0 r.name.length k0 = v0 := by injection hcs
      clear hcs
      obtain ⟨Ax, kx, rfl, _⟩ := HO.out.slice_
      go_wp2_with fail
      generalize hW1 : wr.alloc (.cells #[.slice A0 r.name.length k0, .int .i64 r.typ, .int .i64 r.cls, .int .i64 r.ttl, .slice A4 r.data.bytes.length k4, .slice A5 r.data.host.length k5, .slice A6 r.data.mail.length k6, .slice A7 r.data.nums.length k7, .slice A8 r.data.texts.length k8] 44) = W1
      have hs1 : W1.heap.size = wr.heap.size + 1 := by rw [← hW1]; simp
      have BWr : Below wr.heap.size wr W1 := by rw [← hW1]; exact below_alloc (Below.refl _ _) _
      have HK1 : Aside0 (kR.K W1 (fun _ => True) r [.slice A0 r.name.length k0, .int .i64 r.typ, .int .i64 r.cls, .int .i64 r.ttl, .slice A4 r.data.bytes.length k4, .slice A5 r.data.host.length k5, .slice A6 r.data.mail.length k6, .slice A7 r.data.nums.length k7, .slice A8 r.data.texts.length k8]) := ⟨K_below (kR.mono (fun _ _ => trivial) hK) BWr⟩
      have HV1 : Aside0 (kS.Rd W1 (fun _ => True) (.slice A0 r.name.length k0) r.name) := ⟨(hv0.any).below pS BWr⟩
      have HRA1 : Aside0 (kR.Rd W1 (fun _ => True) (.slice Aa ns.length ka) ns) := ⟨((HB.out.rd pR HRA2.out (fun k hk => by omega)).any).below pR BWr⟩
      have BT1 : Aside0 (But W2.heap.size M W2 W1) := ⟨HB.out.next (Nat.le_refl _) BWr⟩
      have OW1 := Aside0.mk (HO.out.below BWr)
      have HOC1 : Aside0 (∀ o, o ≠ 11 → W1.cell? ⟨M, o, none⟩ = W2.cell? ⟨M, o, none⟩) := ⟨fun o ho => (BWr.cell (p := ⟨M, o, none⟩) hMr).trans (HOC'.out o ho)⟩
      have HFC1 : Aside0 (∀ o, W1.frozen? ⟨M, o, none⟩ = W2.frozen? ⟨M, o, none⟩) := ⟨fun o => (BWr.frozen (p := ⟨M, o, none⟩) hMr).trans (HFC'.out o)⟩
      have x0 : W1.cell? ⟨wr.heap.size, 0, none⟩ = some (.slice A0 r.name.length k0) := by rw [← hW1]; simp
      have x1 : W1.cell? ⟨wr.heap.size, 1, none⟩ = some (.int .i64 r.typ) := by rw [← hW1]; simp
      have x2 : W1.cell? ⟨wr.heap.size, 2, none⟩ = some (.int .i64 r.cls) := by rw [← hW1]; simp
      have x3 : W1.cell? ⟨wr.heap.size, 3, none⟩ = some (.int .i64 r.ttl) := by rw [← hW1]; simp
      have x4 : W1.cell? ⟨wr.heap.size, 4, none⟩ = some (.slice A4 r.data.bytes.length k4) := by rw [← hW1]; simp
      have x5 : W1.cell? ⟨wr.heap.size, 5, none⟩ = some (.slice A5 r.data.host.length k5) := by rw [← hW1]; simp
      have x6 : W1.cell? ⟨wr.heap.size, 6, none⟩ = some (.slice A6 r.data.mail.length k6) := by rw [← hW1]; simp
      have x7 : W1.cell? ⟨wr.heap.size, 7, none⟩ = some (.slice A7 r.data.nums.length k7) := by rw [← hW1]; simp
      have x8 : W1.cell? ⟨wr.heap.size, 8, none⟩ = some (.slice A8 r.data.texts.length k8) := by rw [← hW1]; simp
      have y0' := (BWr.cell (p := ⟨w.heap.size, 0, none⟩) hszr).trans y0
      have y1' := (BWr.cell (p := ⟨w.heap.size, 1, none⟩) hszr).trans y1
      have q10' := (BWr.cell (p := ⟨M, 10, none⟩) hMr).trans q10
      have q11' := (BWr.cell (p := ⟨M, 11, none⟩) hMr).trans q11
      have r11' := (BWr.frozen (p := ⟨M, 11, none⟩) hMr).trans r11
      have hl1 : w.heap.size < W1.heap.size := by omega
      have hl2 : wr.heap.size < W1.heap.size := by omega
      have hl3 : M < W1.heap.size := by omega
      have HP := Aside0.mk (pays_refer1 wr.heap.size _ r.name W1 ns HV1.out hl2 x0)
      have Q11 := Aside0.mk q11'
      clear hW1 hs1 e0 e1 e2 e3 e4 e5 e6 e7 e8 y0 y1 q10 q11 r11 hK hv0 hrow hy BWr
      cases p1 : ns.any (fun s => nEq s.data.host r.name) with
      | false =>
        have P1 := Aside0.mk p1
        clear p1
        refine (contains_r_v false _ _ _ (HRA1.out) _ _ _ eg HP.out P1.out).mono ?_
        rintro e w2 ⟨rfl, hb2⟩
        have HB2 := Aside0.mk hb2
        clear hb2
        obtain ⟨bc, bf⟩ := bcell HB2.out
        have BT2 : Aside0 (But W2.heap.size M W2 w2) := ⟨(BT1.out).next (Nat.le_refl _) HB2.out⟩
        go_wp2_with fail
        go_roundg (z.recs.length - (k + 1))
        case measure => have := HLT.out; omega
        case rel =>
          refine ⟨k + 1, .slice Ax acc.length kx, by have := HLT.out; omega, by omega, by go_num, BT2, (bc M 11 hl3).trans Q11.out, ⟨?_⟩, ⟨fun o h1 => (bc M o hl3).trans (HOC1.out o h1)⟩, ⟨fun o => (bf M o hl3).trans (HFC1.out o)⟩⟩
          rw [HST.out, P1.out, Bool.false_and]
          simpa using OW1.out.below HB2.out
      | true =>
        by_cases p2 : r.typ = 1
        · have f2 : (r.typ == 1) = true := beq_iff_eq.mpr p2
          have P2 := Aside0.mk p2
          clear p2
          have P1 := Aside0.mk p1
          clear p1
          refine (contains_r_v true _ _ _ (HRA1.out) _ _ _ eg HP.out P1.out).mono ?_
          rintro e w2 ⟨rfl, hb2⟩
          have HB2 := Aside0.mk hb2
          clear hb2
          obtain ⟨bc, bf⟩ := bcell HB2.out
          have HPT : Aside0 ((decide (r.typ = 1) || decide (r.typ = 28)) = true) := ⟨by first | rw [decide_eq_true P2.out]; rfl | rw [decide_eq_true P3.out, Bool.or_true]⟩
          have BT2 : Aside0 (But W2.heap.size M W2 w2) := ⟨(BT1.out).next (Nat.le_refl _) HB2.out⟩
          have OW2 := Aside0.mk (OW1.out.below HB2.out)
          have HK2 : Aside0 (kR.K w2 (fun _ => True) r [.slice A0 r.name.length k0, .int .i64 r.typ, .int .i64 r.cls, .int .i64 r.ttl, .slice A4 r.data.bytes.length k4, .slice A5 r.data.host.length k5, .slice A6 r.data.mail.length k6, .slice A7 r.data.nums.length k7, .slice A8 r.data.texts.length k8]) := ⟨K_below HK1.out HB2.out⟩
          have hl4 : M < w2.heap.size := Nat.lt_of_lt_of_le hl3 HB2.out.size
          have hl5 : wr.heap.size < w2.heap.size := Nat.lt_of_lt_of_le hl2 HB2.out.size
          go_wp2_with fail
          go_region_law (first
            | (go_simp; go_at_call 111; refine (zown_calls r [.slice A0 r.name.length k0, .int .i64 r.typ, .int .i64 r.cls, .int .i64 r.ttl, .slice A4 r.data.bytes.length k4, .slice A5 r.data.host.length k5, .slice A6 r.data.mail.length k6, .slice A7 r.data.nums.length k7, .slice A8 r.data.texts.length k8] _ (K_below HK2.out (Below.refl _ _).drew)).mono ?_; rintro e w3 ⟨cs3, rfl, hk3, hb3⟩; have HB3 := Aside0.mk (below_next (Below.refl w2.heap.size w2).drew (Nat.le_refl _) hb3); have OW3 := Aside0.mk (OW2.out.below HB3.out); have HP3 : Aside0 (kR.K w3 (fun k => W2.heap.size ≤ k ∧ some k ≠ (Value.slice Ax acc.length kx).ownBlock) r cs3) := ⟨kR.mono (fun kk hkk => ⟨Nat.le_trans BT2.out.size hkk, fun he => by have := (OW2.out.lt kk he.symm).2; have h0 : w2.heap.size ≤ kk := hkk; omega⟩) hk3⟩; have hsz3 : W2.heap.size ≤ w3.heap.size := Nat.le_trans BT2.out.size HB3.out.size; have hbx : ∀ k, w3.heap.size ≤ k → W2.heap.size ≤ k ∧ some k ≠ (Value.slice Ax acc.length kx).ownBlock := (fun kk hkk => ⟨Nat.le_trans hsz3 hkk, fun he => by have := (OW3.out.lt kk he.symm).2; omega⟩); have hl6 : M < w3.heap.size := Nat.lt_of_lt_of_le hl4 HB3.out.size; have hne5 : ¬ (M = w3.heap.size) := Nat.ne_of_lt hl6; have hne6 : some M ≠ (Value.slice Ax acc.length kx).ownBlock := (fun he => by have := (OW2.out.lt M he.symm).1; omega); obtain ⟨A0', k0', A4', k4', A5', k5', A6', k6', A7', k7', A8', k8', rfl⟩ := kR_forms hk3; obtain ⟨bc3, bc3_f⟩ := bat HB3.out; have OWB : Aside0 (kR.Own 44 (w3.alloc (.cells #[.slice A0' r.name.length k0', .int .i64 r.typ, .int .i64 r.cls, .int .i64 r.ttl, .slice A4' r.data.bytes.length k4', .slice A5' r.data.host.length k5', .slice A6' r.data.mail.length k6', .slice A7' r.data.nums.length k7', .slice A8' r.data.texts.length k8'] 44)) W2.heap.size (fun k => W2.heap.size ≤ k) (.slice Ax acc.length kx) acc) := ⟨OW3.out.below (below_alloc (Below.refl _ _) _)⟩; have HRB : Aside0 (kR.Rd (w3.alloc (.cells #[.slice A0' r.name.length k0', .int .i64 r.typ, .int .i64 r.cls, .int .i64 r.ttl, .slice A4' r.data.bytes.length k4', .slice A5' r.data.host.length k5', .slice A6' r.data.mail.length k6', .slice A7' r.data.nums.length k7', .slice A8' r.data.texts.length k8'] 44)) (fun k => W2.heap.size ≤ k ∧ some k ≠ (Value.slice Ax acc.length kx).ownBlock) (.slice (some ⟨w3.heap.size, 0, none⟩) 1 1) [r]) := ⟨rd_box HP3.out (by decide) hbx⟩; have hbs : W2.heap.size ≤ (w3.alloc (.cells #[.slice A0' r.name.length k0', .int .i64 r.typ, .int .i64 r.cls, .int .i64 r.ttl, .slice A4' r.data.bytes.length k4', .slice A5' r.data.host.length k5', .slice A6' r.data.mail.length k6', .slice A7' r.data.nums.length k7', .slice A8' r.data.texts.length k8'] 44)).heap.size := (by rw [World.size_alloc]; exact Nat.le_trans hsz3 (Nat.le_succ _)); have hl7 : M < (w3.alloc (.cells #[.slice A0' r.name.length k0', .int .i64 r.typ, .int .i64 r.cls, .int .i64 r.ttl, .slice A4' r.data.bytes.length k4', .slice A5' r.data.host.length k5', .slice A6' r.data.mail.length k6', .slice A7' r.data.nums.length k7', .slice A8' r.data.texts.length k8'] 44)).heap.size := (by rw [World.size_alloc]; exact Nat.lt_succ_of_lt hl6); clear hk3 hb3; go_simp)
            | (refine step_append_own kR W2.heap.size ?_ (.tmp 43) (.tmp 46) 23 44 (.agg #[.slice none 0 0, .int .i64 0, .int .i64 0, .int .i64 0, .slice none 0 0, .slice none 0 0, .slice none 0 0, .slice none 0 0, .slice none 0 0]) ?_ ?_ ?_ ?_ ?_ ?_ (.slice Ax acc.length kx) (.slice (some ⟨w3.heap.size, 0, none⟩) 1 1) acc [r] (fun k => W2.heap.size ≤ k) ?_ ?_ ?_ ?_ ?_ ?_ ?_; rfl; rfl; exact Try.underlying23; exact infoR0; rfl; decide; decide; rfl; rfl; exact OWB.out; exact HRB.out; exact hbs; exact HRM.out; intro v4 w4 ho4 hg4 _; obtain ⟨A4', k4', rfl, _⟩ := ho4.slice_; have q4 := hg4.cell_far ⟨M, 11, none⟩ hl7 hne6; have qf4 := hg4.frozen_far ⟨M, 11, none⟩ hl7 hne6; rw [cellA hl6] at q4; rw [frozenA hl6] at qf4))
          all_goals have BT3 : But W2.heap.size M W2 w3 := BT2.out.next (Nat.le_refl _) HB3.out
          all_goals have BG4 := (Below.refl W2.heap.size (w3.alloc _)).grown hg4 (by rw [World.size_alloc]; exact Nat.le_trans hsz3 (Nat.le_succ _)) (fun kk hkk => (OW2.out.lt kk hkk).1)
          all_goals have BT4 : But W2.heap.size M W2 w4 := (BT3.next (Nat.le_refl _) (below_alloc (Below.refl _ _) _)).trans (But.of BG4)
          all_goals have q40 : w4.cell? ⟨M, 11, none⟩ = some (.slice Ax acc.length kx) := q4.trans ((bc3 M 11 hl4).trans ((bc M 11 hl3).trans Q11.out))
          all_goals have HO4 : ∀ o, o ≠ 11 → w4.cell? ⟨M, o, none⟩ = W2.cell? ⟨M, o, none⟩ := (fun o ho => (hg4.cell_far ⟨M, o, none⟩ (by rw [World.size_alloc]; exact Nat.lt_succ_of_lt hl6) hne6).trans ((cellA hl6).trans ((bc3 M o hl4).trans ((bc M o hl3).trans (HOC1.out o ho)))))
          all_goals have HF4 : ∀ o, w4.frozen? ⟨M, o, none⟩ = W2.frozen? ⟨M, o, none⟩ := (fun o => (hg4.frozen_far ⟨M, o, none⟩ (by rw [World.size_alloc]; exact Nat.lt_succ_of_lt hl6) hne6).trans ((frozenA hl6).trans ((bc3_f M o hl4).trans ((bf M o hl3).trans (HFC1.out o)))))
          all_goals have OW4 := own_set ho4 (M := M) (fun kk hkk => by have h0 : W2.heap.size ≤ kk := hkk; omega) hM2 11 (.slice A4' (acc ++ [r]).length k4')
          all_goals go_wp2_with fail
          all_goals go_roundg (z.recs.length - (k + 1))
          all_goals first
            | (have := HLT.out; omega)
            | (refine ⟨k + 1, _, by have := HLT.out; omega, by omega, by go_num, ⟨BT4.set 11 _⟩, World.cell?_setCell_same w4 _ _ q40, ⟨?_⟩, ⟨fun o ho => (World.cell?_setCell_other _ _ _ _ (addr_ne (Ne.symm ho))).trans (HO4 o ho)⟩, ⟨fun o => by rw [World.frozen?_setCell]; exact HF4 o⟩⟩
               rw [HST.out, P1.out, HPT.out]
               rw [show (acc ++ [r]).length = acc.length + 1 from by simp] at OW4
               simpa using OW4)
        have f2 : (r.typ == 1) = false := beq_eq_false_iff_ne.mpr p2
        have P2 := Aside0.mk p2
        clear p2
        by_cases p3 : r.typ = 28
        · have f3 : (r.typ == 28) = true := beq_iff_eq.mpr p3
          have P3 := Aside0.mk p3
          clear p3
          have P1 := Aside0.mk p1
          clear p1
          refine (contains_r_v true _ _ _ (HRA1.out) _ _ _ eg HP.out P1.out).mono ?_
          rintro e w2 ⟨rfl, hb2⟩
          have HB2 := Aside0.mk hb2
          clear hb2
          obtain ⟨bc, bf⟩ := bcell HB2.out
          have HPT : Aside0 ((decide (r.typ = 1) || decide (r.typ = 28)) = true) := ⟨by first | rw [decide_eq_true P2.out]; rfl | rw [decide_eq_true P3.out, Bool.or_true]⟩
          have BT2 : Aside0 (But W2.heap.size M W2 w2) := ⟨(BT1.out).next (Nat.le_refl _) HB2.out⟩
          have OW2 := Aside0.mk (OW1.out.below HB2.out)
          have HK2 : Aside0 (kR.K w2 (fun _ => True) r [.slice A0 r.name.length k0, .int .i64 r.typ, .int .i64 r.cls, .int .i64 r.ttl, .slice A4 r.data.bytes.length k4, .slice A5 r.data.host.length k5, .slice A6 r.data.mail.length k6, .slice A7 r.data.nums.length k7, .slice A8 r.data.texts.length k8]) := ⟨K_below HK1.out HB2.out⟩
          have hl4 : M < w2.heap.size := Nat.lt_of_lt_of_le hl3 HB2.out.size
          have hl5 : wr.heap.size < w2.heap.size := Nat.lt_of_lt_of_le hl2 HB2.out.size
          go_wp2_with fail
          go_region_law (first
            | (go_simp; go_at_call 111; refine (zown_calls r [.slice A0 r.name.length k0, .int .i64 r.typ, .int .i64 r.cls, .int .i64 r.ttl, .slice A4 r.data.bytes.length k4, .slice A5 r.data.host.length k5, .slice A6 r.data.mail.length k6, .slice A7 r.data.nums.length k7, .slice A8 r.data.texts.length k8] _ (K_below HK2.out (Below.refl _ _).drew)).mono ?_; rintro e w3 ⟨cs3, rfl, hk3, hb3⟩; have HB3 := Aside0.mk (below_next (Below.refl w2.heap.size w2).drew (Nat.le_refl _) hb3); have OW3 := Aside0.mk (OW2.out.below HB3.out); have HP3 : Aside0 (kR.K w3 (fun k => W2.heap.size ≤ k ∧ some k ≠ (Value.slice Ax acc.length kx).ownBlock) r cs3) := ⟨kR.mono (fun kk hkk => ⟨Nat.le_trans BT2.out.size hkk, fun he => by have := (OW2.out.lt kk he.symm).2; have h0 : w2.heap.size ≤ kk := hkk; omega⟩) hk3⟩; have hsz3 : W2.heap.size ≤ w3.heap.size := Nat.le_trans BT2.out.size HB3.out.size; have hbx : ∀ k, w3.heap.size ≤ k → W2.heap.size ≤ k ∧ some k ≠ (Value.slice Ax acc.length kx).ownBlock := (fun kk hkk => ⟨Nat.le_trans hsz3 hkk, fun he => by have := (OW3.out.lt kk he.symm).2; omega⟩); have hl6 : M < w3.heap.size := Nat.lt_of_lt_of_le hl4 HB3.out.size; have hne5 : ¬ (M = w3.heap.size) := Nat.ne_of_lt hl6; have hne6 : some M ≠ (Value.slice Ax acc.length kx).ownBlock := (fun he => by have := (OW2.out.lt M he.symm).1; omega); obtain ⟨A0', k0', A4', k4', A5', k5', A6', k6', A7', k7', A8', k8', rfl⟩ := kR_forms hk3; obtain ⟨bc3, bc3_f⟩ := bat HB3.out; have OWB : Aside0 (kR.Own 44 (w3.alloc (.cells #[.slice A0' r.name.length k0', .int .i64 r.typ, .int .i64 r.cls, .int .i64 r.ttl, .slice A4' r.data.bytes.length k4', .slice A5' r.data.host.length k5', .slice A6' r.data.mail.length k6', .slice A7' r.data.nums.length k7', .slice A8' r.data.texts.length k8'] 44)) W2.heap.size (fun k => W2.heap.size ≤ k) (.slice Ax acc.length kx) acc) := ⟨OW3.out.below (below_alloc (Below.refl _ _) _)⟩; have HRB : Aside0 (kR.Rd (w3.alloc (.cells #[.slice A0' r.name.length k0', .int .i64 r.typ, .int .i64 r.cls, .int .i64 r.ttl, .slice A4' r.data.bytes.length k4', .slice A5' r.data.host.length k5', .slice A6' r.data.mail.length k6', .slice A7' r.data.nums.length k7', .slice A8' r.data.texts.length k8'] 44)) (fun k => W2.heap.size ≤ k ∧ some k ≠ (Value.slice Ax acc.length kx).ownBlock) (.slice (some ⟨w3.heap.size, 0, none⟩) 1 1) [r]) := ⟨rd_box HP3.out (by decide) hbx⟩; have hbs : W2.heap.size ≤ (w3.alloc (.cells #[.slice A0' r.name.length k0', .int .i64 r.typ, .int .i64 r.cls, .int .i64 r.ttl, .slice A4' r.data.bytes.length k4', .slice A5' r.data.host.length k5', .slice A6' r.data.mail.length k6', .slice A7' r.data.nums.length k7', .slice A8' r.data.texts.length k8'] 44)).heap.size := (by rw [World.size_alloc]; exact Nat.le_trans hsz3 (Nat.le_succ _)); have hl7 : M < (w3.alloc (.cells #[.slice A0' r.name.length k0', .int .i64 r.typ, .int .i64 r.cls, .int .i64 r.ttl, .slice A4' r.data.bytes.length k4', .slice A5' r.data.host.length k5', .slice A6' r.data.mail.length k6', .slice A7' r.data.nums.length k7', .slice A8' r.data.texts.length k8'] 44)).heap.size := (by rw [World.size_alloc]; exact Nat.lt_succ_of_lt hl6); clear hk3 hb3; go_simp)
            | (refine step_append_own kR W2.heap.size ?_ (.tmp 43) (.tmp 46) 23 44 (.agg #[.slice none 0 0, .int .i64 0, .int .i64 0, .int .i64 0, .slice none 0 0, .slice none 0 0, .slice none 0 0, .slice none 0 0, .slice none 0 0]) ?_ ?_ ?_ ?_ ?_ ?_ (.slice Ax acc.length kx) (.slice (some ⟨w3.heap.size, 0, none⟩) 1 1) acc [r] (fun k => W2.heap.size ≤ k) ?_ ?_ ?_ ?_ ?_ ?_ ?_; rfl; rfl; exact Try.underlying23; exact infoR0; rfl; decide; decide; rfl; rfl; exact OWB.out; exact HRB.out; exact hbs; exact HRM.out; intro v4 w4 ho4 hg4 _; obtain ⟨A4', k4', rfl, _⟩ := ho4.slice_; have q4 := hg4.cell_far ⟨M, 11, none⟩ hl7 hne6; have qf4 := hg4.frozen_far ⟨M, 11, none⟩ hl7 hne6; rw [cellA hl6] at q4; rw [frozenA hl6] at qf4))
          all_goals have BT3 : But W2.heap.size M W2 w3 := BT2.out.next (Nat.le_refl _) HB3.out
          all_goals have BG4 := (Below.refl W2.heap.size (w3.alloc _)).grown hg4 (by rw [World.size_alloc]; exact Nat.le_trans hsz3 (Nat.le_succ _)) (fun kk hkk => (OW2.out.lt kk hkk).1)
          all_goals have BT4 : But W2.heap.size M W2 w4 := (BT3.next (Nat.le_refl _) (below_alloc (Below.refl _ _) _)).trans (But.of BG4)
          all_goals have q40 : w4.cell? ⟨M, 11, none⟩ = some (.slice Ax acc.length kx) := q4.trans ((bc3 M 11 hl4).trans ((bc M 11 hl3).trans Q11.out))
          all_goals have HO4 : ∀ o, o ≠ 11 → w4.cell? ⟨M, o, none⟩ = W2.cell? ⟨M, o, none⟩ := (fun o ho => (hg4.cell_far ⟨M, o, none⟩ (by rw [World.size_alloc]; exact Nat.lt_succ_of_lt hl6) hne6).trans ((cellA hl6).trans ((bc3 M o hl4).trans ((bc M o hl3).trans (HOC1.out o ho)))))
          all_goals have HF4 : ∀ o, w4.frozen? ⟨M, o, none⟩ = W2.frozen? ⟨M, o, none⟩ := (fun o => (hg4.frozen_far ⟨M, o, none⟩ (by rw [World.size_alloc]; exact Nat.lt_succ_of_lt hl6) hne6).trans ((frozenA hl6).trans ((bc3_f M o hl4).trans ((bf M o hl3).trans (HFC1.out o)))))
          all_goals have OW4 := own_set ho4 (M := M) (fun kk hkk => by have h0 : W2.heap.size ≤ kk := hkk; omega) hM2 11 (.slice A4' (acc ++ [r]).length k4')
          all_goals go_wp2_with fail
          all_goals go_roundg (z.recs.length - (k + 1))
          all_goals first
            | (have := HLT.out; omega)
            | (refine ⟨k + 1, _, by have := HLT.out; omega, by omega, by go_num, ⟨BT4.set 11 _⟩, World.cell?_setCell_same w4 _ _ q40, ⟨?_⟩, ⟨fun o ho => (World.cell?_setCell_other _ _ _ _ (addr_ne (Ne.symm ho))).trans (HO4 o ho)⟩, ⟨fun o => by rw [World.frozen?_setCell]; exact HF4 o⟩⟩
               rw [HST.out, P1.out, HPT.out]
               rw [show (acc ++ [r]).length = acc.length + 1 from by simp] at OW4
               simpa using OW4)
        have f3 : (r.typ == 28) = false := beq_eq_false_iff_ne.mpr p3
        have P3 := Aside0.mk p3
        clear p3
        have P1 := Aside0.mk p1
        clear p1
        refine (contains_r_v true _ _ _ (HRA1.out) _ _ _ eg HP.out P1.out).mono ?_
        rintro e w2 ⟨rfl, hb2⟩
        have HB2 := Aside0.mk hb2
        clear hb2
        obtain ⟨bc, bf⟩ := bcell HB2.out
        have BT2 : Aside0 (But W2.heap.size M W2 w2) := ⟨(BT1.out).next (Nat.le_refl _) HB2.out⟩
        go_wp2_with fail
        go_roundg (z.recs.length - (k + 1))
        case measure => have := HLT.out; omega
        case rel =>
          refine ⟨k + 1, .slice Ax acc.length kx, by have := HLT.out; omega, by omega, by go_num, BT2, (bc M 11 hl3).trans Q11.out, ⟨?_⟩, ⟨fun o h1 => (bc M o hl3).trans (HOC1.out o h1)⟩, ⟨fun o => (bf M o hl3).trans (HFC1.out o)⟩⟩
          rw [HST.out, P1.out, Bool.true_and, decide_eq_false P2.out, decide_eq_false P3.out, Bool.or_false]
          simpa using OW1.out.below HB2.out
    · have hka : k = z.recs.length := by omega
      have HK := Aside0.mk hka
      clear hka
      have q9 := (HOC'.out 9 (by decide)).trans HN9.out.1
      have q3 := (HOC'.out 3 (by decide)).trans HN9.out.2
      have r3 := (HFC'.out 3).trans t3
      have hMr : M < wr.heap.size := Nat.lt_of_lt_of_le hM2 HB.out.size
      go_wp2
      (try simp only [Exit.inBlock, Exit.then])
      refine bodyPost_ret (results_none rfl _ _ _) rfl ?_
      have ho := HO.out
      rw [HK.out, List.take_length] at ho
      have BW : But w.heap.size M w wr := ((But.of BX.out).trans (BT0.out.mono (by omega))).trans (HB.out.mono (by omega))
      have hra := HB.out.rd pR HRA2.out (fun k hk => by omega)
      have hns := HNS.out
      subst hns
      refine ⟨_, _, rfl, BW.set 3 _, (World.cell?_setCell_other _ _ _ _ (by simp)).trans q10, (rd_set (M := M) pR hra (fun k hk => by omega) 3 _).mono (fun k hk => by omega), (World.cell?_setCell_other _ _ _ _ (by simp)).trans q11, rd_set (M := M) pR (ho.rd (ok' := fun k => w.heap.size ≤ k) (fun k hk => by have h0 : W2.heap.size ≤ k := hk; omega) (fun k hk => by have h0 : W2.heap.size ≤ k := hk; omega)) (fun k hk => by have h0 : w.heap.size ≤ k := hk; omega) 3 _, ?_, fun o h3 h10 h11 => (World.cell?_setCell_other _ _ _ _ (addr_ne (Ne.symm h3))).trans ((HOC'.out o h11).trans (HOC.out o h10)), fun o => by rw [World.frozen?_setCell]; exact (HFC'.out o).trans (HFC.out o)⟩
      rw [World.cell?_setCell_same wr _ _ q3]
end Go.Proofs.Ytkbjbkmaokebgaa.Gz

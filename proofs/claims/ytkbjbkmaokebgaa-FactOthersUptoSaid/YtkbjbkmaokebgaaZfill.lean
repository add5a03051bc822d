import Derived.Test.YtkbjbkmaokebgaaBar
import Derived.Deep.RegionLaw
set_option linter.unusedVariables false
set_option linter.unusedSimpArgs false
namespace Go.Proofs.Ytkbjbkmaokebgaa.Gz
open Go.RowKit Go.Proofs.YtkbjbkmaokebgaaW.PrintWords
open Ki
theorem cellN {w : World} {cs : Array Value} {t b f : Nat} (h : b = w.heap.size) : (w.alloc (.cells cs t)).cell? ⟨b, f, none⟩ = cs[f]? := by subst h; simp
theorem frozenN {w : World} {cs : Array Value} {t b f : Nat} (h : b = w.heap.size) : (w.alloc (.cells cs t)).frozen? ⟨b, f, none⟩ = false := by subst h; simp
theorem zcut_some {w : World} {ok : Nat → Prop} {z : Zone} {n c : List ByteArray} {F : Nat} {args : Array Value} (h : Calls Try.prog F args w (GivesCut w ok (zcut z n))) (hc : zcut z n = some c) :
    Calls Try.prog F args w (fun e w' => ∃ v, e = .returned (.tuple #[v, .bool true]) ∧ kS.Rd w' ok v c ∧ Below w.heap.size w w') := by
  refine h.mono ?_
  rintro e w' ⟨hb, hm⟩
  rw [hc] at hm
  obtain ⟨v, he, hr⟩ := hm
  exact ⟨v, he, hr, hb⟩
theorem zcut_none {w : World} {ok : Nat → Prop} {z : Zone} {n : List ByteArray} {F : Nat} {args : Array Value} (h : Calls Try.prog F args w (GivesCut w ok (zcut z n))) (hc : zcut z n = none) :
    Calls Try.prog F args w (fun e w' => e = .returned (.tuple #[.slice none 0 0, .bool false]) ∧ Below w.heap.size w w') := by
  refine h.mono ?_
  rintro e w' ⟨hb, hm⟩
  rw [hc] at hm
  exact ⟨hm, hb⟩
theorem infoL0 : (Try.prog.info? 22).map (fun i => (i.zero, i.size, i.bytes)) = some (some (.slice none 0 0), (kL kS pS).sz, (kL kS pS).bytes) := by kernel_rfl
theorem addr_neb {a b o p : Nat} (h : ¬ a = b) : (⟨a, o, none⟩ : Addr) ≠ ⟨b, p, none⟩ := fun e => h (by injection e)
theorem kR_host {w : World} {ok : Nat → Prop} {r : RR} {v0 t1 t2 t3 v4 v5 v6 v7 v8 : Value} (h : kR.K w ok r [v0, t1, t2, t3, v4, v5, v6, v7, v8]) : kS.Rd w ok v5 r.data.host := by
  obtain ⟨a, cd, he, _, _, _, _, hd⟩ := h
  obtain ⟨d4, d5, d6, d7, d8, rfl, _, h5, _⟩ := hd
  simp only [List.cons.injEq] at he
  obtain ⟨_, _, _, _, _, rfl, _⟩ := he
  exact h5
set_option maxHeartbeats 16000000 in
set_option maxRecDepth 100000 in
theorem fill_calls (z : Zone) (cz : List Value) (q : Qn) (cq : List Value) (M : Nat) (w : World) (hz : kZ.K w (fun k => k ≠ M) z cz) (hq : kQ.K w (fun k => k ≠ M) q cq) (hM : M < w.heap.size) (hsm : z.recs.length ≤ 256)
    (m3 : w.cell? ⟨M, 3, none⟩ = some (.bool true)) (m7 : w.cell? ⟨M, 7, none⟩ = some (.int .i64 0)) (m9 : w.cell? ⟨M, 9, none⟩ = some (.slice none 0 0)) (m10 : w.cell? ⟨M, 10, none⟩ = some (.slice none 0 0)) (m11 : w.cell? ⟨M, 11, none⟩ = some (.slice none 0 0))
    (mf : ∀ o, w.frozen? ⟨M, o, none⟩ = false) :
    Calls Try.prog 42 #[.agg cz.toArray, .pointer (some ⟨M, 0, none⟩), .agg cq.toArray] w (Filled z q M w) := by
  have HZ := Aside0.mk hz
  have HSM := Aside0.mk hsm
  obtain ⟨vn, vr, rfl, hn, hr⟩ := hz
  obtain ⟨vq, rfl, hqn, hqt, hqc⟩ := hq
  have HQN := Aside0.mk hqn
  have HZN := Aside0.mk hn
  obtain ⟨An, cn, rfl, hln, _⟩ := hn
  obtain ⟨Ar, cr, rfl, hlr, _⟩ := hr
  obtain ⟨Aq, cq', rfl, _, _⟩ := hqn
  generalize hW2 : (((w.alloc (.cells #[.slice An z.name.length cn, .slice Ar z.recs.length cr] 25)).alloc (.cells #[.slice Aq q.name.length cq', .int .i64 q.typ, .int .i64 q.cls] 27)).alloc (.cells #[.slice Aq q.name.length cq'] 22)).alloc (.cells #[.slice Aq q.name.length cq'] 22) = W2
  have HW2 := Aside0.mk hW2
  have BX : Aside0 (Below w.heap.size w W2) := ⟨by rw [← hW2]; exact below_alloc (below_alloc (below_alloc (below_alloc (Below.refl _ _) _) _) _) _⟩
  have hs2 : W2.heap.size = w.heap.size + 4 := by rw [← hW2]; simp
  have y0 : W2.cell? ⟨w.heap.size, 0, none⟩ = some (.slice An z.name.length cn) := by rw [← hW2, cellA (by simp only [World.size_alloc]; omega), cellA (by simp only [World.size_alloc]; omega), cellA (by simp only [World.size_alloc]; omega)]; simp
  have y1 : W2.cell? ⟨w.heap.size, 1, none⟩ = some (.slice Ar z.recs.length cr) := by rw [← hW2, cellA (by simp only [World.size_alloc]; omega), cellA (by simp only [World.size_alloc]; omega), cellA (by simp only [World.size_alloc]; omega)]; simp
  have y2 : W2.cell? ⟨w.heap.size + 1, 1, none⟩ = some (.int .i64 q.typ) := by rw [← hW2, cellA (by simp only [World.size_alloc]; omega), cellA (by simp only [World.size_alloc]; omega)]; simp
  have y3 : W2.cell? ⟨w.heap.size + 2, 0, none⟩ = some (.slice Aq q.name.length cq') := by rw [← hW2, cellA (by simp only [World.size_alloc]; omega), cellN (by simp only [World.size_alloc])]; rfl
  have f3 : W2.frozen? ⟨w.heap.size + 2, 0, none⟩ = false := by rw [← hW2, frozenA (by simp only [World.size_alloc]; omega), frozenN (by simp only [World.size_alloc])]
  have OS0 : Aside0 ((kL kS pS).Own 22 W2 (w.heap.size + 3) (fun k => (k ≠ M ∧ k ≠ w.heap.size + 2) ∧ some k ≠ (Value.slice none 0 0).ownBlock) (.slice (some ⟨w.heap.size + 3, 0, none⟩) 1 1) [q.name]) := ⟨by
    rw [← hW2]
    generalize hV : ((w.alloc (.cells #[.slice An z.name.length cn, .slice Ar z.recs.length cr] 25)).alloc (.cells #[.slice Aq q.name.length cq', .int .i64 q.typ, .int .i64 q.cls] 27)).alloc (.cells #[.slice Aq q.name.length cq'] 22) = V
    have hVs : V.heap.size = w.heap.size + 3 := by rw [← hV]; simp
    have hVb : Below w.heap.size w V := by rw [← hV]; exact below_alloc (below_alloc (below_alloc (Below.refl _ _) _) _) _
    have hk : (kL kS pS).K V (fun k => (k ≠ M ∧ k ≠ w.heap.size + 2) ∧ some k ≠ (Value.slice none 0 0).ownBlock) q.name [.slice Aq q.name.length cq'] :=
      ⟨_, rfl, ((HQN.out.low pS).mono (fun k hk => ⟨⟨hk.1, by omega⟩, by simp [Value.ownBlock]⟩)).below pS hVb⟩
    have hr1 : Reps ((kL kS pS).K V (fun k => (k ≠ M ∧ k ≠ w.heap.size + 2) ∧ some k ≠ (Value.slice none 0 0).ownBlock)) (kL kS pS).sz [q.name] [.slice Aq q.name.length cq'] := by
      have := (Reps.none ((kL kS pS).K V (fun k => (k ≠ M ∧ k ≠ w.heap.size + 2) ∧ some k ≠ (Value.slice none 0 0).ownBlock)) (kL kS pS).sz).snoc hk ((kL kS pS).len hk)
      simpa using this
    have := Own.lit (d := kL kS pS) (e := 22) (base := w.heap.size + 3) V hr1 (by omega) (by simp) (by show 1 * 24 ≤ B47; decide)
    rw [hVs] at this
    exact this⟩
  have HM2 : Aside0 ((∀ o, W2.cell? ⟨M, o, none⟩ = w.cell? ⟨M, o, none⟩) ∧ ∀ o, W2.frozen? ⟨M, o, none⟩ = w.frozen? ⟨M, o, none⟩) := ⟨fun o => BX.out.cell (p := ⟨M, o, none⟩) hM, fun o => BX.out.frozen (p := ⟨M, o, none⟩) hM⟩
  have HS2 := Aside0.mk hs2
  have HY := Aside0.mk (And.intro y0 (And.intro y1 (And.intro y2 (And.intro y3 f3))))
  have HQ0 : Aside0 (kS.Rd W2 (fun k => (k ≠ M ∧ k ≠ w.heap.size + 2 ∧ some k ≠ (Value.slice (some ⟨w.heap.size + 3, 0, none⟩) 1 1).ownBlock) ∧ some k ≠ (Value.slice none 0 0).ownBlock) (.slice Aq q.name.length cq') q.name) :=
    ⟨((HQN.out.low pS).mono (fun k hk => ⟨⟨hk.1, by omega, fun e => by simp [Value.ownBlock] at e; omega⟩, by simp [Value.ownBlock]⟩)).below pS BX.out⟩
  have HMM : Aside0 (W2.cell? ⟨M, 9, none⟩ = some (.slice none 0 0)) := ⟨(HM2.out.1 9).trans m9⟩
  have HSTART : Aside0 (FillAt z q M (w.heap.size + 2) (w.heap.size + 3) W2 W2 z.recs.length (.slice (some ⟨w.heap.size + 3, 0, none⟩) 1 1) [] q.name [] (.slice none 0 0) (.slice Aq q.name.length cq')) :=
    ⟨{ few := by have := left_le z.recs []; simp; omega
       less := left_le _ _
       new := rfl
       cnt := rfl
       bar := Bar.refl _ _ _
       out := fun _ _ => rfl
       froz := fun _ => rfl
       nrd := HQ0.out
       oa := Own.nil _ _ _ _ _
       os := OS0.out
       dis := fun k hk => by simp [Value.ownBlock]
       fil := fun o h => h }⟩
  have MM := Aside0.mk (And.intro m3 (And.intro m7 (And.intro m10 m11)))
  have MF := Aside0.mk mf
  clear hW2 hs2 y0 y1 y2 y3 f3 m3 m7 m9 m10 m11 mf
  have eg : ∀ args w, (callFunc 82 args).run Try.prog w = .ok (.enter 82 args) w := enters Try.func82 (by kernel_rfl) rfl
  go_enter Try.func42, Try.ntmps42
  go_wp2_with fail
  rw [HW2.out]
  go_loopg [7] z.recs.length (fun gg sv wr => ∃ (been : List (List ByteArray)) (n : List ByteArray) (ans : List RR) (va vn : Value), Aside0 (FillAt z q M (w.heap.size + 2) (w.heap.size + 3) W2 wr gg sv been n ans va vn) ∧ wr.cell? ⟨M, 9, none⟩ = some va ∧ wr.cell? ⟨w.heap.size + 2, 0, none⟩ = some vn ∧ wr.frozen? ⟨w.heap.size + 2, 0, none⟩ = false)
  case atStart => exact ⟨[], q.name, [], _, _, HSTART, HMM.out, HY.out.2.2.2.1, HY.out.2.2.2.2⟩
  case round =>
    obtain ⟨been, n, ans, va, vn, H, p9, pn, pf⟩ := hrel
    have hs2 := HS2.out
    have hN2 : w.heap.size + 2 < W2.heap.size := by omega
    have hM2 : M < W2.heap.size := by omega
    have y0 := (H.out.bar.cell (b := w.heap.size) (o := 0) (by omega) (by omega)).trans HY.out.1
    have y1 := (H.out.bar.cell (b := w.heap.size) (o := 1) (by omega) (by omega)).trans HY.out.2.1
    have y2 := (H.out.bar.cell (b := w.heap.size + 1) (o := 1) (by omega) (by omega)).trans HY.out.2.2.1
    have hsr : W2.heap.size ≤ wr.heap.size := H.out.bar.size
    have HBW : Aside0 (But w.heap.size M w wr) := ⟨(But.of BX.out).trans ((H.out.bar.mono (by omega)).toBut (fun k hk hp => hp.elim id (fun h => by omega)))⟩
    have HZr : Aside0 (kZ.K wr (fun k => k ≠ M) z [.slice An z.name.length cn, .slice Ar z.recs.length cr]) := ⟨HBW.out.kk HZ.out (fun _ h => h)⟩
    have c3 : wr.cell? ⟨M, 3, none⟩ = some (.bool true) := (H.out.out 3 (by decide)).trans ((HM2.out.1 3).trans MM.out.1)
    have c7 : wr.cell? ⟨M, 7, none⟩ = some (.int .i64 0) := (H.out.out 7 (by decide)).trans ((HM2.out.1 7).trans MM.out.2.1)
    have c10 : wr.cell? ⟨M, 10, none⟩ = some (.slice none 0 0) := (H.out.out 10 (by decide)).trans ((HM2.out.1 10).trans MM.out.2.2.1)
    have c11 : wr.cell? ⟨M, 11, none⟩ = some (.slice none 0 0) := (H.out.out 11 (by decide)).trans ((HM2.out.1 11).trans MM.out.2.2.2)
    have HFr : Aside0 (∀ o, wr.frozen? ⟨M, o, none⟩ = false) := ⟨fun o => (H.out.froz o).trans ((HM2.out.2 o).trans (MF.out o))⟩
    have HOr : Aside0 (∀ o, o ≠ 9 → wr.cell? ⟨M, o, none⟩ = w.cell? ⟨M, o, none⟩) := ⟨fun o ho => (H.out.out o ho).trans (HM2.out.1 o)⟩
    have hM1 : M < wr.heap.size := by omega
    have hZ1 : w.heap.size < wr.heap.size := by omega
    have hQ1 : w.heap.size + 1 < wr.heap.size := by omega
    have hN1 : w.heap.size + 2 < wr.heap.size := by omega
    have hMN : ¬ (M = w.heap.size + 2) := by omega
    have hNM : ¬ (w.heap.size + 2 = M) := by omega
    obtain ⟨Ax, kx, rfl, _⟩ := H.out.oa.slice_
    obtain ⟨As, ks, hsv, _⟩ := H.out.os.slice_
    obtain ⟨Av, cv, rfl, _, _⟩ := H.out.nrd
    subst hsv
    have PN := Aside0.mk (And.intro pn pf)
    have P := Aside0.mk (And.intro p9 (And.intro c3 (And.intro c7 (And.intro c10 c11))))
    clear hs2
    cases hcut : zcut z n with
    | some c =>
      have HCUT := Aside0.mk hcut
      have HC := Aside0.mk (zcut_some (zcut_calls z _ _ n _ wr (kZ.mono (fun _ _ => trivial) HZr.out) H.out.nrd) hcut)
      clear hcut
      go_wp2_with fail
      refine HC.out.mono ?_
      rintro e w1 ⟨v1, rfl, hr1, hb1⟩
      have HR1 := Aside0.mk (hr1.mono (ok' := fun k => k ≠ M) (fun k hk => hk.1.1))
      have HB1 := Aside0.mk hb1
      obtain ⟨A1, k1, rfl, _, _⟩ := hr1
      obtain ⟨bc, bf⟩ := bcell HB1.out
      clear hb1
      go_wp2_with fail
      refine (refer_calls z _ _ c M Ax ans.length kx _ _ w1 (K_below HZr.out HB1.out) HR1.out (Nat.lt_of_lt_of_le hM1 HB1.out.size) ((bc M 9 hM1).trans P.out.1) ((bc M 10 hM1).trans P.out.2.2.2.1) ((bc M 11 hM1).trans P.out.2.2.2.2) ((bc M 3 hM1).trans P.out.2.1) ((bf M 3 hM1).trans (HFr.out 3)) ((bf M 10 hM1).trans (HFr.out 10)) ((bf M 11 hM1).trans (HFr.out 11))).mono ?_
      rintro e w2 ⟨vb, vx, rfl, hbt, d10, rd10, d11, rd11, d3, hrest, hfr⟩
      have BW2 : Aside0 (But w.heap.size M w w2) := ⟨(HBW.out.next (Nat.le_refl _) HB1.out).trans (hbt.mono (Nat.le_trans HBW.out.size HB1.out.size))⟩
      have T := Aside0.mk (And.intro d10 (And.intro rd10 (And.intro d11 (And.intro rd11 (And.intro d3 (And.intro hrest hfr))))))
      have HBT := Aside0.mk hbt
      clear bc bf hbt d10 rd10 d11 rd11 d3 hrest hfr
      go_wp2_with fail
      (try simp only [Exit.inBlock, Exit.then])
      refine bodyPost_ret (results_none rfl _ _ _) rfl ?_
      obtain ⟨d10, rd10, d11, rd11, d3, hrest, hfr⟩ := T.out
      have ra := (HBT.out.rd pR ((H.out.oa.rd (ok' := fun k => w.heap.size + 3 ≤ k) (fun k h => h.1.1) (fun k h => h)).below pR HB1.out) (fun k hk => by omega)).mono (ok' := fun k => w.heap.size ≤ k) (fun k hk => by omega)
      have hle : w.heap.size ≤ w1.heap.size := Nat.le_trans HBW.out.size HB1.out.size
      exact ⟨_, _, _, _, rfl, H.out.fil _ (Fills.cut _ _ _ c HCUT.out), BW2.out, d3, (hrest 7 (by decide) (by decide) (by decide)).trans ((HB1.out.cell (p := ⟨M, 7, none⟩) hM1).trans P.out.2.2.1), (hrest 9 (by decide) (by decide) (by decide)).trans ((HB1.out.cell (p := ⟨M, 9, none⟩) hM1).trans P.out.1), ra,
        d10, rd10.mono (fun k hk => Nat.le_trans hle hk), d11, rd11.mono (fun k hk => Nat.le_trans hle hk),
        fun o h3 h7 h9 h10 h11 => (hrest o h3 h10 h11).trans ((HB1.out.cell (p := ⟨M, o, none⟩) hM1).trans (HOr.out o h9)), fun o => (hfr o).trans ((HB1.out.frozen (p := ⟨M, o, none⟩) hM1).trans ((H.out.froz o).trans (HM2.out.2 o)))⟩
    | none =>
      have HCUT := Aside0.mk hcut
      have HC := Aside0.mk (zcut_none (zcut_calls z _ _ n _ wr (kZ.mono (fun _ _ => trivial) HZr.out) H.out.nrd) hcut)
      clear hcut
      go_wp2_with fail
      refine HC.out.mono ?_
      rintro e w1 ⟨rfl, hb1⟩
      have HB1 := Aside0.mk hb1
      clear hb1
      obtain ⟨bc, bf⟩ := bcell HB1.out
      go_wp2_with fail
      have hl1 : M < w1.heap.size := Nat.lt_of_lt_of_le hM1 HB1.out.size
      have HN1 : Aside0 (kS.Rd w1 (fun _ => True) (.slice Av n.length cv) n) := ⟨H.out.nrd.any.below pS HB1.out⟩
      have HZ1 : Aside0 (kZ.K w1 (fun _ => True) z [.slice An z.name.length cn, .slice Ar z.recs.length cr]) := ⟨K_below (kZ.mono (fun _ _ => trivial) HZr.out) HB1.out⟩
      have HROOM : Aside0 (∀ m, m ≤ 256 → (ans.length + m) * kR.bytes ≤ B47) := ⟨fun m hm => by
        have h1 := H.out.few
        have h2 := HSM.out
        rw [List.length_append, List.length_singleton, ← H.out.cnt] at h1
        have h3 : (ans.length + m) * kR.bytes ≤ 1000 * kR.bytes := Nat.mul_le_mul_right _ (by omega)
        exact Nat.le_trans h3 (by decide)⟩
      have BWany : Aside0 (∀ W, Below wr.heap.size wr W → But w.heap.size M w W) := ⟨fun W hW => HBW.out.next (Nat.le_refl _) hW⟩
      have hex : ∀ (W : World), Below wr.heap.size wr W → Aside0 (∀ o, W.cell? ⟨M, o, none⟩ = wr.cell? ⟨M, o, none⟩) := fun W hW => ⟨fun o => hW.cell (p := ⟨M, o, none⟩) hM1⟩
      refine (zof_calls z _ _ n q.typ _ HZ1.out HN1.out).mono ?_
      rintro e w2 ⟨v2, rfl, hr2, hb2⟩
      have HR2 := Aside0.mk hr2
      have HB2 : Aside0 (Below wr.heap.size wr w2) := ⟨HB1.out.trans (hb2.mono HB1.out.size)⟩
      have HB2' := Aside0.mk hb2
      clear hb2 bc bf
      obtain ⟨A2, k2, rfl, _, _⟩ := hr2
      obtain ⟨bc, bf⟩ := bat HB2.out
      have hl2 : M < w2.heap.size := Nat.lt_of_lt_of_le hM1 HB2.out.size
      have OA2 : Aside0 (kR.Own 44 w2 (w.heap.size + 3) (fun k => (w.heap.size + 3 ≤ k ∧ k ≠ w.heap.size + 2) ∧ some k ≠ (Value.slice As (been ++ [n]).length ks).ownBlock) (.slice Ax ans.length kx) ans) := ⟨H.out.oa.below HB2.out⟩
      have hsv1 : ∀ k, w1.heap.size ≤ k → some k ≠ (Value.slice As (been ++ [n]).length ks).ownBlock := fun k hk he => by have h1 := (H.out.os.lt k he.symm).2; have h2 := HB1.out.size; omega
      have hva1 : ∀ k, w1.heap.size ≤ k → some k ≠ (Value.slice Ax ans.length kx).ownBlock := fun k hk he => by have h1 := (H.out.oa.lt k he.symm).2; have h2 := HB1.out.size; omega
      have hMva : some M ≠ (Value.slice Ax ans.length kx).ownBlock := fun he => by have h1 := (H.out.oa.lt M he.symm).1; omega
      by_cases hl : 0 < (zof z.recs n q.typ).length
      · have HL := Aside0.mk hl
        have HRR : Aside0 (kR.Rd w2 (fun k => ((w.heap.size + 3 ≤ k ∧ k ≠ w.heap.size + 2) ∧ some k ≠ (Value.slice As (been ++ [n]).length ks).ownBlock) ∧ some k ≠ (Value.slice Ax ans.length kx).ownBlock) (.slice A2 (zof z.recs n q.typ).length k2) (zof z.recs n q.typ)) :=
          ⟨HR2.out.mono (fun k hk => ⟨⟨⟨by have := HB1.out.size; omega, by have := HB1.out.size; omega⟩, hsv1 k hk⟩, hva1 k hk⟩)⟩
        have HRO : Aside0 ((ans.length + (zof z.recs n q.typ).length) * kR.bytes ≤ B47) := ⟨HROOM.out _ (Nat.le_trans (zof_len _ _ _) HSM.out)⟩
        have hbs : w.heap.size + 3 ≤ w2.heap.size := by have := HB2.out.size; omega
        go_wp2_with (at_builtin; refine Own.append_row kR (w0 := w2) (w.heap.size + 3) rfl (.tmp 39) (.tmp 40) 23 44 (.agg #[.slice none 0 0, .int .i64 0, .int .i64 0, .int .i64 0, .slice none 0 0, .slice none 0 0, .slice none 0 0, .slice none 0 0, .slice none 0 0]) rfl Try.underlying23 infoR0 rfl (by decide) (by decide) _ _ _ _ _ rfl rfl OA2.out HRR.out (Below.refl _ _) hbs HRO.out ?_; intro v3 w3 ho3 hb3 hg3 ha3; obtain ⟨A3, k3, rfl, _⟩ := ho3.slice_; have q9 := (hg3.cell_far ⟨M, 9, none⟩ hl2 hMva).trans ((bc M 9 hM1).trans P.out.1); have qf9 := (hg3.frozen_far ⟨M, 9, none⟩ hl2 hMva).trans ((bf M 9 hM1).trans (HFr.out 9)))
        (try simp only [Exit.inBlock, Exit.then])
        refine bodyPost_ret (results_none rfl _ _ _) rfl ?_
        have K3 : ∀ o, w3.cell? ⟨M, o, none⟩ = wr.cell? ⟨M, o, none⟩ := fun o => (hg3.cell_far ⟨M, o, none⟩ hl2 hMva).trans (HB2.out.cell (p := ⟨M, o, none⟩) hM1)
        have F3 : ∀ o, w3.frozen? ⟨M, o, none⟩ = wr.frozen? ⟨M, o, none⟩ := fun o => (hg3.frozen_far ⟨M, o, none⟩ hl2 hMva).trans (HB2.out.frozen (p := ⟨M, o, none⟩) hM1)
        have BW3 : But w.heap.size M w w3 := (HBW.out.next (Nat.le_refl _) HB2.out).trans (But.of ((Below.refl w.heap.size w2).grown hg3 (by omega) (fun k hk => by have := (H.out.oa.lt k hk).1; omega)))
        have ra := rd_set (M := M) pR (ho3.rd (ok' := fun k => w.heap.size ≤ k) (fun k h => by have := h.1.1; omega) (fun k h => by omega)) (fun k hk => by have h0 : w.heap.size ≤ k := hk; omega) 9 (.slice A3 (ans ++ zof z.recs n q.typ).length k3)
        have he : (Value.slice A3 (ans ++ zof z.recs n q.typ).length k3) = .slice A3 (ans.length + (zof z.recs n q.typ).length) k3 := by rw [List.length_append]
        rw [he] at ra
        exact ⟨_, _, _, _, rfl, H.out.fil _ (Fills.hit _ _ _ HCUT.out HL.out), BW3.set 9 _, (World.cell?_setCell_other _ _ _ _ (addr_ne (by decide))).trans ((K3 3).trans P.out.2.1), (World.cell?_setCell_other _ _ _ _ (addr_ne (by decide))).trans ((K3 7).trans P.out.2.2.1),
          World.cell?_setCell_same w3 _ _ q9, ra, (World.cell?_setCell_other _ _ _ _ (addr_ne (by decide))).trans ((K3 10).trans P.out.2.2.2.1), Rd.nil _ _ _, (World.cell?_setCell_other _ _ _ _ (addr_ne (by decide))).trans ((K3 11).trans P.out.2.2.2.2), Rd.nil _ _ _,
          fun o h3 h7 h9 h10 h11 => (World.cell?_setCell_other _ _ _ _ (addr_ne (Ne.symm h9))).trans ((K3 o).trans (HOr.out o h9)), fun o => by rw [World.frozen?_setCell]; exact (F3 o).trans ((H.out.froz o).trans (HM2.out.2 o))⟩
      · have HL := Aside0.mk hl
        go_wp2_with fail
        refine (zof_calls z _ _ n 5 _ (K_below HZ1.out (HB2'.out)) (HN1.out.below pS HB2'.out)).mono ?_
        rintro e w3 ⟨v3, rfl, hr3, hb3⟩
        have HR3 := Aside0.mk hr3
        have HB3 : Aside0 (Below wr.heap.size wr w3) := ⟨HB2.out.trans (hb3.mono HB2.out.size)⟩
        have HB13 : Aside0 (Below w1.heap.size w1 w3) := ⟨HB2'.out.trans (hb3.mono HB2'.out.size)⟩
        have HS23 := Aside0.mk hb3.size
        clear hb3 bc bf
        obtain ⟨A3, k3, rfl, _, hrow3⟩ := hr3
        obtain ⟨bc, bf⟩ := bat HB3.out
        have hl3 : M < w3.heap.size := Nat.lt_of_lt_of_le hM1 HB3.out.size
        by_cases h5 : (zof z.recs n 5).length = 0
        · have H5 := Aside0.mk h5
          go_wp2_with fail
          refine (zof_calls z _ _ z.name 6 _ (K_below HZ1.out HB13.out) ((BWany.out w3 HB3.out).rd pS HZN.out (fun _ h => h)).any).mono ?_
          rintro e w4 ⟨v4, rfl, hr4, hb4⟩
          have HR4 := Aside0.mk hr4
          have HB4 : Aside0 (Below wr.heap.size wr w4) := ⟨HB3.out.trans (hb4.mono HB3.out.size)⟩
          clear hb4 bc bf
          obtain ⟨A4, k4, rfl, _, _⟩ := hr4
          obtain ⟨bc, bf⟩ := bat HB4.out
          have hl4 : M < w4.heap.size := Nat.lt_of_lt_of_le hM1 HB4.out.size
          have r10 := HFr.out 10
          go_wp2_with fail
          have HD4 : Aside0 (But w.heap.size M w (w4.setCell ⟨M, 10, none⟩ (.slice A4 (zof z.recs z.name 6).length k4))) := ⟨(BWany.out w4 HB4.out).set 10 _⟩
          have HR4' : Aside0 (kR.Rd (w4.setCell ⟨M, 10, none⟩ (.slice A4 (zof z.recs z.name 6).length k4)) (fun k => w3.heap.size ≤ k) (.slice A4 (zof z.recs z.name 6).length k4) (zof z.recs z.name 6)) := ⟨rd_set (M := M) pR HR4.out (fun k hk => by have h0 : w3.heap.size ≤ k := hk; omega) 10 _⟩
          have HA4 : Aside0 (kR.Rd (w4.setCell ⟨M, 10, none⟩ (.slice A4 (zof z.recs z.name 6).length k4)) (fun k => w.heap.size + 3 ≤ k) (.slice Ax ans.length kx) ans) := ⟨rd_set (M := M) pR ((H.out.oa.rd (ok' := fun k => w.heap.size + 3 ≤ k) (fun k h => h.1.1) (fun k h => h)).below pR HB4.out) (fun k hk => by have h0 : w.heap.size + 3 ≤ k := hk; omega) 10 _⟩
          have HN4 : Aside0 (kS.Rd (w4.setCell ⟨M, 10, none⟩ (.slice A4 (zof z.recs z.name 6).length k4)) (fun _ => True) (.slice Av n.length cv) n) := ⟨(rd_set (M := M) pS (H.out.nrd.below pS HB4.out) (fun k hk => hk.1.1) 10 _).any⟩
          have HZ4 : Aside0 (kZ.K (w4.setCell ⟨M, 10, none⟩ (.slice A4 (zof z.recs z.name 6).length k4)) (fun _ => True) z [.slice An z.name.length cn, .slice Ar z.recs.length cr]) := ⟨kZ.mono (fun _ _ => trivial) (HD4.out.kk HZ.out (fun _ h => h))⟩
          have q10 : w4.cell? ⟨M, 10, none⟩ = some (.slice none 0 0) := (bc M 10 hM1).trans P.out.2.2.2.1
          have E4 : Aside0 ((w4.setCell ⟨M, 10, none⟩ (.slice A4 (zof z.recs z.name 6).length k4)).cell? ⟨M, 10, none⟩ = some (.slice A4 (zof z.recs z.name 6).length k4) ∧ (∀ o, o ≠ 10 → (w4.setCell ⟨M, 10, none⟩ (.slice A4 (zof z.recs z.name 6).length k4)).cell? ⟨M, o, none⟩ = wr.cell? ⟨M, o, none⟩) ∧ ∀ o, (w4.setCell ⟨M, 10, none⟩ (.slice A4 (zof z.recs z.name 6).length k4)).frozen? ⟨M, o, none⟩ = wr.frozen? ⟨M, o, none⟩) :=
            ⟨World.cell?_setCell_same w4 _ _ q10, fun o ho => (World.cell?_setCell_other _ _ _ _ (addr_ne (Ne.symm ho))).trans (bc M o hM1), fun o => by rw [World.frozen?_setCell]; exact bf M o hM1⟩
          have hsz4 : M < (w4.setCell ⟨M, 10, none⟩ (.slice A4 (zof z.recs z.name 6).length k4)).heap.size := by simpa using hl4
          generalize hW5 : w4.setCell ⟨M, 10, none⟩ (.slice A4 (zof z.recs z.name 6).length k4) = W5 at HD4 HR4' HA4 HN4 HZ4 E4 hsz4
          clear hW5 bc bf q10
          cases ht : z.recs.any fun r => nUnder r.name n with
          | true =>
            refine (zthere_calls z _ _ n true W5 HZ4.out HN4.out ht).mono ?_
            rintro e w5 ⟨rfl, hb5⟩
            have HT := Aside0.mk ht
            have HB5 := Aside0.mk hb5
            clear ht hb5
            go_wp2_with fail
            (try simp only [Exit.inBlock, Exit.then])
            refine bodyPost_ret (results_none rfl _ _ _) rfl ?_
            have X5 : ∀ o, o ≠ 10 → w5.cell? ⟨M, o, none⟩ = wr.cell? ⟨M, o, none⟩ := fun o ho => (HB5.out.cell (p := ⟨M, o, none⟩) hsz4).trans (E4.out.2.1 o ho)
            refine ⟨_, _, _, _, rfl, H.out.fil _ (Fills.none _ _ _ HCUT.out HL.out H5.out), HD4.out.next (Nat.le_refl _) HB5.out, (X5 3 (by decide)).trans P.out.2.1, ?_, (X5 9 (by decide)).trans P.out.1, (HA4.out.below pR HB5.out).mono (fun k hk => by have h0 : w.heap.size + 3 ≤ k := hk; omega),
              (HB5.out.cell (p := ⟨M, 10, none⟩) hsz4).trans E4.out.1, (HR4'.out.below pR HB5.out).mono (fun k hk => by have h0 : w3.heap.size ≤ k := hk; have := HB3.out.size; omega), (X5 11 (by decide)).trans P.out.2.2.2.2, Rd.nil _ _ _,
              fun o h3 h7 h9 h10 h11 => (X5 o h10).trans (HOr.out o h9), fun o => (HB5.out.frozen (p := ⟨M, o, none⟩) hsz4).trans ((E4.out.2.2 o).trans ((H.out.froz o).trans (HM2.out.2 o)))⟩
            rw [HT.out]
            exact (X5 7 (by decide)).trans P.out.2.2.1
          | false =>
            refine (zthere_calls z _ _ n false W5 HZ4.out HN4.out ht).mono ?_
            rintro e w5 ⟨rfl, hb5⟩
            have HT := Aside0.mk ht
            have HB5 := Aside0.mk hb5
            clear ht hb5
            have X5 : Aside0 (∀ o, o ≠ 10 → w5.cell? ⟨M, o, none⟩ = wr.cell? ⟨M, o, none⟩) := ⟨fun o ho => (HB5.out.cell (p := ⟨M, o, none⟩) hsz4).trans (E4.out.2.1 o ho)⟩
            have F5 : Aside0 (∀ o, w5.frozen? ⟨M, o, none⟩ = wr.frozen? ⟨M, o, none⟩) := ⟨fun o => (HB5.out.frozen (p := ⟨M, o, none⟩) hsz4).trans (E4.out.2.2 o)⟩
            have q7 := (X5.out 7 (by decide)).trans P.out.2.2.1
            have qf7 := (F5.out 7).trans (HFr.out 7)
            go_wp2_with fail
            (try simp only [Exit.inBlock, Exit.then])
            refine bodyPost_ret (results_none rfl _ _ _) rfl ?_
            refine ⟨_, _, _, _, rfl, H.out.fil _ (Fills.none _ _ _ HCUT.out HL.out H5.out), (HD4.out.next (Nat.le_refl _) HB5.out).set 7 _, (World.cell?_setCell_other _ _ _ _ (addr_ne (by decide))).trans ((X5.out 3 (by decide)).trans P.out.2.1), ?_, (World.cell?_setCell_other _ _ _ _ (addr_ne (by decide))).trans ((X5.out 9 (by decide)).trans P.out.1), (rd_set (M := M) pR (HA4.out.below pR HB5.out) (fun k hk => by have h0 : w.heap.size + 3 ≤ k := hk; omega) 7 _).mono (fun k hk => by have h0 : w.heap.size + 3 ≤ k := hk; omega),
              (World.cell?_setCell_other _ _ _ _ (addr_ne (by decide))).trans ((HB5.out.cell (p := ⟨M, 10, none⟩) hsz4).trans E4.out.1), (rd_set (M := M) pR (HR4'.out.below pR HB5.out) (fun k hk => by have h0 : w3.heap.size ≤ k := hk; omega) 7 _).mono (fun k hk => by have h0 : w3.heap.size ≤ k := hk; have := HB3.out.size; omega), (World.cell?_setCell_other _ _ _ _ (addr_ne (by decide))).trans ((X5.out 11 (by decide)).trans P.out.2.2.2.2), Rd.nil _ _ _,
              fun o h3 h7 h9 h10 h11 => (World.cell?_setCell_other _ _ _ _ (addr_ne (Ne.symm h7))).trans ((X5.out o h10).trans (HOr.out o h9)), fun o => by rw [World.frozen?_setCell]; exact (F5.out o).trans ((H.out.froz o).trans (HM2.out.2 o))⟩
            rw [HT.out]
            exact World.cell?_setCell_same w5 _ _ q7
        · have h50 : 0 < (zof z.recs n 5).length := by omega
          have h5i : (0 : Int) < ((zof z.recs n 5).length : Int) := by omega
          obtain ⟨ad, vv, e4v, e5v, e6v, e7v, e8v, rfl, hK, e0, e1, e2, e3, e4, e5, e6, e7, e8⟩ := cell_r hrow3 0 h50
          have HR0 : Aside0 ((zof z.recs n 5)[0]? = some (zof z.recs n 5)[0]) := ⟨List.getElem?_eq_getElem h50⟩
          generalize (zof z.recs n 5)[0] = r at hK e1 e2 e3 HR0
          obtain ⟨A0, k0, A4, k4, A5, k5, A6, k6, A7, k7, A8, k8, rfl, rfl, rfl, rfl, rfl, rfl⟩ := kR_form hK
          have HK := Aside0.mk hK
          have hga : ad.add (0 * 9) = ad := by simp [Addr.add]
          rw [hga] at e0 e1 e2 e3 e4 e5 e6 e7 e8
          have E0 := Aside0.mk e5
          have HADL : Aside0 (ad.block < w3.heap.size) := ⟨World.block_lt_of_cell? w3 ⟨ad.block, ad.off + 5, none⟩ e5⟩
          have had : w2.heap.size ≤ ad.block := by
            obtain ⟨ad', cs', he, hb, _⟩ := hrow3.at_ 0 h50
            injection he with he
            rw [he]; exact hb
          have q9 : w3.cell? ⟨M, 9, none⟩ = some (.slice Ax ans.length kx) := (bc M 9 hM1).trans P.out.1
          have r9 : w3.frozen? ⟨M, 9, none⟩ = false := (bf M 9 hM1).trans (HFr.out 9)
          have Q9 := Aside0.mk (And.intro q9 r9)
          have hsz23 : w2.heap.size ≤ w3.heap.size := HS23.out
          have hsz12 : w1.heap.size ≤ w2.heap.size := HB2'.out.size
          have hKr : kR.K w3.drew (fun k => ((w.heap.size + 3 ≤ k ∧ k ≠ w.heap.size + 2) ∧ some k ≠ (Value.slice As (been ++ [n]).length ks).ownBlock) ∧ some k ≠ (Value.slice Ax ans.length kx).ownBlock) r [.slice A0 r.name.length k0, .int .i64 r.typ, .int .i64 r.cls, .int .i64 r.ttl, .slice A4 r.data.bytes.length k4, .slice A5 r.data.host.length k5, .slice A6 r.data.mail.length k6, .slice A7 r.data.nums.length k7, .slice A8 r.data.texts.length k8] :=
            kR.mono (fun k hk => ⟨⟨⟨by have h0 : w2.heap.size ≤ k := hk; have := HB2.out.size; omega, by have h0 : w2.heap.size ≤ k := hk; have := HB2.out.size; omega⟩, hsv1 k (by have h0 : w2.heap.size ≤ k := hk; omega)⟩, hva1 k (by have h0 : w2.heap.size ≤ k := hk; omega)⟩) (K_below hK (Below.refl _ _).drew)
          have OWB : Aside0 (kR.Own 44 (w3.drew.alloc (.cells #[.slice A0 r.name.length k0, .int .i64 r.typ, .int .i64 r.cls, .int .i64 r.ttl, .slice A4 r.data.bytes.length k4, .slice A5 r.data.host.length k5, .slice A6 r.data.mail.length k6, .slice A7 r.data.nums.length k7, .slice A8 r.data.texts.length k8] 44)) (w.heap.size + 3) (fun k => (w.heap.size + 3 ≤ k ∧ k ≠ w.heap.size + 2) ∧ some k ≠ (Value.slice As (been ++ [n]).length ks).ownBlock) (.slice Ax ans.length kx) ans) := ⟨((H.out.oa.below HB3.out).below (Below.refl _ _).drew).below (below_alloc (Below.refl _ _) _)⟩
          have HRB : Aside0 (kR.Rd (w3.drew.alloc (.cells #[.slice A0 r.name.length k0, .int .i64 r.typ, .int .i64 r.cls, .int .i64 r.ttl, .slice A4 r.data.bytes.length k4, .slice A5 r.data.host.length k5, .slice A6 r.data.mail.length k6, .slice A7 r.data.nums.length k7, .slice A8 r.data.texts.length k8] 44)) (fun k => ((w.heap.size + 3 ≤ k ∧ k ≠ w.heap.size + 2) ∧ some k ≠ (Value.slice As (been ++ [n]).length ks).ownBlock) ∧ some k ≠ (Value.slice Ax ans.length kx).ownBlock) (.slice (some ⟨w3.heap.size, 0, none⟩) 1 1) [r]) :=
            ⟨rd_box hKr (by decide) (fun k hk => ⟨⟨⟨by have h0 : w3.heap.size ≤ k := hk; have := HB2.out.size; omega, by have h0 : w3.heap.size ≤ k := hk; have := HB2.out.size; omega⟩, hsv1 k (by have h0 : w3.heap.size ≤ k := hk; omega)⟩, hva1 k (by have h0 : w3.heap.size ≤ k := hk; omega)⟩)⟩
          have HRO : Aside0 ((ans.length + [r].length) * kR.bytes ≤ B47) := ⟨HROOM.out 1 (by omega)⟩
          have hbs : w.heap.size + 3 ≤ (w3.drew.alloc (.cells #[.slice A0 r.name.length k0, .int .i64 r.typ, .int .i64 r.cls, .int .i64 r.ttl, .slice A4 r.data.bytes.length k4, .slice A5 r.data.host.length k5, .slice A6 r.data.mail.length k6, .slice A7 r.data.nums.length k7, .slice A8 r.data.texts.length k8] 44)).heap.size := by rw [World.size_alloc]; show w.heap.size + 3 ≤ w3.heap.size + 1; have := HB2.out.size; omega
          have HLT8 : ∀ b, b < w3.heap.size → b < (w3.drew.alloc (.cells #[.slice A0 r.name.length k0, .int .i64 r.typ, .int .i64 r.cls, .int .i64 r.ttl, .slice A4 r.data.bytes.length k4, .slice A5 r.data.host.length k5, .slice A6 r.data.mail.length k6, .slice A7 r.data.nums.length k7, .slice A8 r.data.texts.length k8] 44)).heap.size := fun b hb => by rw [World.size_alloc]; exact Nat.lt_succ_of_lt hb
          have hl7 : M < (w3.drew.alloc (.cells #[.slice A0 r.name.length k0, .int .i64 r.typ, .int .i64 r.cls, .int .i64 r.ttl, .slice A4 r.data.bytes.length k4, .slice A5 r.data.host.length k5, .slice A6 r.data.mail.length k6, .slice A7 r.data.nums.length k7, .slice A8 r.data.texts.length k8] 44)).heap.size := by rw [World.size_alloc]; exact Nat.lt_succ_of_lt hl3
          have hne3 : ¬ (M = w3.heap.size) := Nat.ne_of_lt hl3
          clear hK bc bf hrow3 hKr
          go_wp2_with fail
          go_region_law (first
            | (refine step_append_own kR (w.heap.size + 3) ?_ (.tmp 68) (.tmp 72) 23 44 (.agg #[.slice none 0 0, .int .i64 0, .int .i64 0, .int .i64 0, .slice none 0 0, .slice none 0 0, .slice none 0 0, .slice none 0 0, .slice none 0 0]) ?_ ?_ ?_ ?_ ?_ ?_ (.slice Ax ans.length kx) (.slice (some ⟨w3.heap.size, 0, none⟩) 1 1) ans [r] (fun k => (w.heap.size + 3 ≤ k ∧ k ≠ w.heap.size + 2) ∧ some k ≠ (Value.slice As (been ++ [n]).length ks).ownBlock) ?_ ?_ ?_ ?_ ?_ ?_ ?_; rfl; rfl; exact Try.underlying23; exact infoR0; rfl; decide; decide; rfl; rfl; exact OWB.out; exact HRB.out; exact hbs; exact HRO.out; intro v4 w4 ho4 hg4 ha4; obtain ⟨A4', k4', rfl, _⟩ := ho4.slice_; have q49 := (hg4.cell_far ⟨M, 9, none⟩ hl7 hMva).trans ((cellA (w := w3.drew) hl3).trans Q9.out.1); have r49 := (hg4.frozen_far ⟨M, 9, none⟩ hl7 hMva).trans ((frozenA (w := w3.drew) hl3).trans Q9.out.2)))
          all_goals have hl4 : M < w4.heap.size := Nat.lt_of_lt_of_le hl7 hg4.size
          all_goals have H4 : Bar (w.heap.size + 3) (fun k => k = M ∨ k = w.heap.size + 2) W2 w4 := ((H.out.bar.next (by omega) HB3.out).next (by omega) ((Below.refl _ _).drew)).next (by omega) (below_alloc (Below.refl _ _) _) |>.grown hg4 (by omega) (fun k hk => (H.out.oa.lt k hk).1)
          all_goals have HO4 : Aside0 (∀ o, w4.cell? ⟨M, o, none⟩ = wr.cell? ⟨M, o, none⟩) := ⟨fun o => (hg4.cell_far ⟨M, o, none⟩ hl7 hMva).trans ((cellA (w := w3.drew) hl3).trans (HB3.out.cell (p := ⟨M, o, none⟩) hM1))⟩
          all_goals have HF4 : Aside0 (∀ o, w4.frozen? ⟨M, o, none⟩ = wr.frozen? ⟨M, o, none⟩) := ⟨fun o => (hg4.frozen_far ⟨M, o, none⟩ hl7 hMva).trans ((frozenA (w := w3.drew) hl3).trans (HB3.out.frozen (p := ⟨M, o, none⟩) hM1))⟩
          all_goals have hNva : some (w.heap.size + 2) ≠ (Value.slice Ax ans.length kx).ownBlock := (fun he => by have h1 := (H.out.oa.lt _ he.symm).1; omega)
          all_goals have hl3N : w.heap.size + 2 < w3.drew.heap.size := Nat.lt_of_lt_of_le hN1 HB3.out.size
          all_goals have HN4 : Aside0 (w4.cell? ⟨w.heap.size + 2, 0, none⟩ = some (.slice Av n.length cv) ∧ w4.frozen? ⟨w.heap.size + 2, 0, none⟩ = false) := ⟨(hg4.cell_far ⟨w.heap.size + 2, 0, none⟩ (HLT8 _ hl3N) hNva).trans ((cellA hl3N).trans ((HB3.out.cell (p := ⟨w.heap.size + 2, 0, none⟩) hN1).trans PN.out.1)), (hg4.frozen_far ⟨w.heap.size + 2, 0, none⟩ (HLT8 _ hl3N) hNva).trans ((frozenA hl3N).trans ((HB3.out.frozen (p := ⟨w.heap.size + 2, 0, none⟩) hN1).trans PN.out.2))⟩
          all_goals have hadl : ad.block < w3.drew.heap.size := HADL.out
          all_goals have hE4 : w4.cell? ⟨ad.block, ad.off + 5, none⟩ = some (.slice A5 r.data.host.length k5) := (hg4.cell_far ⟨ad.block, ad.off + 5, none⟩ (HLT8 _ hadl) (hva1 ad.block (by omega))).trans ((cellA hadl).trans E0.out)
          all_goals have hadM : ¬ (ad.block = M) := (by have := HB2.out.size; omega)
          all_goals have hadM' : ¬ (M = ad.block) := fun h => hadM h.symm
          all_goals have hadN : ¬ (ad.block = w.heap.size + 2) := (by have := HB2.out.size; omega)
          all_goals have y04 := (H4.cell (b := w.heap.size) (o := 0) (by omega) (by omega)).trans HY.out.1
          all_goals have hlen4 : (ans ++ [r]).length = ans.length + 1 := by simp
          all_goals have pn4 := HN4.out.1
          all_goals have pf4 := HN4.out.2
          all_goals go_wp2_with fail
          all_goals have hho : kS.Rd w3 (fun k => w2.heap.size ≤ k) (.slice A5 r.data.host.length k5) r.data.host := kR_host HK.out
          all_goals have HH3 : kS.Rd (w3.drew.alloc (.cells #[.slice A0 r.name.length k0, .int .i64 r.typ, .int .i64 r.cls, .int .i64 r.ttl, .slice A4 r.data.bytes.length k4, .slice A5 r.data.host.length k5, .slice A6 r.data.mail.length k6, .slice A7 r.data.nums.length k7, .slice A8 r.data.texts.length k8] 44)) (fun k => (k ≠ M ∧ k ≠ w.heap.size + 2 ∧ some k ≠ (Value.slice As (been ++ [n]).length ks).ownBlock) ∧ some k ≠ (Value.slice Ax ans.length kx).ownBlock) (.slice A5 r.data.host.length k5) r.data.host :=
            ((hho.below pS (Below.refl _ _).drew).below pS (below_alloc (Below.refl _ _) _)).mono (fun k hk => ⟨⟨by have := HB2.out.size; omega, by have := HB2.out.size; omega, hsv1 k (by omega)⟩, hva1 k (by omega)⟩)
          all_goals have HH4 := rd_other pS HH3 hg4 ha4
          all_goals have HS4 := own_other (((H.out.os.below HB3.out).below (Below.refl _ _).drew).below (below_alloc (Below.refl _ _) (.cells #[.slice A0 r.name.length k0, .int .i64 r.typ, .int .i64 r.cls, .int .i64 r.ttl, .slice A4 r.data.bytes.length k4, .slice A5 r.data.host.length k5, .slice A6 r.data.mail.length k6, .slice A7 r.data.nums.length k7, .slice A8 r.data.texts.length k8] 44))) hg4 ha4 H.out.dis
          all_goals rw [hlen4] at ho4 HH4 HS4
          all_goals have hBM : M < w.heap.size + 3 := (by omega)
          all_goals have hBN : w.heap.size + 2 < w.heap.size + 3 := (by omega)
          all_goals have OA6 := Aside0.mk (own_set (own_set ho4 (M := M) (fun k hk => by have h0 := hk.1.1; omega) hBM 9 (.slice A4' (ans.length + 1) k4')) (M := w.heap.size + 2) (fun k hk => hk.1.2) hBN 0 (.slice A5 r.data.host.length k5))
          all_goals have OS6 := Aside0.mk (own_set (own_set HS4.1 (M := M) (fun k hk => hk.1.1) hBM 9 (.slice A4' (ans.length + 1) k4')) (M := w.heap.size + 2) (fun k hk => hk.1.2) hBN 0 (.slice A5 r.data.host.length k5))
          all_goals have DIS6 := Aside0.mk HS4.2
          all_goals have HH6 := Aside0.mk (rd_set pS (rd_set pS HH4 (M := M) (fun k hk => hk.1.1) 9 (.slice A4' (ans.length + 1) k4')) (M := w.heap.size + 2) (fun k hk => hk.1.2.1) 0 (.slice A5 r.data.host.length k5))
          all_goals have H6 := Aside0.mk ((H4.set (a := ⟨M, 9, none⟩) (Or.inl (Or.inl rfl)) (.slice A4' (ans.length + 1) k4')).set (a := ⟨w.heap.size + 2, 0, none⟩) (Or.inl (Or.inr rfl)) (.slice A5 r.data.host.length k5))
          all_goals have C6 : Aside0 (∀ o, o ≠ 9 → ((w4.setCell ⟨M, 9, none⟩ (.slice A4' (ans.length + 1) k4')).setCell ⟨w.heap.size + 2, 0, none⟩ (.slice A5 r.data.host.length k5)).cell? ⟨M, o, none⟩ = wr.cell? ⟨M, o, none⟩) := ⟨fun o ho => (World.cell?_setCell_other _ _ _ _ (addr_neb hNM)).trans ((World.cell?_setCell_other _ _ _ _ (addr_ne (Ne.symm ho))).trans (HO4.out o))⟩
          all_goals have D6 : Aside0 (((w4.setCell ⟨M, 9, none⟩ (.slice A4' (ans.length + 1) k4')).setCell ⟨w.heap.size + 2, 0, none⟩ (.slice A5 r.data.host.length k5)).cell? ⟨M, 9, none⟩ = some (.slice A4' (ans.length + 1) k4')) := ⟨(World.cell?_setCell_other _ _ _ _ (addr_neb hNM)).trans (World.cell?_setCell_same w4 _ _ q49)⟩
          all_goals have F6 : Aside0 (∀ o, ((w4.setCell ⟨M, 9, none⟩ (.slice A4' (ans.length + 1) k4')).setCell ⟨w.heap.size + 2, 0, none⟩ (.slice A5 r.data.host.length k5)).frozen? ⟨M, o, none⟩ = wr.frozen? ⟨M, o, none⟩) := ⟨fun o => by rw [World.frozen?_setCell, World.frozen?_setCell]; exact HF4.out o⟩
          all_goals have N6 : Aside0 (((w4.setCell ⟨M, 9, none⟩ (.slice A4' (ans.length + 1) k4')).setCell ⟨w.heap.size + 2, 0, none⟩ (.slice A5 r.data.host.length k5)).cell? ⟨w.heap.size + 2, 0, none⟩ = some (.slice A5 r.data.host.length k5) ∧ ((w4.setCell ⟨M, 9, none⟩ (.slice A4' (ans.length + 1) k4')).setCell ⟨w.heap.size + 2, 0, none⟩ (.slice A5 r.data.host.length k5)).frozen? ⟨w.heap.size + 2, 0, none⟩ = false) :=
            ⟨World.cell?_setCell_same _ _ _ ((World.cell?_setCell_other _ _ _ _ (addr_neb hMN)).trans HN4.out.1), by rw [World.frozen?_setCell, World.frozen?_setCell]; exact HN4.out.2⟩
          all_goals generalize hW6 : (w4.setCell ⟨M, 9, none⟩ (.slice A4' (ans.length + 1) k4')).setCell ⟨w.heap.size + 1 + 1, 0, none⟩ (.slice A5 r.data.host.length k5) = W6
          all_goals have hs6 : w4.heap.size ≤ W6.heap.size := (by rw [← hW6]; simp)
          all_goals rw [show (w4.setCell ⟨M, 9, none⟩ (.slice A4' (ans.length + 1) k4')).setCell ⟨w.heap.size + 2, 0, none⟩ (.slice A5 r.data.host.length k5) = W6 from hW6] at OA6 OS6 HH6 H6 C6 D6 F6 N6
          all_goals have hlen : (been ++ [n]).length = been.length + 1 := by simp
          all_goals rw [hlen] at OA6 OS6 HH6 DIS6
          all_goals have BW6 : Aside0 (But w.heap.size M w W6) := ⟨(But.of BX.out).trans ((H6.out.mono (by omega)).toBut (fun k hk hp => hp.elim id (fun h => by omega)))⟩
          all_goals have HZN6 : Aside0 (kS.Rd W6 (fun _ => True) (.slice An z.name.length cn) z.name) := ⟨(BW6.out.rd pS HZN.out (fun _ h => h)).any⟩
          all_goals have hl6 : M < W6.heap.size := (by omega)
          all_goals have hN6 : w.heap.size + 2 < W6.heap.size := (by have h1 := H6.out.size; omega)
          all_goals clear hW6 y04 hE4 pn4 pf4 HH3 HH4 HS4 ho4 hg4 ha4 hho H4 q49 r49 y0 y1 y2 e0 e1 e2 e3 e4 e5 e6 e7 e8 c3 c7 c10 c11
          all_goals
            (cases hu : nUnder r.data.host z.name with
             | false =>
               have HU := Aside0.mk hu
               clear hu
               refine (bv (under_calls _ _ r.data.host z.name W6 HH6.out.any HZN6.out) HU.out).mono ?_
               rintro e w7 ⟨rfl, hb7⟩
               have H7 := Aside0.mk hb7
               clear hb7
               go_wp2_with fail
               have X7 : ∀ o, o ≠ 9 → w7.cell? ⟨M, o, none⟩ = wr.cell? ⟨M, o, none⟩ := fun o ho => (H7.out.cell (p := ⟨M, o, none⟩) hl6).trans (C6.out o ho)
               (try simp only [Exit.inBlock, Exit.then])
               refine bodyPost_ret (results_none rfl _ _ _) rfl ?_
               exact ⟨_, _, _, _, rfl, H.out.fil _ (Fills.out _ _ _ r HCUT.out HL.out HR0.out (by rw [HU.out]; first | rfl | (rw [HIN.out]; rfl))), BW6.out.next (Nat.le_refl _) H7.out, (X7 3 (by decide)).trans P.out.2.1, (X7 7 (by decide)).trans P.out.2.2.1,
                 (H7.out.cell (p := ⟨M, 9, none⟩) hl6).trans D6.out, (OA6.out.rd (ok' := fun k => w.heap.size ≤ k) (fun k h => by have := h.1.1; omega) (fun k h => by omega)).below pR H7.out, (X7 10 (by decide)).trans P.out.2.2.2.1, Rd.nil _ _ _, (X7 11 (by decide)).trans P.out.2.2.2.2, Rd.nil _ _ _,
                 fun o h3 h7 h9 h10 h11 => (X7 o h9).trans (HOr.out o h9), fun o => (H7.out.frozen (p := ⟨M, o, none⟩) hl6).trans ((F6.out o).trans ((H.out.froz o).trans (HM2.out.2 o)))⟩
             | true =>
               have HU := Aside0.mk hu
               clear hu
               refine (bv (under_calls _ _ r.data.host z.name W6 HH6.out.any HZN6.out) HU.out).mono ?_
               rintro e w7 ⟨rfl, hb7⟩
               have H7 := Aside0.mk hb7
               clear hb7
               have hN7 : w.heap.size + 2 < w7.heap.size := Nat.lt_of_lt_of_le hN6 H7.out.size
               have pn7 : w7.cell? ⟨w.heap.size + 2, 0, none⟩ = some (.slice A5 r.data.host.length k5) := (H7.out.cell (p := ⟨w.heap.size + 2, 0, none⟩) hN6).trans N6.out.1
               have HP := Aside0.mk (pays_fill1 (w.heap.size + 2) _ r.data.host w7 (been ++ [n]) (HH6.out.any.below pS H7.out) hN7 pn7)
               have HS7 : Aside0 ((kL kS pS).Rd w7 (fun _ => True) (.slice As (been.length + 1) ks) (been ++ [n])) := ⟨(OS6.out.rd (fun _ _ => trivial) (fun _ _ => trivial)).below (by decide) H7.out⟩
               go_wp2_with fail
               cases hb : (been ++ [n]).any (fun s => nEq s r.data.host) with
               | true =>
                 have HIN := Aside0.mk hb
                 clear hb
                 refine (contains_n_v true _ _ _ HS7.out _ _ _ eg HP.out HIN.out).mono ?_
                 rintro e w8 ⟨rfl, hb8⟩
                 have H8 := Aside0.mk (H7.out.trans (hb8.mono H7.out.size))
                 clear hb8
                 go_wp2_with fail
                 have X7 : ∀ o, o ≠ 9 → w8.cell? ⟨M, o, none⟩ = wr.cell? ⟨M, o, none⟩ := fun o ho => (H8.out.cell (p := ⟨M, o, none⟩) hl6).trans (C6.out o ho)
                 (try simp only [Exit.inBlock, Exit.then])
                 refine bodyPost_ret (results_none rfl _ _ _) rfl ?_
                 exact ⟨_, _, _, _, rfl, H.out.fil _ (Fills.out _ _ _ r HCUT.out HL.out HR0.out (by rw [HU.out]; first | rfl | (rw [HIN.out]; rfl))), BW6.out.next (Nat.le_refl _) H8.out, (X7 3 (by decide)).trans P.out.2.1, (X7 7 (by decide)).trans P.out.2.2.1,
                   (H8.out.cell (p := ⟨M, 9, none⟩) hl6).trans D6.out, (OA6.out.rd (ok' := fun k => w.heap.size ≤ k) (fun k h => by have := h.1.1; omega) (fun k h => by omega)).below pR H8.out, (X7 10 (by decide)).trans P.out.2.2.2.1, Rd.nil _ _ _, (X7 11 (by decide)).trans P.out.2.2.2.2, Rd.nil _ _ _,
                   fun o h3 h7 h9 h10 h11 => (X7 o h9).trans (HOr.out o h9), fun o => (H8.out.frozen (p := ⟨M, o, none⟩) hl6).trans ((F6.out o).trans ((H.out.froz o).trans (HM2.out.2 o)))⟩
               | false =>
                 have HIN := Aside0.mk hb
                 clear hb
                 refine (contains_n_v false _ _ _ HS7.out _ _ _ eg HP.out HIN.out).mono ?_
                 rintro e w8 ⟨rfl, hb8⟩
                 have H8 := Aside0.mk (H7.out.trans (hb8.mono H7.out.size))
                 clear hb8
                 have pn8 : w8.cell? ⟨w.heap.size + 2, 0, none⟩ = some (.slice A5 r.data.host.length k5) := (H8.out.cell (p := ⟨w.heap.size + 2, 0, none⟩) hN6).trans N6.out.1
                 have OS8 : Aside0 ((kL kS pS).Own 22 (w8.alloc (.cells #[(.slice A5 r.data.host.length k5)] 22)) (w.heap.size + 3) (fun k => (k ≠ M ∧ k ≠ w.heap.size + 2) ∧ some k ≠ (Value.slice A4' (ans.length + 1) k4').ownBlock) (.slice As (been.length + 1) ks) (been ++ [n])) := ⟨(OS6.out.below H8.out).below (below_alloc (Below.refl _ _) _)⟩
                 have HK8 : (kL kS pS).K w8 (fun k => ((k ≠ M ∧ k ≠ w.heap.size + 2) ∧ some k ≠ (Value.slice A4' (ans.length + 1) k4').ownBlock) ∧ some k ≠ (Value.slice As (been.length + 1) ks).ownBlock) r.data.host [(.slice A5 r.data.host.length k5)] :=
                   ⟨_, rfl, (HH6.out.below pS H8.out).mono (fun k hk => ⟨⟨⟨hk.1.1, hk.1.2.1⟩, hk.2⟩, hk.1.2.2⟩)⟩
                 have HB8 : Aside0 ((kL kS pS).Rd (w8.alloc (.cells #[(.slice A5 r.data.host.length k5)] 22)) (fun k => ((k ≠ M ∧ k ≠ w.heap.size + 2) ∧ some k ≠ (Value.slice A4' (ans.length + 1) k4').ownBlock) ∧ some k ≠ (Value.slice As (been.length + 1) ks).ownBlock) (.slice (some ⟨w8.heap.size, 0, none⟩) 1 1) [r.data.host]) :=
                   ⟨rd_box HK8 (by show 24 ≤ B47; decide) (fun k hk => ⟨⟨⟨by have := H8.out.size; omega, by have := H8.out.size; omega⟩, fun he => by have h1 := (OA6.out.lt k he.symm).2; have := H8.out.size; omega⟩, fun he => by have h1 := (OS6.out.lt k he.symm).2; have := H8.out.size; omega⟩)⟩
                 have HRO8 : Aside0 (((been ++ [n]).length + [r.data.host].length) * (kL kS pS).bytes ≤ B47) := ⟨by
                   have h1 := H.out.few
                   have h2 := HSM.out
                   have h3 : ((been ++ [n]).length + [r.data.host].length) * (kL kS pS).bytes ≤ 1000 * 24 := Nat.mul_le_mul_right 24 (by simp only [List.length_singleton]; omega)
                   exact Nat.le_trans h3 (by decide)⟩
                 have hl8 : M < w8.heap.size := Nat.lt_of_lt_of_le hl6 H8.out.size
                 have hN8 : w.heap.size + 2 < w8.heap.size := Nat.lt_of_lt_of_le hN6 H8.out.size
                 have hbs8 : w.heap.size + 3 ≤ (w8.alloc (.cells #[(.slice A5 r.data.host.length k5)] 22)).heap.size := by rw [World.size_alloc]; omega
                 have HLT9 : ∀ b, b < w8.heap.size → b < (w8.alloc (.cells #[(.slice A5 r.data.host.length k5)] 22)).heap.size := fun b hb => by rw [World.size_alloc]; exact Nat.lt_succ_of_lt hb
                 have hMsv : some M ≠ (Value.slice As (been.length + 1) ks).ownBlock := fun he => by have h1 := (OS6.out.lt M he.symm).1; omega
                 have hNsv : some (w.heap.size + 2) ≠ (Value.slice As (been.length + 1) ks).ownBlock := fun he => by have h1 := (OS6.out.lt _ he.symm).1; omega
                 go_wp2_with (at_builtin; refine Own.append_row (kL kS pS) (w0 := w8.alloc (.cells #[(.slice A5 r.data.host.length k5)] 22)) (w.heap.size + 3) rfl (.tmp 91) (.tmp 93) 84 22 (.slice none 0 0) rfl Try.underlying84 infoL0 rfl (by decide) (by decide) _ _ _ _ _ rfl rfl OS8.out HB8.out (Below.refl _ _) hbs8 HRO8.out ?_; intro v9 w9 ho9 hb9 hg9 ha9; obtain ⟨A9, k9, rfl, _⟩ := ho9.slice_)
                 have LL := left_lt z.recs been n r HR0.out H.out.new
                 have hlen9 : (been ++ [n] ++ [r.data.host]).length = been.length + 1 + 1 := by simp
                 rw [hlen9] at ho9 ha9
                 have HH9 := rd_other pS (((HH6.out.below pS H8.out).below pS (below_alloc (Below.refl _ _) (.cells #[(.slice A5 r.data.host.length k5)] 22))).mono (fun k hk => (⟨⟨⟨hk.1.1, hk.1.2.1⟩, hk.2⟩, hk.1.2.2⟩ : ((k ≠ M ∧ k ≠ w.heap.size + 2) ∧ some k ≠ (Value.slice A4' (ans.length + 1) k4').ownBlock) ∧ some k ≠ (Value.slice As (been.length + 1) ks).ownBlock))) hg9 ha9
                 have OA9 := own_other ((OA6.out.below H8.out).below (below_alloc (Below.refl _ _) (.cells #[(.slice A5 r.data.host.length k5)] 22))) hg9 ha9 (fun k hk he => DIS6.out k he hk)
                 go_roundg (left z.recs (been ++ [n]))
                 case measure => have := H.out.less; omega
                 case rel =>
                   refine ⟨been ++ [n], r.data.host, ans ++ [r], (.slice A4' (ans.length + 1) k4'), (.slice A5 r.data.host.length k5), ⟨{ few := ?_, less := Nat.le_refl _, new := HIN.out, cnt := ?_, bar := ((H6.out.next (by omega) H8.out).next (by omega) (below_alloc (Below.refl _ _) _)).grown hg9 (by omega) (fun k hk => (OS6.out.lt k hk).1), out := ?_, froz := ?_, nrd := HH9.mono (fun k hk => ⟨⟨hk.1.1.1, hk.1.1.2, hk.2⟩, hk.1.2⟩), oa := OA9.1, os := ho9, dis := fun k hk he => OA9.2 k he hk, fil := fun o ho => H.out.fil o (Fills.go _ _ _ r o HCUT.out HL.out HR0.out (by rw [HU.out, HIN.out]; rfl) ho) }⟩, ?_, ?_, ?_⟩
                   · have := H.out.few
                     rw [hlen9]; rw [hlen] at this; omega
                   · have := H.out.cnt
                     simp; exact this
                   · exact fun o ho => (hg9.cell_far ⟨M, o, none⟩ (HLT9 _ hl8) hMsv).trans ((cellA hl8).trans ((H8.out.cell (p := ⟨M, o, none⟩) hl6).trans ((C6.out o ho).trans (H.out.out o ho))))
                   · exact fun o => (hg9.frozen_far ⟨M, o, none⟩ (HLT9 _ hl8) hMsv).trans ((frozenA hl8).trans ((H8.out.frozen (p := ⟨M, o, none⟩) hl6).trans ((F6.out o).trans (H.out.froz o))))
                   · exact (hg9.cell_far ⟨M, 9, none⟩ (HLT9 _ hl8) hMsv).trans ((cellA hl8).trans ((H8.out.cell (p := ⟨M, 9, none⟩) hl6).trans D6.out))
                   · exact (hg9.cell_far ⟨w.heap.size + 2, 0, none⟩ (HLT9 _ hN8) hNsv).trans ((cellA hN8).trans pn8)
                   · exact (hg9.frozen_far ⟨w.heap.size + 2, 0, none⟩ (HLT9 _ hN8) hNsv).trans ((frozenA hN8).trans ((H8.out.frozen (p := ⟨w.heap.size + 2, 0, none⟩) hN6).trans N6.out.2)))
end Go.Proofs.Ytkbjbkmaokebgaa.Gz

import Derived.Test.YtkbjbkmaokebgaaZans
import Derived.Test.YtkbjbkmaokebgaaOwnR
set_option linter.unusedVariables false
set_option linter.unusedSimpArgs false
namespace Go.Proofs.Ytkbjbkmaokebgaa.Gz
open Go.RowKit Go.Proofs.YtkbjbkmaokebgaaW.PrintWords
open Ki
def ZBuilt (z : Zone) (n : Nat) (a : Act) (W : World) : Prop := ∃ u0 u1, a.tmps[10]? = some (.agg #[u0, u1]) ∧ kS.Own 9 W n (fun _ => True) u0 z.name ∧ kR.Own 44 W n (fun k => n ≤ k) u1 z.recs
theorem ZBuilt.other {z : Zone} {n : Nat} {a : Act} {W W1 : World} (h : ZBuilt z n a W) {t : Nat} {u : Value} (ht : t ≠ 10) (hb : Below W.heap.size W W1) : ZBuilt z n (a.put (some t) u) W1 := by
  obtain ⟨u0, u1, e, o0, o1⟩ := h
  exact ⟨u0, u1, (put_other ht).trans e, o0.below hb, o1.below hb⟩
/-- How it stands in own's region. -/
structure ZOwnAt (z : Zone) (n x y : Nat) (v0 v1 : Value) (ds : List Deferred) (W0 : World) (f : Nat → Bool) (a : Act) (W : World) : Prop where
  size : a.tmps.size = 11
  dfr : a.defers = ds
  t1 : a.tmps[1]? = some (.pointer (some ⟨x, 0, none⟩))
  t2 : a.tmps[2]? = some (.pointer (some ⟨y, 0, none⟩))
  bel : Below n W0 W
  w0 : Way kS (fun _ => True) 9 n x 0 v0 z.name 0 1 2 3 3 4 5 6 f a W
  w1 : Way kR (fun k => n ≤ k) 44 n x 1 v1 z.recs 100 4 5 6 100 7 8 9 f a W
  bd : f 7 = true → ZBuilt z n a W
structure ZOwnEnd (z : Zone) (m y : Nat) (ds : List Deferred) (w : World) (a : Act) (W : World) : Prop where
  dfr : a.defers = ds
  t2 : a.tmps[2]? = some (.pointer (some ⟨y, 0, none⟩))
  bel : Below m w W
  res : ∃ u0 u1, kZ.K W (fun k => m ≤ k) z [u0, u1] ∧ W.cell? ⟨y, 0, none⟩ = some u0 ∧ W.cell? ⟨y, 1, none⟩ = some u1
def ZOwnI (z : Zone) (n x y : Nat) (v0 v1 : Value) (W0 w : World) (f : Nat → Bool) (a : Act) (W : World) : Prop :=
  (f 8 = false → ZOwnAt z n x y v0 v1 [] W0 f a W) ∧ (f 8 = true → ZOwnEnd z x y [] w a W)
theorem off2 (n : Nat) (w1 : World) (v0 v1 : Value) : Off n w1 ((w1.setCell ⟨n, 0, none⟩ v0).setCell ⟨n, 1, none⟩ v1) := Off.set (p := ⟨n, 1, none⟩) (Off.set (p := ⟨n, 0, none⟩) (Off.refl n w1) rfl v0) rfl v1
theorem own_base {α : Type} {d : Ki α} {e b b' : Nat} {w : World} {ok : Nat → Prop} {v : Value} {xs : List α} (h : d.Own e w b ok v xs) (hb : b' ≤ b) : d.Own e w b' ok v xs := by
  obtain ⟨inner, h1, h2, h3⟩ := h
  exact ⟨inner, own_weaken h1 hb, h2, h3⟩
set_option maxHeartbeats 4000000 in
set_option maxRecDepth 100000 in
theorem lawown_calls (z : Zone) (cs : List Value) (w : World) (h : kZ.K w (fun _ => True) z cs) :
    Calls Try.prog 16 #[.agg cs.toArray] w (GivesK kZ w z) := by
  obtain ⟨vn, vr, rfl, hn, hr⟩ := h
  generalize hW0 : (w.alloc (.cells #[vn, vr] 25)).alloc (.cells #[.slice none 0 0, .slice none 0 0] 25) = W0
  have hx : Below w.heap.size w W0 := by rw [← hW0]; exact below_alloc (below_alloc (Below.refl _ _) _) _
  have HW0 := Aside0.mk hW0
  have BX := Aside0.mk hx
  have s3 : W0.heap.size = w.heap.size + 2 := by rw [← hW0]; simp
  have x0 : W0.cell? ⟨w.heap.size, 0, none⟩ = some vn := by rw [← hW0]; simp
  have x1 : W0.cell? ⟨w.heap.size, 1, none⟩ = some vr := by rw [← hW0]; simp
  have y0 : W0.cell? ⟨w.heap.size + 1, 0, none⟩ = some (.slice none 0 0) := by rw [← hW0]; simp
  have y1 : W0.cell? ⟨w.heap.size + 1, 1, none⟩ = some (.slice none 0 0) := by rw [← hW0]; simp
  have z : ∀ o, W0.frozen? ⟨w.heap.size + 1, o, none⟩ = false := fun o => by rw [← hW0]; simp
  clear hW0
  have R0 := Aside0.mk (fun W (hB : Below W0.heap.size W0 W) => hn.below pS (hx.trans (hB.mono hx.size)))
  have R1 := Aside0.mk (fun W (hB : Below W0.heap.size W0 W) => hr.below pR (hx.trans (hB.mono hx.size)))
  obtain ⟨An, cn, rfl, _, _⟩ := hn
  obtain ⟨Ar, cr, rfl, _, _⟩ := hr
  have X := Aside0.mk (And.intro x0 x1)
  have Y := Aside0.mk (And.intro y0 (And.intro y1 z))
  have S3 := Aside0.mk s3
  clear x0 x1 y0 y1 z s3 hx
  go_enter Try.func16, Try.ntmps16
  go_wp2
  rw [HW0.out]
  refine wp_region_inv (by kernel_rfl) (ZOwnI z W0.heap.size w.heap.size (w.heap.size + 1) (.slice An z.name.length cn) (.slice Ar z.recs.length cr) W0 w) (by kernel_rfl) ?_ ?_ ?_
  · refine ⟨fun _ => ?_, fun h => by cases h⟩
    exact { size := rfl, dfr := rfl, t1 := rfl, t2 := rfl, bel := (Below.refl _ _).drew, bd := (fun h => by cases h), w0 := ⟨(fun h => by cases h), (fun h => by cases h), (fun h => by cases h), (fun h => by cases h)⟩, w1 := ⟨(fun h => by cases h), (fun h => by cases h), (fun h => by cases h), (fun h => by cases h)⟩ }
  · intro f a W i o ho hf he hsh hI
    have hi : i < 9 := (Array.getElem?_eq_some_iff.1 ho).1
    cases h8 : f 8 with
    | true =>
      exfalso
      have q0 : f 0 = true := hsh 8 _ rfl h8 ⟨0, .phase⟩ (by simp) rfl
      have q1 : f 1 = true := hsh 8 _ rfl h8 ⟨1, .phase⟩ (by simp) rfl
      have q2 : f 2 = true := hsh 8 _ rfl h8 ⟨2, .phase⟩ (by simp) rfl
      have q3 : f 3 = true := hsh 8 _ rfl h8 ⟨3, .phase⟩ (by simp) rfl
      have q4 : f 4 = true := hsh 8 _ rfl h8 ⟨4, .phase⟩ (by simp) rfl
      have q5 : f 5 = true := hsh 8 _ rfl h8 ⟨5, .phase⟩ (by simp) rfl
      have q6 : f 6 = true := hsh 8 _ rfl h8 ⟨6, .chain⟩ (by simp) rfl
      have q7 : f 7 = true := hsh 8 _ rfl h8 ⟨7, .data⟩ (by simp) rfl
      rcases (show i = 0 ∨ i = 1 ∨ i = 2 ∨ i = 3 ∨ i = 4 ∨ i = 5 ∨ i = 6 ∨ i = 7 ∨ i = 8 from by omega) with rfl | rfl | rfl | rfl | rfl | rfl | rfl | rfl | rfl
      · exact absurd (hf.symm.trans q0) (by decide)
      · exact absurd (hf.symm.trans q1) (by decide)
      · exact absurd (hf.symm.trans q2) (by decide)
      · exact absurd (hf.symm.trans q3) (by decide)
      · exact absurd (hf.symm.trans q4) (by decide)
      · exact absurd (hf.symm.trans q5) (by decide)
      · exact absurd (hf.symm.trans q6) (by decide)
      · exact absurd (hf.symm.trans q7) (by decide)
      · exact absurd (hf.symm.trans h8) (by decide)
    | false =>
      have H := Aside0.mk (hI.1 h8)
      clear hI hsh
      have hbs : W0.heap.size ≤ W.heap.size := H.out.bel.size
      rcases (show i = 0 ∨ i = 1 ∨ i = 2 ∨ i = 3 ∨ i = 4 ∨ i = 5 ∨ i = 6 ∨ i = 7 ∨ i = 8 from by omega) with rfl | rfl | rfl | rfl | rfl | rfl | rfl | rfl | rfl
      · obtain rfl := Option.some.inj (show some _ = some o from ho)
        refine wpOp_plain rfl rfl ?_
        unfold Oper.wp execOp
        go_simp
        show ZOwnI z _ _ _ _ _ W0 w (mark f 0) (a.put (some 3) _) _
        refine ⟨fun _ => ?_, fun h => absurd (((mark_ne (f := f) (i := 0) (j := 8) (by decide)).symm.trans h).symm.trans h8) (by decide)⟩
        exact { size := put_size.trans H.out.size, dfr := H.out.dfr, t1 := (put_other (by decide)).trans H.out.t1, t2 := (put_other (by decide)).trans H.out.t2, bel := H.out.bel.trans ((below_alloc (Below.refl W.heap.size W) _).mono hbs), w0 := H.out.w0.doB (by decide) (by decide) (by rw [H.out.size]; decide) (below_alloc (Below.refl W.heap.size W) _) (Own.lit0 kS _ W _ _ hbs), w1 := H.out.w1.other (by decide) (by decide) (below_alloc (Below.refl W.heap.size W) _), bd := fun hf => (H.out.bd ((mark_ne (f := f) (i := 0) (j := 7) (by decide)).symm.trans hf)).other (by decide) (below_alloc (Below.refl W.heap.size W) _) }
      · obtain rfl := Option.some.inj (show some _ = some o from ho)
        refine wpOp_plain rfl rfl ?_
        have r1 := H.out.t1
        unfold Oper.wp execOp
        go_simp
        show ZOwnI z _ _ _ _ _ W0 w (mark f 1) (a.put (some 4) _) _
        refine ⟨fun _ => ?_, fun h => absurd (((mark_ne (f := f) (i := 1) (j := 8) (by decide)).symm.trans h).symm.trans h8) (by decide)⟩
        exact { size := put_size.trans H.out.size, dfr := H.out.dfr, t1 := (put_other (by decide)).trans H.out.t1, t2 := (put_other (by decide)).trans H.out.t2, bel := H.out.bel.trans ((Below.refl W.heap.size W).mono hbs), w0 := H.out.w0.doA (by decide) (by decide) (by rw [H.out.size]; decide), w1 := H.out.w1.other (by decide) (by decide) (Below.refl W.heap.size W), bd := fun hf => (H.out.bd ((mark_ne (f := f) (i := 1) (j := 7) (by decide)).symm.trans hf)).other (by decide) (Below.refl W.heap.size W) }
      · obtain rfl := Option.some.inj (show some _ = some o from ho)
        refine wpOp_plain rfl rfl ?_
        have r1 := H.out.w0.fa (he ⟨1, .data⟩ (by simp) rfl)
        have c1 := (H.out.bel.cell (p := ⟨w.heap.size, 0, none⟩) (by rw [S3.out]; simp)).trans X.out.1
        unfold Oper.wp execOp
        go_simp
        show ZOwnI z _ _ _ _ _ W0 w (mark f 2) (a.put (some 5) _) _
        refine ⟨fun _ => ?_, fun h => absurd (((mark_ne (f := f) (i := 2) (j := 8) (by decide)).symm.trans h).symm.trans h8) (by decide)⟩
        exact { size := put_size.trans H.out.size, dfr := H.out.dfr, t1 := (put_other (by decide)).trans H.out.t1, t2 := (put_other (by decide)).trans H.out.t2, bel := H.out.bel.trans ((Below.refl W.heap.size W).mono hbs), w0 := H.out.w0.doL (by decide) (by decide) (by rw [H.out.size]; decide), w1 := H.out.w1.other (by decide) (by decide) (Below.refl W.heap.size W), bd := fun hf => (H.out.bd ((mark_ne (f := f) (i := 2) (j := 7) (by decide)).symm.trans hf)).other (by decide) (Below.refl W.heap.size W) }
      · obtain rfl := Option.some.inj (show some _ = some o from ho)
        refine wpOp_plain rfl rfl ?_
        obtain ⟨g, e0, o0⟩ := H.out.w0.fb (he ⟨0, .data⟩ (by simp) rfl)
        have e1 := eval_tmp e0
        have e2 := eval_tmp (H.out.w0.fl (he ⟨2, .data⟩ (by simp) rfl))
        have hr0 := R0.out W (H.out.bel)
        obtain ⟨v1, w1, hr, o1, hb1⟩ := run_append_zero (P := Try.prog) (d := kS) (ok := fun _ => True) W0.heap.size 22 22 (.string ⟨#[]⟩) Try.underlying22 info_s rfl (by decide) (by decide) (some g) _ o0 hr0 hbs hr0.room
        unfold Oper.wp
        simp [execOp, resolve, invoke, builtin, e1, e2, hr, Result.andThen]
        show ZOwnI z _ _ _ _ _ W0 w (mark f 3) (a.put (some 6) _) _
        refine ⟨fun _ => ?_, fun h => absurd (((mark_ne (f := f) (i := 3) (j := 8) (by decide)).symm.trans h).symm.trans h8) (by decide)⟩
        exact { size := put_size.trans H.out.size, dfr := H.out.dfr, t1 := (put_other (by decide)).trans H.out.t1, t2 := (put_other (by decide)).trans H.out.t2, bel := H.out.bel.trans (hb1.mono hbs), w0 := H.out.w0.doP (by decide) (by decide) (by rw [H.out.size]; decide) hb1 o1, w1 := H.out.w1.other (by decide) (by decide) hb1, bd := fun hf => (H.out.bd ((mark_ne (f := f) (i := 3) (j := 7) (by decide)).symm.trans hf)).other (by decide) hb1 }
      · obtain rfl := Option.some.inj (show some _ = some o from ho)
        refine wpOp_plain rfl rfl ?_
        have r1 := H.out.t1
        unfold Oper.wp execOp
        go_simp
        show ZOwnI z _ _ _ _ _ W0 w (mark f 4) (a.put (some 7) _) _
        refine ⟨fun _ => ?_, fun h => absurd (((mark_ne (f := f) (i := 4) (j := 8) (by decide)).symm.trans h).symm.trans h8) (by decide)⟩
        exact { size := put_size.trans H.out.size, dfr := H.out.dfr, t1 := (put_other (by decide)).trans H.out.t1, t2 := (put_other (by decide)).trans H.out.t2, bel := H.out.bel.trans ((Below.refl W.heap.size W).mono hbs), w0 := H.out.w0.other (by decide) (by decide) (Below.refl W.heap.size W), w1 := H.out.w1.doA (by decide) (by decide) (by rw [H.out.size]; decide), bd := fun hf => (H.out.bd ((mark_ne (f := f) (i := 4) (j := 7) (by decide)).symm.trans hf)).other (by decide) (Below.refl W.heap.size W) }
      · obtain rfl := Option.some.inj (show some _ = some o from ho)
        refine wpOp_plain rfl rfl ?_
        have r1 := H.out.w1.fa (he ⟨4, .data⟩ (by simp) rfl)
        have c1 := (H.out.bel.cell (p := ⟨w.heap.size, 1, none⟩) (by rw [S3.out]; simp)).trans X.out.2
        unfold Oper.wp execOp
        go_simp
        show ZOwnI z _ _ _ _ _ W0 w (mark f 5) (a.put (some 8) _) _
        refine ⟨fun _ => ?_, fun h => absurd (((mark_ne (f := f) (i := 5) (j := 8) (by decide)).symm.trans h).symm.trans h8) (by decide)⟩
        exact { size := put_size.trans H.out.size, dfr := H.out.dfr, t1 := (put_other (by decide)).trans H.out.t1, t2 := (put_other (by decide)).trans H.out.t2, bel := H.out.bel.trans ((Below.refl W.heap.size W).mono hbs), w0 := H.out.w0.other (by decide) (by decide) (Below.refl W.heap.size W), w1 := H.out.w1.doL (by decide) (by decide) (by rw [H.out.size]; decide), bd := fun hf => (H.out.bd ((mark_ne (f := f) (i := 5) (j := 7) (by decide)).symm.trans hf)).other (by decide) (Below.refl W.heap.size W) }
      · obtain rfl := Option.some.inj (show some _ = some o from ho)
        refine wpOp_plain rfl rfl ?_
        have r1 := H.out.w1.fl (he ⟨5, .data⟩ (by simp) rfl)
        have hc := ownr_calls _ z.recs W (R1.out W H.out.bel)
        unfold Oper.wp execOp
        go_simp
        refine hc.mono ?_
        rintro e w1 ⟨v1, rfl, o1, hb1⟩
        have o2 := (own_base o1 hbs).mono (ok' := fun k => W0.heap.size ≤ k) (fun k hk => Nat.le_trans hbs hk)
        show ZOwnI z _ _ _ _ _ W0 w (mark f 6) (a.put (some 9) _) _
        refine ⟨fun _ => ?_, fun h => absurd (((mark_ne (f := f) (i := 6) (j := 8) (by decide)).symm.trans h).symm.trans h8) (by decide)⟩
        exact { size := put_size.trans H.out.size, dfr := H.out.dfr, t1 := (put_other (by decide)).trans H.out.t1, t2 := (put_other (by decide)).trans H.out.t2, bel := H.out.bel.trans (hb1.mono hbs), w0 := H.out.w0.other (by decide) (by decide) hb1, w1 := H.out.w1.doP (by decide) (by decide) (by rw [H.out.size]; decide) hb1 o2, bd := fun hf => (H.out.bd ((mark_ne (f := f) (i := 6) (j := 7) (by decide)).symm.trans hf)).other (by decide) hb1 }
      · obtain rfl := Option.some.inj (show some _ = some o from ho)
        refine wpOp_plain rfl rfl ?_
        obtain ⟨u0, e0, o0⟩ := H.out.w0.fp (he ⟨3, .data⟩ (by simp) rfl)
        obtain ⟨A0, k0, rfl, _⟩ := o0.slice_
        obtain ⟨u1, e1, o1⟩ := H.out.w1.fp (he ⟨6, .data⟩ (by simp) rfl)
        obtain ⟨A1, k1, rfl, _⟩ := o1.slice_
        unfold Oper.wp execOp
        go_simp
        show ZOwnI z _ _ _ _ _ W0 w (mark f 7) (a.put (some 10) _) _
        refine ⟨fun _ => ?_, fun h => absurd (((mark_ne (f := f) (i := 7) (j := 8) (by decide)).symm.trans h).symm.trans h8) (by decide)⟩
        exact { size := put_size.trans H.out.size, dfr := H.out.dfr, t1 := (put_other (by decide)).trans H.out.t1, t2 := (put_other (by decide)).trans H.out.t2, bel := H.out.bel.trans ((Below.refl W.heap.size W).mono hbs), w0 := H.out.w0.other (by decide) (by decide) (Below.refl W.heap.size W), w1 := H.out.w1.other (by decide) (by decide) (Below.refl W.heap.size W), bd := fun _ => ⟨_, _, put_same (by rw [H.out.size]; decide), o0, o1⟩ }
      · obtain rfl := Option.some.inj (show some _ = some o from ho)
        refine wpOp_plain rfl rfl ?_
        obtain ⟨u0, u1, e5, o0, o1⟩ := H.out.bd (he ⟨7, .data⟩ (by simp) rfl)
        obtain ⟨A0, k0, rfl, _⟩ := o0.slice_
        obtain ⟨A1, k1, rfl, _⟩ := o1.slice_
        have c0 := (H.out.bel.cell (p := ⟨w.heap.size + 1, 0, none⟩) (by rw [S3.out]; simp)).trans Y.out.1
        have c1 := (H.out.bel.cell (p := ⟨w.heap.size + 1, 1, none⟩) (by rw [S3.out]; simp)).trans Y.out.2.1
        have fz0 := (H.out.bel.frozen (p := ⟨w.heap.size + 1, 0, none⟩) (by rw [S3.out]; simp)).trans (Y.out.2.2 0)
        have fz1 := (H.out.bel.frozen (p := ⟨w.heap.size + 1, 1, none⟩) (by rw [S3.out]; simp)).trans (Y.out.2.2 1)
        have e1 := H.out.t2
        have r0 := o0.rd (ok' := fun k => W0.heap.size ≤ k ∨ True) (fun _ _ => .inr trivial) (fun _ h => .inl h)
        have r0 := (strip_kS (ok' := fun _ => False) o0).rd (ok' := fun k => W0.heap.size ≤ k) (fun _ h => h.elim) (fun _ h => h)
        have r1 := o1.rd (ok' := fun k => W0.heap.size ≤ k) (fun _ h => h) (fun _ h => h)
        have BW := BX.out.trans (H.out.bel.mono BX.out.size)
        have dfr := H.out.dfr
        have hne : ∀ k, W0.heap.size ≤ k → k ≠ w.heap.size + 1 := fun k hk => by have := S3.out; omega
        have hle : ∀ k, W0.heap.size ≤ k → w.heap.size ≤ k := fun k hk => by have := S3.out; omega
        clear H he hf h8 ho hi
        unfold Oper.wp execOp
        go_simp
        show ZOwnI z _ _ _ _ _ W0 w (mark f 8) a ((W.setCell ⟨w.heap.size + 1, 0, none⟩ _).setCell ⟨w.heap.size + 1, 1, none⟩ _)
        refine ⟨fun h => absurd ((show mark f 8 8 = true from (by unfold mark; simp)).symm.trans h) (by decide), fun _ => ?_⟩
        refine { dfr := dfr, t2 := e1, bel := ?_, res := ⟨_, _, ⟨_, _, rfl, (r0.step pS ?_).mono hle, (r1.step pR ?_).mono hle⟩, ?_, ?_⟩ }
        · repeat refine Below.setCell ?_ (Nat.le_succ _) _
          exact BW
        iterate 2 · exact fun k hk _ => off2 _ _ _ _ k (hne k hk)
        all_goals go_simp
  · rename_i K hK
    intro f a W hall hI
    have hE := Aside0.mk (hI.2 (hall 8 (by decide)))
    clear hall hI
    have t2 := hE.out.t2
    have df := hE.out.dfr
    obtain ⟨u0, u1, hk, c0, c1⟩ := hE.out.res
    have HKK := Aside0.mk hk
    clear hk
    refine hK a W ?_
    go_wp2
    refine bodyPost_ret (v := .agg #[u0, u1]) (by rw [results_cell rfl]; go_simp) df ⟨[_, _], rfl, HKK.out, hE.out.bel⟩
theorem kZ_form {w : World} {ok : Nat → Prop} {z : Zone} {cs : List Value} (h : kZ.K w ok z cs) : ∃ An cn Ar cr, cs = [.slice An z.name.length cn, .slice Ar z.recs.length cr] := by
  obtain ⟨vn, vr, rfl, hn, hr⟩ := h
  obtain ⟨An, cn, rfl, _, _⟩ := hn
  obtain ⟨Ar, cr, rfl, _, _⟩ := hr
  exact ⟨_, _, _, _, rfl⟩
set_option maxHeartbeats 1000000 in
theorem plain_calls (z : Zone) (cs : List Value) (w : World) (h : kZ.K w (fun _ => True) z cs) :
    Calls Try.prog 14 #[.agg cs.toArray] w fun e w' => e = .returned (.agg cs.toArray) ∧ Below w.heap.size w w' := by
  obtain ⟨An, cn, Ar, cr, rfl⟩ := kZ_form h
  clear h
  go_enter Try.func14, Try.ntmps14
  go_wp2
  refine bodyPost_ret (v := .agg #[.slice An z.name.length cn, .slice Ar z.recs.length cr]) (by rw [results_cell rfl]; go_simp) rfl ⟨rfl, ?_⟩
  repeat first | exact below_alloc (below_alloc (Below.refl _ _) _) _ | refine Below.setCell ?_ (Nat.le_succ _) _
end Go.Proofs.Ytkbjbkmaokebgaa.Gz

import Derived.Test.YtkbjbkmaokebgaaOwn
import Derived.Test.YtkbjbkmaokebgaaReg
set_option linter.unusedVariables false
set_option linter.unusedSimpArgs false
namespace Go.Proofs.Ytkbjbkmaokebgaa.Gz
open Go.RowKit Go.Proofs.YtkbjbkmaokebgaaW.PrintWords
open Ki
theorem eval_tmp {a : Act} {t : Nat} {v : Value} (h : a.tmps[t]? = some v) : a.eval (.tmp t) = v := by
  show a.tmps.getD t undef = v
  rw [Array.getD_eq_getD_getElem?, h]; rfl
/-- One field's way through a region that draws its order: an empty row, the field's address, its value, the row appended to. -/
structure Way {α : Type} (d : Ki α) (ok : Nat → Prop) (e n x k : Nat) (v : Value) (xs : List α) (iB iA iL iP tB tA tL tP : Nat) (f : Nat → Bool) (a : Act) (W : World) : Prop where
  fb : f iB = true → ∃ g, a.tmps[tB]? = some (.slice (some g) 0 0) ∧ d.Own e W n ok (.slice (some g) 0 0) []
  fa : f iA = true → a.tmps[tA]? = some (.pointer (some ⟨x, k, none⟩))
  fl : f iL = true → a.tmps[tL]? = some v
  fp : f iP = true → ∃ u, a.tmps[tP]? = some u ∧ d.Own e W n ok u xs
theorem mark_ne {f : Nat → Bool} {i j : Nat} (h : j ≠ i) : mark f i j = f j := by
  show (f j || j == i) = f j
  have : (j == i) = false := by simpa using h
  rw [this, Bool.or_false]
namespace Way
variable {α : Type} {d : Ki α} {ok : Nat → Prop} {e n x k : Nat} {v : Value} {xs : List α} {iB iA iL iP tB tA tL tP : Nat} {f : Nat → Bool} {a : Act} {W W1 : World}
/-- An operation of another way. -/
theorem other (h : Way d ok e n x k v xs iB iA iL iP tB tA tL tP f a W) {i t : Nat} {u : Value} (hi : i ≠ iB ∧ i ≠ iA ∧ i ≠ iL ∧ i ≠ iP) (ht : t ≠ tB ∧ t ≠ tA ∧ t ≠ tL ∧ t ≠ tP) (hb : Below W.heap.size W W1) :
    Way d ok e n x k v xs iB iA iL iP tB tA tL tP (mark f i) (a.put (some t) u) W1 where
  fb := fun hf => by
    rw [mark_ne (Ne.symm hi.1)] at hf
    obtain ⟨g, h1, h2⟩ := h.fb hf
    exact ⟨g, (put_other ht.1).trans h1, h2.below hb⟩
  fa := fun hf => by
    rw [mark_ne (Ne.symm hi.2.1)] at hf
    exact (put_other ht.2.1).trans (h.fa hf)
  fl := fun hf => by
    rw [mark_ne (Ne.symm hi.2.2.1)] at hf
    exact (put_other ht.2.2.1).trans (h.fl hf)
  fp := fun hf => by
    rw [mark_ne (Ne.symm hi.2.2.2)] at hf
    obtain ⟨g, h1, h2⟩ := h.fp hf
    exact ⟨g, (put_other ht.2.2.2).trans h1, h2.below hb⟩
theorem doB (h : Way d ok e n x k v xs iB iA iL iP tB tA tL tP f a W) {g : Addr} (hi : iB ≠ iA ∧ iB ≠ iL ∧ iB ≠ iP) (ht : tB ≠ tA ∧ tB ≠ tL ∧ tB ≠ tP) (hs : tB < a.tmps.size) (hb : Below W.heap.size W W1) (ho : d.Own e W1 n ok (.slice (some g) 0 0) []) :
    Way d ok e n x k v xs iB iA iL iP tB tA tL tP (mark f iB) (a.put (some tB) (.slice (some g) 0 0)) W1 where
  fb := fun _ => ⟨g, put_same hs, ho⟩
  fa := fun hf => by
    rw [mark_ne (Ne.symm hi.1)] at hf
    exact (put_other ht.1).trans (h.fa hf)
  fl := fun hf => by
    rw [mark_ne (Ne.symm hi.2.1)] at hf
    exact (put_other ht.2.1).trans (h.fl hf)
  fp := fun hf => by
    rw [mark_ne (Ne.symm hi.2.2)] at hf
    obtain ⟨g, h1, h2⟩ := h.fp hf
    exact ⟨g, (put_other ht.2.2).trans h1, h2.below hb⟩
theorem doA (h : Way d ok e n x k v xs iB iA iL iP tB tA tL tP f a W) (hi : iA ≠ iB ∧ iA ≠ iL ∧ iA ≠ iP) (ht : tA ≠ tB ∧ tA ≠ tL ∧ tA ≠ tP) (hs : tA < a.tmps.size) :
    Way d ok e n x k v xs iB iA iL iP tB tA tL tP (mark f iA) (a.put (some tA) (.pointer (some ⟨x, k, none⟩))) W where
  fb := fun hf => by
    rw [mark_ne (Ne.symm hi.1)] at hf
    obtain ⟨g, h1, h2⟩ := h.fb hf
    exact ⟨g, (put_other ht.1).trans h1, h2⟩
  fa := fun _ => put_same hs
  fl := fun hf => by
    rw [mark_ne (Ne.symm hi.2.1)] at hf
    exact (put_other ht.2.1).trans (h.fl hf)
  fp := fun hf => by
    rw [mark_ne (Ne.symm hi.2.2)] at hf
    obtain ⟨g, h1, h2⟩ := h.fp hf
    exact ⟨g, (put_other ht.2.2).trans h1, h2⟩
theorem doL (h : Way d ok e n x k v xs iB iA iL iP tB tA tL tP f a W) (hi : iL ≠ iB ∧ iL ≠ iA ∧ iL ≠ iP) (ht : tL ≠ tB ∧ tL ≠ tA ∧ tL ≠ tP) (hs : tL < a.tmps.size) :
    Way d ok e n x k v xs iB iA iL iP tB tA tL tP (mark f iL) (a.put (some tL) v) W where
  fb := fun hf => by
    rw [mark_ne (Ne.symm hi.1)] at hf
    obtain ⟨g, h1, h2⟩ := h.fb hf
    exact ⟨g, (put_other ht.1).trans h1, h2⟩
  fa := fun hf => by
    rw [mark_ne (Ne.symm hi.2.1)] at hf
    exact (put_other ht.2.1).trans (h.fa hf)
  fl := fun _ => put_same hs
  fp := fun hf => by
    rw [mark_ne (Ne.symm hi.2.2)] at hf
    obtain ⟨g, h1, h2⟩ := h.fp hf
    exact ⟨g, (put_other ht.2.2).trans h1, h2⟩
theorem doP (h : Way d ok e n x k v xs iB iA iL iP tB tA tL tP f a W) {u : Value} (hi : iP ≠ iB ∧ iP ≠ iA ∧ iP ≠ iL) (ht : tP ≠ tB ∧ tP ≠ tA ∧ tP ≠ tL) (hs : tP < a.tmps.size) (hb : Below W.heap.size W W1) (ho : d.Own e W1 n ok u xs) :
    Way d ok e n x k v xs iB iA iL iP tB tA tL tP (mark f iP) (a.put (some tP) u) W1 where
  fb := fun hf => by
    rw [mark_ne (Ne.symm hi.1)] at hf
    obtain ⟨g, h1, h2⟩ := h.fb hf
    exact ⟨g, (put_other ht.1).trans h1, h2.below hb⟩
  fa := fun hf => by
    rw [mark_ne (Ne.symm hi.2.1)] at hf
    exact (put_other ht.2.1).trans (h.fa hf)
  fl := fun hf => by
    rw [mark_ne (Ne.symm hi.2.2)] at hf
    exact (put_other ht.2.2).trans (h.fl hf)
  fp := fun _ => ⟨u, put_same hs, ho⟩
end Way
def Built (d : Dat) (n : Nat) (a : Act) (W : World) : Prop := ∃ u0 u1 u2 u3 u4, a.tmps[23]? = some (.agg #[u0, u1, u2, u3, u4]) ∧ kU.Own 5 W n (fun _ => True) u0 d.bytes ∧ kS.Own 9 W n (fun _ => True) u1 d.host ∧ kS.Own 9 W n (fun _ => True) u2 d.mail ∧ kI.Own 3 W n (fun _ => True) u3 d.nums ∧ kS.Own 9 W n (fun _ => True) u4 d.texts
theorem Built.other {d : Dat} {n : Nat} {a : Act} {W W1 : World} (h : Built d n a W) {t : Nat} {u : Value} (ht : t ≠ 23) (hb : Below W.heap.size W W1) : Built d n (a.put (some t) u) W1 := by
  obtain ⟨u0, u1, u2, u3, u4, e, o0, o1, o2, o3, o4⟩ := h
  exact ⟨u0, u1, u2, u3, u4, (put_other ht).trans e, o0.below hb, o1.below hb, o2.below hb, o3.below hb, o4.below hb⟩
/-- How it stands in OwnData's region: n is the heap's size at its begin, x the data's variable, y the result's. -/
structure OwnAt (d : Dat) (n x y : Nat) (v0 v1 v2 v3 v4 : Value) (ds : List Deferred) (W0 : World) (f : Nat → Bool) (a : Act) (W : World) : Prop where
  size : a.tmps.size = 24
  dfr : a.defers = ds
  t1 : a.tmps[1]? = some (.pointer (some ⟨x, 0, none⟩))
  t2 : a.tmps[2]? = some (.pointer (some ⟨y, 0, none⟩))
  bel : Below n W0 W
  w0 : Way kU (fun _ => True) 5 n x 0 v0 d.bytes 0 1 2 3 3 4 5 6 f a W
  w1 : Way kS (fun _ => True) 9 n x 1 v1 d.host 4 5 6 7 7 8 9 10 f a W
  w2 : Way kS (fun _ => True) 9 n x 2 v2 d.mail 8 9 10 11 11 12 13 14 f a W
  w3 : Way kI (fun _ => True) 3 n x 3 v3 d.nums 12 13 14 15 15 16 17 18 f a W
  w4 : Way kS (fun _ => True) 9 n x 4 v4 d.texts 16 17 18 19 19 20 21 22 f a W
  bd : f 20 = true → Built d n a W
/-- How it stands behind the store. -/
structure OwnEnd (d : Dat) (m y : Nat) (ds : List Deferred) (w : World) (a : Act) (W : World) : Prop where
  dfr : a.defers = ds
  t2 : a.tmps[2]? = some (.pointer (some ⟨y, 0, none⟩))
  bel : Below m w W
  res : ∃ u0 u1 u2 u3 u4, kD.K W (fun k => m ≤ k) d [u0, u1, u2, u3, u4] ∧ W.cell? ⟨y, 0, none⟩ = some u0 ∧ W.cell? ⟨y, 1, none⟩ = some u1 ∧ W.cell? ⟨y, 2, none⟩ = some u2 ∧ W.cell? ⟨y, 3, none⟩ = some u3 ∧ W.cell? ⟨y, 4, none⟩ = some u4
def OwnI (d : Dat) (n x y : Nat) (v0 v1 v2 v3 v4 : Value) (W0 w : World) (f : Nat → Bool) (a : Act) (W : World) : Prop :=
  (f 21 = false → OwnAt d n x y v0 v1 v2 v3 v4 [] W0 f a W) ∧ (f 21 = true → OwnEnd d x y [] w a W)
theorem info_zero_s : (Value.string ⟨#[]⟩).cells.size = kS.sz := rfl
set_option maxHeartbeats 4000000 in
set_option maxRecDepth 100000 in
theorem ownd_calls (d : Dat) (cs : List Value) (w : World) (h : kD.K w (fun _ => True) d cs) :
    Calls Try.prog 83 #[.agg cs.toArray] w (GivesK kD w d) := by
  obtain ⟨vb, vh, vm, vn, vt, rfl, hb, hh, hm, hn, ht⟩ := h
  generalize hW0 : (w.alloc (.cells #[vb, vh, vm, vn, vt] 42)).alloc (.cells #[.slice none 0 0, .slice none 0 0, .slice none 0 0, .slice none 0 0, .slice none 0 0] 42) = W0
  have hx : Below w.heap.size w W0 := by rw [← hW0]; exact below_alloc (below_alloc (Below.refl _ _) _) _
  have HW0 := Aside0.mk hW0
  have BX := Aside0.mk hx
  have s3 : W0.heap.size = w.heap.size + 2 := by rw [← hW0]; simp
  have x0 : W0.cell? ⟨w.heap.size, 0, none⟩ = some vb := by rw [← hW0]; simp
  have y0 : W0.cell? ⟨w.heap.size + 1, 0, none⟩ = some (.slice none 0 0) := by rw [← hW0]; simp
  have x1 : W0.cell? ⟨w.heap.size, 1, none⟩ = some vh := by rw [← hW0]; simp
  have y1 : W0.cell? ⟨w.heap.size + 1, 1, none⟩ = some (.slice none 0 0) := by rw [← hW0]; simp
  have x2 : W0.cell? ⟨w.heap.size, 2, none⟩ = some vm := by rw [← hW0]; simp
  have y2 : W0.cell? ⟨w.heap.size + 1, 2, none⟩ = some (.slice none 0 0) := by rw [← hW0]; simp
  have x3 : W0.cell? ⟨w.heap.size, 3, none⟩ = some vn := by rw [← hW0]; simp
  have y3 : W0.cell? ⟨w.heap.size + 1, 3, none⟩ = some (.slice none 0 0) := by rw [← hW0]; simp
  have x4 : W0.cell? ⟨w.heap.size, 4, none⟩ = some vt := by rw [← hW0]; simp
  have y4 : W0.cell? ⟨w.heap.size + 1, 4, none⟩ = some (.slice none 0 0) := by rw [← hW0]; simp
  have z : ∀ o, W0.frozen? ⟨w.heap.size + 1, o, none⟩ = false := fun o => by rw [← hW0]; simp
  clear hW0
  have R0 := Aside0.mk (fun W (hB : Below W0.heap.size W0 W) => hb.below pU (hx.trans (hB.mono hx.size)))
  have R1 := Aside0.mk (fun W (hB : Below W0.heap.size W0 W) => hh.below pS (hx.trans (hB.mono hx.size)))
  have R2 := Aside0.mk (fun W (hB : Below W0.heap.size W0 W) => hm.below pS (hx.trans (hB.mono hx.size)))
  have R3 := Aside0.mk (fun W (hB : Below W0.heap.size W0 W) => hn.below pI (hx.trans (hB.mono hx.size)))
  have R4 := Aside0.mk (fun W (hB : Below W0.heap.size W0 W) => ht.below pS (hx.trans (hB.mono hx.size)))
  obtain ⟨Ab, cb, rfl, _, _⟩ := hb
  obtain ⟨Ah, ch, rfl, _, _⟩ := hh
  obtain ⟨Am, cm, rfl, _, _⟩ := hm
  obtain ⟨An, cn, rfl, _, _⟩ := hn
  obtain ⟨At, ct, rfl, _, _⟩ := ht
  have X := Aside0.mk (And.intro x0 (And.intro x1 (And.intro x2 (And.intro x3 x4))))
  have Y := Aside0.mk (And.intro y0 (And.intro y1 (And.intro y2 (And.intro y3 (And.intro y4 z)))))
  have S3 := Aside0.mk s3
  clear x0 x1 x2 x3 x4 y0 y1 y2 y3 y4 z s3 hx
  go_enter Try.func83, Try.ntmps83
  go_wp2
  rw [HW0.out]
  refine wp_region_inv (by kernel_rfl) (OwnI d W0.heap.size w.heap.size (w.heap.size + 1) (.slice Ab d.bytes.length cb) (.slice Ah d.host.length ch) (.slice Am d.mail.length cm) (.slice An d.nums.length cn) (.slice At d.texts.length ct) W0 w) (by kernel_rfl) ?_ ?_ ?_
  · refine ⟨fun _ => ?_, fun h => by cases h⟩
    exact { size := rfl, dfr := rfl, t1 := rfl, t2 := rfl, bel := (Below.refl _ _).drew, bd := (fun h => by cases h), w0 := ⟨(fun h => by cases h), (fun h => by cases h), (fun h => by cases h), (fun h => by cases h)⟩, w1 := ⟨(fun h => by cases h), (fun h => by cases h), (fun h => by cases h), (fun h => by cases h)⟩, w2 := ⟨(fun h => by cases h), (fun h => by cases h), (fun h => by cases h), (fun h => by cases h)⟩, w3 := ⟨(fun h => by cases h), (fun h => by cases h), (fun h => by cases h), (fun h => by cases h)⟩, w4 := ⟨(fun h => by cases h), (fun h => by cases h), (fun h => by cases h), (fun h => by cases h)⟩ }
  · intro f a W i o ho hf he hsh hI
    have hi : i < 22 := (Array.getElem?_eq_some_iff.1 ho).1
    cases h21 : f 21 with
    | true =>
      exfalso
      have q0 : f 0 = true := hsh 21 _ rfl h21 ⟨0, .phase⟩ (by simp) rfl
      have q1 : f 1 = true := hsh 21 _ rfl h21 ⟨1, .phase⟩ (by simp) rfl
      have q2 : f 2 = true := hsh 21 _ rfl h21 ⟨2, .phase⟩ (by simp) rfl
      have q3 : f 3 = true := hsh 21 _ rfl h21 ⟨3, .phase⟩ (by simp) rfl
      have q4 : f 4 = true := hsh 21 _ rfl h21 ⟨4, .phase⟩ (by simp) rfl
      have q5 : f 5 = true := hsh 21 _ rfl h21 ⟨5, .phase⟩ (by simp) rfl
      have q6 : f 6 = true := hsh 21 _ rfl h21 ⟨6, .phase⟩ (by simp) rfl
      have q7 : f 7 = true := hsh 21 _ rfl h21 ⟨7, .phase⟩ (by simp) rfl
      have q8 : f 8 = true := hsh 21 _ rfl h21 ⟨8, .phase⟩ (by simp) rfl
      have q9 : f 9 = true := hsh 21 _ rfl h21 ⟨9, .phase⟩ (by simp) rfl
      have q10 : f 10 = true := hsh 21 _ rfl h21 ⟨10, .phase⟩ (by simp) rfl
      have q11 : f 11 = true := hsh 21 _ rfl h21 ⟨11, .phase⟩ (by simp) rfl
      have q12 : f 12 = true := hsh 21 _ rfl h21 ⟨12, .phase⟩ (by simp) rfl
      have q13 : f 13 = true := hsh 21 _ rfl h21 ⟨13, .phase⟩ (by simp) rfl
      have q14 : f 14 = true := hsh 21 _ rfl h21 ⟨14, .phase⟩ (by simp) rfl
      have q15 : f 15 = true := hsh 21 _ rfl h21 ⟨15, .phase⟩ (by simp) rfl
      have q16 : f 16 = true := hsh 21 _ rfl h21 ⟨16, .phase⟩ (by simp) rfl
      have q17 : f 17 = true := hsh 21 _ rfl h21 ⟨17, .phase⟩ (by simp) rfl
      have q18 : f 18 = true := hsh 21 _ rfl h21 ⟨18, .phase⟩ (by simp) rfl
      have q19 : f 19 = true := hsh 21 _ rfl h21 ⟨19, .chain⟩ (by simp) rfl
      have q20 : f 20 = true := hsh 21 _ rfl h21 ⟨20, .data⟩ (by simp) rfl
      rcases (show i = 0 ∨ i = 1 ∨ i = 2 ∨ i = 3 ∨ i = 4 ∨ i = 5 ∨ i = 6 ∨ i = 7 ∨ i = 8 ∨ i = 9 ∨ i = 10 ∨ i = 11 ∨ i = 12 ∨ i = 13 ∨ i = 14 ∨ i = 15 ∨ i = 16 ∨ i = 17 ∨ i = 18 ∨ i = 19 ∨ i = 20 ∨ i = 21 from by omega) with rfl | rfl | rfl | rfl | rfl | rfl | rfl | rfl | rfl | rfl | rfl | rfl | rfl | rfl | rfl | rfl | rfl | rfl | rfl | rfl | rfl | rfl
      · exact absurd (hf.symm.trans q0) (by decide)
      · exact absurd (hf.symm.trans q1) (by decide)
      · exact absurd (hf.symm.trans q2) (by decide)
      · exact absurd (hf.symm.trans q3) (by decide)
      · exact absurd (hf.symm.trans q4) (by decide)
      · exact absurd (hf.symm.trans q5) (by decide)
      · exact absurd (hf.symm.trans q6) (by decide)
      · exact absurd (hf.symm.trans q7) (by decide)
      · exact absurd (hf.symm.trans q8) (by decide)
      · exact absurd (hf.symm.trans q9) (by decide)
      · exact absurd (hf.symm.trans q10) (by decide)
      · exact absurd (hf.symm.trans q11) (by decide)
      · exact absurd (hf.symm.trans q12) (by decide)
      · exact absurd (hf.symm.trans q13) (by decide)
      · exact absurd (hf.symm.trans q14) (by decide)
      · exact absurd (hf.symm.trans q15) (by decide)
      · exact absurd (hf.symm.trans q16) (by decide)
      · exact absurd (hf.symm.trans q17) (by decide)
      · exact absurd (hf.symm.trans q18) (by decide)
      · exact absurd (hf.symm.trans q19) (by decide)
      · exact absurd (hf.symm.trans q20) (by decide)
      · exact absurd (hf.symm.trans h21) (by decide)
    | false =>
      have H := Aside0.mk (hI.1 h21)
      clear hI hsh
      have hbs : W0.heap.size ≤ W.heap.size := H.out.bel.size
      rcases (show i = 0 ∨ i = 1 ∨ i = 2 ∨ i = 3 ∨ i = 4 ∨ i = 5 ∨ i = 6 ∨ i = 7 ∨ i = 8 ∨ i = 9 ∨ i = 10 ∨ i = 11 ∨ i = 12 ∨ i = 13 ∨ i = 14 ∨ i = 15 ∨ i = 16 ∨ i = 17 ∨ i = 18 ∨ i = 19 ∨ i = 20 ∨ i = 21 from by omega) with rfl | rfl | rfl | rfl | rfl | rfl | rfl | rfl | rfl | rfl | rfl | rfl | rfl | rfl | rfl | rfl | rfl | rfl | rfl | rfl | rfl | rfl
      · obtain rfl := Option.some.inj (show some _ = some o from ho)
        refine wpOp_plain rfl rfl ?_
        unfold Oper.wp execOp
        go_simp
        show OwnI d _ _ _ _ _ _ _ _ W0 w (mark f 0) (a.put (some 3) _) _
        refine ⟨fun _ => ?_, fun h => absurd (((mark_ne (f := f) (i := 0) (j := 21) (by decide)).symm.trans h).symm.trans h21) (by decide)⟩
        exact { size := put_size.trans H.out.size, dfr := H.out.dfr, t1 := (put_other (by decide)).trans H.out.t1, t2 := (put_other (by decide)).trans H.out.t2, bel := H.out.bel.trans ((below_alloc (Below.refl W.heap.size W) _).mono hbs), w0 := H.out.w0.doB (by decide) (by decide) (by rw [H.out.size]; decide) (below_alloc (Below.refl W.heap.size W) _) (Own.lit0 kU _ W _ _ hbs), w1 := H.out.w1.other (by decide) (by decide) (below_alloc (Below.refl W.heap.size W) _), w2 := H.out.w2.other (by decide) (by decide) (below_alloc (Below.refl W.heap.size W) _), w3 := H.out.w3.other (by decide) (by decide) (below_alloc (Below.refl W.heap.size W) _), w4 := H.out.w4.other (by decide) (by decide) (below_alloc (Below.refl W.heap.size W) _), bd := fun hf => (H.out.bd ((mark_ne (f := f) (i := 0) (j := 20) (by decide)).symm.trans hf)).other (by decide) (below_alloc (Below.refl W.heap.size W) _) }
      · obtain rfl := Option.some.inj (show some _ = some o from ho)
        refine wpOp_plain rfl rfl ?_
        have r1 := H.out.t1
        unfold Oper.wp execOp
        go_simp
        show OwnI d _ _ _ _ _ _ _ _ W0 w (mark f 1) (a.put (some 4) _) _
        refine ⟨fun _ => ?_, fun h => absurd (((mark_ne (f := f) (i := 1) (j := 21) (by decide)).symm.trans h).symm.trans h21) (by decide)⟩
        exact { size := put_size.trans H.out.size, dfr := H.out.dfr, t1 := (put_other (by decide)).trans H.out.t1, t2 := (put_other (by decide)).trans H.out.t2, bel := H.out.bel.trans ((Below.refl W.heap.size W).mono hbs), w0 := H.out.w0.doA (by decide) (by decide) (by rw [H.out.size]; decide), w1 := H.out.w1.other (by decide) (by decide) (Below.refl W.heap.size W), w2 := H.out.w2.other (by decide) (by decide) (Below.refl W.heap.size W), w3 := H.out.w3.other (by decide) (by decide) (Below.refl W.heap.size W), w4 := H.out.w4.other (by decide) (by decide) (Below.refl W.heap.size W), bd := fun hf => (H.out.bd ((mark_ne (f := f) (i := 1) (j := 20) (by decide)).symm.trans hf)).other (by decide) (Below.refl W.heap.size W) }
      · obtain rfl := Option.some.inj (show some _ = some o from ho)
        refine wpOp_plain rfl rfl ?_
        have r1 := (H.out.w0.fa (he ⟨1, .data⟩ (by simp) rfl))
        have c1 := (H.out.bel.cell (p := ⟨w.heap.size, 0, none⟩) (by rw [S3.out]; simp)).trans X.out.1
        unfold Oper.wp execOp
        go_simp
        show OwnI d _ _ _ _ _ _ _ _ W0 w (mark f 2) (a.put (some 5) _) _
        refine ⟨fun _ => ?_, fun h => absurd (((mark_ne (f := f) (i := 2) (j := 21) (by decide)).symm.trans h).symm.trans h21) (by decide)⟩
        exact { size := put_size.trans H.out.size, dfr := H.out.dfr, t1 := (put_other (by decide)).trans H.out.t1, t2 := (put_other (by decide)).trans H.out.t2, bel := H.out.bel.trans ((Below.refl W.heap.size W).mono hbs), w0 := H.out.w0.doL (by decide) (by decide) (by rw [H.out.size]; decide), w1 := H.out.w1.other (by decide) (by decide) (Below.refl W.heap.size W), w2 := H.out.w2.other (by decide) (by decide) (Below.refl W.heap.size W), w3 := H.out.w3.other (by decide) (by decide) (Below.refl W.heap.size W), w4 := H.out.w4.other (by decide) (by decide) (Below.refl W.heap.size W), bd := fun hf => (H.out.bd ((mark_ne (f := f) (i := 2) (j := 20) (by decide)).symm.trans hf)).other (by decide) (Below.refl W.heap.size W) }
      · obtain rfl := Option.some.inj (show some _ = some o from ho)
        refine wpOp_plain rfl rfl ?_
        obtain ⟨g, e0, o0⟩ := H.out.w0.fb (he ⟨0, .data⟩ (by simp) rfl)
        have e1 := eval_tmp e0
        have e2 := eval_tmp (H.out.w0.fl (he ⟨2, .data⟩ (by simp) rfl))
        have hr0 := R0.out W (H.out.bel)
        obtain ⟨v1, w1, hr, o1, hb1⟩ := run_append_zero (P := Try.prog) (d := kU) (ok := fun _ => True) W0.heap.size 39 39 (.int .u8 0) Try.underlying39 info_u rfl (by decide) (by decide) (some g) _ o0 hr0 hbs hr0.room
        unfold Oper.wp
        simp [execOp, resolve, invoke, builtin, e1, e2, hr, Result.andThen]
        show OwnI d _ _ _ _ _ _ _ _ W0 w (mark f 3) (a.put (some 6) _) _
        refine ⟨fun _ => ?_, fun h => absurd (((mark_ne (f := f) (i := 3) (j := 21) (by decide)).symm.trans h).symm.trans h21) (by decide)⟩
        exact { size := put_size.trans H.out.size, dfr := H.out.dfr, t1 := (put_other (by decide)).trans H.out.t1, t2 := (put_other (by decide)).trans H.out.t2, bel := H.out.bel.trans (hb1.mono hbs), w0 := H.out.w0.doP (by decide) (by decide) (by rw [H.out.size]; decide) hb1 o1, w1 := H.out.w1.other (by decide) (by decide) hb1, w2 := H.out.w2.other (by decide) (by decide) hb1, w3 := H.out.w3.other (by decide) (by decide) hb1, w4 := H.out.w4.other (by decide) (by decide) hb1, bd := fun hf => (H.out.bd ((mark_ne (f := f) (i := 3) (j := 20) (by decide)).symm.trans hf)).other (by decide) hb1 }
      · obtain rfl := Option.some.inj (show some _ = some o from ho)
        refine wpOp_plain rfl rfl ?_
        unfold Oper.wp execOp
        go_simp
        show OwnI d _ _ _ _ _ _ _ _ W0 w (mark f 4) (a.put (some 7) _) _
        refine ⟨fun _ => ?_, fun h => absurd (((mark_ne (f := f) (i := 4) (j := 21) (by decide)).symm.trans h).symm.trans h21) (by decide)⟩
        exact { size := put_size.trans H.out.size, dfr := H.out.dfr, t1 := (put_other (by decide)).trans H.out.t1, t2 := (put_other (by decide)).trans H.out.t2, bel := H.out.bel.trans ((below_alloc (Below.refl W.heap.size W) _).mono hbs), w0 := H.out.w0.other (by decide) (by decide) (below_alloc (Below.refl W.heap.size W) _), w1 := H.out.w1.doB (by decide) (by decide) (by rw [H.out.size]; decide) (below_alloc (Below.refl W.heap.size W) _) (Own.lit0 kS _ W _ _ hbs), w2 := H.out.w2.other (by decide) (by decide) (below_alloc (Below.refl W.heap.size W) _), w3 := H.out.w3.other (by decide) (by decide) (below_alloc (Below.refl W.heap.size W) _), w4 := H.out.w4.other (by decide) (by decide) (below_alloc (Below.refl W.heap.size W) _), bd := fun hf => (H.out.bd ((mark_ne (f := f) (i := 4) (j := 20) (by decide)).symm.trans hf)).other (by decide) (below_alloc (Below.refl W.heap.size W) _) }
      · obtain rfl := Option.some.inj (show some _ = some o from ho)
        refine wpOp_plain rfl rfl ?_
        have r1 := H.out.t1
        unfold Oper.wp execOp
        go_simp
        show OwnI d _ _ _ _ _ _ _ _ W0 w (mark f 5) (a.put (some 8) _) _
        refine ⟨fun _ => ?_, fun h => absurd (((mark_ne (f := f) (i := 5) (j := 21) (by decide)).symm.trans h).symm.trans h21) (by decide)⟩
        exact { size := put_size.trans H.out.size, dfr := H.out.dfr, t1 := (put_other (by decide)).trans H.out.t1, t2 := (put_other (by decide)).trans H.out.t2, bel := H.out.bel.trans ((Below.refl W.heap.size W).mono hbs), w0 := H.out.w0.other (by decide) (by decide) (Below.refl W.heap.size W), w1 := H.out.w1.doA (by decide) (by decide) (by rw [H.out.size]; decide), w2 := H.out.w2.other (by decide) (by decide) (Below.refl W.heap.size W), w3 := H.out.w3.other (by decide) (by decide) (Below.refl W.heap.size W), w4 := H.out.w4.other (by decide) (by decide) (Below.refl W.heap.size W), bd := fun hf => (H.out.bd ((mark_ne (f := f) (i := 5) (j := 20) (by decide)).symm.trans hf)).other (by decide) (Below.refl W.heap.size W) }
      · obtain rfl := Option.some.inj (show some _ = some o from ho)
        refine wpOp_plain rfl rfl ?_
        have r1 := (H.out.w1.fa (he ⟨5, .data⟩ (by simp) rfl))
        have c1 := (H.out.bel.cell (p := ⟨w.heap.size, 1, none⟩) (by rw [S3.out]; simp)).trans X.out.2.1
        unfold Oper.wp execOp
        go_simp
        show OwnI d _ _ _ _ _ _ _ _ W0 w (mark f 6) (a.put (some 9) _) _
        refine ⟨fun _ => ?_, fun h => absurd (((mark_ne (f := f) (i := 6) (j := 21) (by decide)).symm.trans h).symm.trans h21) (by decide)⟩
        exact { size := put_size.trans H.out.size, dfr := H.out.dfr, t1 := (put_other (by decide)).trans H.out.t1, t2 := (put_other (by decide)).trans H.out.t2, bel := H.out.bel.trans ((Below.refl W.heap.size W).mono hbs), w0 := H.out.w0.other (by decide) (by decide) (Below.refl W.heap.size W), w1 := H.out.w1.doL (by decide) (by decide) (by rw [H.out.size]; decide), w2 := H.out.w2.other (by decide) (by decide) (Below.refl W.heap.size W), w3 := H.out.w3.other (by decide) (by decide) (Below.refl W.heap.size W), w4 := H.out.w4.other (by decide) (by decide) (Below.refl W.heap.size W), bd := fun hf => (H.out.bd ((mark_ne (f := f) (i := 6) (j := 20) (by decide)).symm.trans hf)).other (by decide) (Below.refl W.heap.size W) }
      · obtain rfl := Option.some.inj (show some _ = some o from ho)
        refine wpOp_plain rfl rfl ?_
        obtain ⟨g, e0, o0⟩ := H.out.w1.fb (he ⟨4, .data⟩ (by simp) rfl)
        have e1 := eval_tmp e0
        have e2 := eval_tmp (H.out.w1.fl (he ⟨6, .data⟩ (by simp) rfl))
        have hr0 := R1.out W (H.out.bel)
        obtain ⟨v1, w1, hr, o1, hb1⟩ := run_append_zero (P := Try.prog) (d := kS) (ok := fun _ => True) W0.heap.size 22 22 (.string ⟨#[]⟩) Try.underlying22 info_s rfl (by decide) (by decide) (some g) _ o0 hr0 hbs hr0.room
        unfold Oper.wp
        simp [execOp, resolve, invoke, builtin, e1, e2, hr, Result.andThen]
        show OwnI d _ _ _ _ _ _ _ _ W0 w (mark f 7) (a.put (some 10) _) _
        refine ⟨fun _ => ?_, fun h => absurd (((mark_ne (f := f) (i := 7) (j := 21) (by decide)).symm.trans h).symm.trans h21) (by decide)⟩
        exact { size := put_size.trans H.out.size, dfr := H.out.dfr, t1 := (put_other (by decide)).trans H.out.t1, t2 := (put_other (by decide)).trans H.out.t2, bel := H.out.bel.trans (hb1.mono hbs), w0 := H.out.w0.other (by decide) (by decide) hb1, w1 := H.out.w1.doP (by decide) (by decide) (by rw [H.out.size]; decide) hb1 o1, w2 := H.out.w2.other (by decide) (by decide) hb1, w3 := H.out.w3.other (by decide) (by decide) hb1, w4 := H.out.w4.other (by decide) (by decide) hb1, bd := fun hf => (H.out.bd ((mark_ne (f := f) (i := 7) (j := 20) (by decide)).symm.trans hf)).other (by decide) hb1 }
      · obtain rfl := Option.some.inj (show some _ = some o from ho)
        refine wpOp_plain rfl rfl ?_
        unfold Oper.wp execOp
        go_simp
        show OwnI d _ _ _ _ _ _ _ _ W0 w (mark f 8) (a.put (some 11) _) _
        refine ⟨fun _ => ?_, fun h => absurd (((mark_ne (f := f) (i := 8) (j := 21) (by decide)).symm.trans h).symm.trans h21) (by decide)⟩
        exact { size := put_size.trans H.out.size, dfr := H.out.dfr, t1 := (put_other (by decide)).trans H.out.t1, t2 := (put_other (by decide)).trans H.out.t2, bel := H.out.bel.trans ((below_alloc (Below.refl W.heap.size W) _).mono hbs), w0 := H.out.w0.other (by decide) (by decide) (below_alloc (Below.refl W.heap.size W) _), w1 := H.out.w1.other (by decide) (by decide) (below_alloc (Below.refl W.heap.size W) _), w2 := H.out.w2.doB (by decide) (by decide) (by rw [H.out.size]; decide) (below_alloc (Below.refl W.heap.size W) _) (Own.lit0 kS _ W _ _ hbs), w3 := H.out.w3.other (by decide) (by decide) (below_alloc (Below.refl W.heap.size W) _), w4 := H.out.w4.other (by decide) (by decide) (below_alloc (Below.refl W.heap.size W) _), bd := fun hf => (H.out.bd ((mark_ne (f := f) (i := 8) (j := 20) (by decide)).symm.trans hf)).other (by decide) (below_alloc (Below.refl W.heap.size W) _) }
      · obtain rfl := Option.some.inj (show some _ = some o from ho)
        refine wpOp_plain rfl rfl ?_
        have r1 := H.out.t1
        unfold Oper.wp execOp
        go_simp
        show OwnI d _ _ _ _ _ _ _ _ W0 w (mark f 9) (a.put (some 12) _) _
        refine ⟨fun _ => ?_, fun h => absurd (((mark_ne (f := f) (i := 9) (j := 21) (by decide)).symm.trans h).symm.trans h21) (by decide)⟩
        exact { size := put_size.trans H.out.size, dfr := H.out.dfr, t1 := (put_other (by decide)).trans H.out.t1, t2 := (put_other (by decide)).trans H.out.t2, bel := H.out.bel.trans ((Below.refl W.heap.size W).mono hbs), w0 := H.out.w0.other (by decide) (by decide) (Below.refl W.heap.size W), w1 := H.out.w1.other (by decide) (by decide) (Below.refl W.heap.size W), w2 := H.out.w2.doA (by decide) (by decide) (by rw [H.out.size]; decide), w3 := H.out.w3.other (by decide) (by decide) (Below.refl W.heap.size W), w4 := H.out.w4.other (by decide) (by decide) (Below.refl W.heap.size W), bd := fun hf => (H.out.bd ((mark_ne (f := f) (i := 9) (j := 20) (by decide)).symm.trans hf)).other (by decide) (Below.refl W.heap.size W) }
      · obtain rfl := Option.some.inj (show some _ = some o from ho)
        refine wpOp_plain rfl rfl ?_
        have r1 := (H.out.w2.fa (he ⟨9, .data⟩ (by simp) rfl))
        have c1 := (H.out.bel.cell (p := ⟨w.heap.size, 2, none⟩) (by rw [S3.out]; simp)).trans X.out.2.2.1
        unfold Oper.wp execOp
        go_simp
        show OwnI d _ _ _ _ _ _ _ _ W0 w (mark f 10) (a.put (some 13) _) _
        refine ⟨fun _ => ?_, fun h => absurd (((mark_ne (f := f) (i := 10) (j := 21) (by decide)).symm.trans h).symm.trans h21) (by decide)⟩
        exact { size := put_size.trans H.out.size, dfr := H.out.dfr, t1 := (put_other (by decide)).trans H.out.t1, t2 := (put_other (by decide)).trans H.out.t2, bel := H.out.bel.trans ((Below.refl W.heap.size W).mono hbs), w0 := H.out.w0.other (by decide) (by decide) (Below.refl W.heap.size W), w1 := H.out.w1.other (by decide) (by decide) (Below.refl W.heap.size W), w2 := H.out.w2.doL (by decide) (by decide) (by rw [H.out.size]; decide), w3 := H.out.w3.other (by decide) (by decide) (Below.refl W.heap.size W), w4 := H.out.w4.other (by decide) (by decide) (Below.refl W.heap.size W), bd := fun hf => (H.out.bd ((mark_ne (f := f) (i := 10) (j := 20) (by decide)).symm.trans hf)).other (by decide) (Below.refl W.heap.size W) }
      · obtain rfl := Option.some.inj (show some _ = some o from ho)
        refine wpOp_plain rfl rfl ?_
        obtain ⟨g, e0, o0⟩ := H.out.w2.fb (he ⟨8, .data⟩ (by simp) rfl)
        have e1 := eval_tmp e0
        have e2 := eval_tmp (H.out.w2.fl (he ⟨10, .data⟩ (by simp) rfl))
        have hr0 := R2.out W (H.out.bel)
        obtain ⟨v1, w1, hr, o1, hb1⟩ := run_append_zero (P := Try.prog) (d := kS) (ok := fun _ => True) W0.heap.size 22 22 (.string ⟨#[]⟩) Try.underlying22 info_s rfl (by decide) (by decide) (some g) _ o0 hr0 hbs hr0.room
        unfold Oper.wp
        simp [execOp, resolve, invoke, builtin, e1, e2, hr, Result.andThen]
        show OwnI d _ _ _ _ _ _ _ _ W0 w (mark f 11) (a.put (some 14) _) _
        refine ⟨fun _ => ?_, fun h => absurd (((mark_ne (f := f) (i := 11) (j := 21) (by decide)).symm.trans h).symm.trans h21) (by decide)⟩
        exact { size := put_size.trans H.out.size, dfr := H.out.dfr, t1 := (put_other (by decide)).trans H.out.t1, t2 := (put_other (by decide)).trans H.out.t2, bel := H.out.bel.trans (hb1.mono hbs), w0 := H.out.w0.other (by decide) (by decide) hb1, w1 := H.out.w1.other (by decide) (by decide) hb1, w2 := H.out.w2.doP (by decide) (by decide) (by rw [H.out.size]; decide) hb1 o1, w3 := H.out.w3.other (by decide) (by decide) hb1, w4 := H.out.w4.other (by decide) (by decide) hb1, bd := fun hf => (H.out.bd ((mark_ne (f := f) (i := 11) (j := 20) (by decide)).symm.trans hf)).other (by decide) hb1 }
      · obtain rfl := Option.some.inj (show some _ = some o from ho)
        refine wpOp_plain rfl rfl ?_
        unfold Oper.wp execOp
        go_simp
        show OwnI d _ _ _ _ _ _ _ _ W0 w (mark f 12) (a.put (some 15) _) _
        refine ⟨fun _ => ?_, fun h => absurd (((mark_ne (f := f) (i := 12) (j := 21) (by decide)).symm.trans h).symm.trans h21) (by decide)⟩
        exact { size := put_size.trans H.out.size, dfr := H.out.dfr, t1 := (put_other (by decide)).trans H.out.t1, t2 := (put_other (by decide)).trans H.out.t2, bel := H.out.bel.trans ((below_alloc (Below.refl W.heap.size W) _).mono hbs), w0 := H.out.w0.other (by decide) (by decide) (below_alloc (Below.refl W.heap.size W) _), w1 := H.out.w1.other (by decide) (by decide) (below_alloc (Below.refl W.heap.size W) _), w2 := H.out.w2.other (by decide) (by decide) (below_alloc (Below.refl W.heap.size W) _), w3 := H.out.w3.doB (by decide) (by decide) (by rw [H.out.size]; decide) (below_alloc (Below.refl W.heap.size W) _) (Own.lit0 kI _ W _ _ hbs), w4 := H.out.w4.other (by decide) (by decide) (below_alloc (Below.refl W.heap.size W) _), bd := fun hf => (H.out.bd ((mark_ne (f := f) (i := 12) (j := 20) (by decide)).symm.trans hf)).other (by decide) (below_alloc (Below.refl W.heap.size W) _) }
      · obtain rfl := Option.some.inj (show some _ = some o from ho)
        refine wpOp_plain rfl rfl ?_
        have r1 := H.out.t1
        unfold Oper.wp execOp
        go_simp
        show OwnI d _ _ _ _ _ _ _ _ W0 w (mark f 13) (a.put (some 16) _) _
        refine ⟨fun _ => ?_, fun h => absurd (((mark_ne (f := f) (i := 13) (j := 21) (by decide)).symm.trans h).symm.trans h21) (by decide)⟩
        exact { size := put_size.trans H.out.size, dfr := H.out.dfr, t1 := (put_other (by decide)).trans H.out.t1, t2 := (put_other (by decide)).trans H.out.t2, bel := H.out.bel.trans ((Below.refl W.heap.size W).mono hbs), w0 := H.out.w0.other (by decide) (by decide) (Below.refl W.heap.size W), w1 := H.out.w1.other (by decide) (by decide) (Below.refl W.heap.size W), w2 := H.out.w2.other (by decide) (by decide) (Below.refl W.heap.size W), w3 := H.out.w3.doA (by decide) (by decide) (by rw [H.out.size]; decide), w4 := H.out.w4.other (by decide) (by decide) (Below.refl W.heap.size W), bd := fun hf => (H.out.bd ((mark_ne (f := f) (i := 13) (j := 20) (by decide)).symm.trans hf)).other (by decide) (Below.refl W.heap.size W) }
      · obtain rfl := Option.some.inj (show some _ = some o from ho)
        refine wpOp_plain rfl rfl ?_
        have r1 := (H.out.w3.fa (he ⟨13, .data⟩ (by simp) rfl))
        have c1 := (H.out.bel.cell (p := ⟨w.heap.size, 3, none⟩) (by rw [S3.out]; simp)).trans X.out.2.2.2.1
        unfold Oper.wp execOp
        go_simp
        show OwnI d _ _ _ _ _ _ _ _ W0 w (mark f 14) (a.put (some 17) _) _
        refine ⟨fun _ => ?_, fun h => absurd (((mark_ne (f := f) (i := 14) (j := 21) (by decide)).symm.trans h).symm.trans h21) (by decide)⟩
        exact { size := put_size.trans H.out.size, dfr := H.out.dfr, t1 := (put_other (by decide)).trans H.out.t1, t2 := (put_other (by decide)).trans H.out.t2, bel := H.out.bel.trans ((Below.refl W.heap.size W).mono hbs), w0 := H.out.w0.other (by decide) (by decide) (Below.refl W.heap.size W), w1 := H.out.w1.other (by decide) (by decide) (Below.refl W.heap.size W), w2 := H.out.w2.other (by decide) (by decide) (Below.refl W.heap.size W), w3 := H.out.w3.doL (by decide) (by decide) (by rw [H.out.size]; decide), w4 := H.out.w4.other (by decide) (by decide) (Below.refl W.heap.size W), bd := fun hf => (H.out.bd ((mark_ne (f := f) (i := 14) (j := 20) (by decide)).symm.trans hf)).other (by decide) (Below.refl W.heap.size W) }
      · obtain rfl := Option.some.inj (show some _ = some o from ho)
        refine wpOp_plain rfl rfl ?_
        obtain ⟨g, e0, o0⟩ := H.out.w3.fb (he ⟨12, .data⟩ (by simp) rfl)
        have e1 := eval_tmp e0
        have e2 := eval_tmp (H.out.w3.fl (he ⟨14, .data⟩ (by simp) rfl))
        have hr0 := R3.out W (H.out.bel)
        obtain ⟨v1, w1, hr, o1, hb1⟩ := run_append_zero (P := Try.prog) (d := kI) (ok := fun _ => True) W0.heap.size 40 40 (.int .i64 0) Try.underlying40 info_i rfl (by decide) (by decide) (some g) _ o0 hr0 hbs hr0.room
        unfold Oper.wp
        simp [execOp, resolve, invoke, builtin, e1, e2, hr, Result.andThen]
        show OwnI d _ _ _ _ _ _ _ _ W0 w (mark f 15) (a.put (some 18) _) _
        refine ⟨fun _ => ?_, fun h => absurd (((mark_ne (f := f) (i := 15) (j := 21) (by decide)).symm.trans h).symm.trans h21) (by decide)⟩
        exact { size := put_size.trans H.out.size, dfr := H.out.dfr, t1 := (put_other (by decide)).trans H.out.t1, t2 := (put_other (by decide)).trans H.out.t2, bel := H.out.bel.trans (hb1.mono hbs), w0 := H.out.w0.other (by decide) (by decide) hb1, w1 := H.out.w1.other (by decide) (by decide) hb1, w2 := H.out.w2.other (by decide) (by decide) hb1, w3 := H.out.w3.doP (by decide) (by decide) (by rw [H.out.size]; decide) hb1 o1, w4 := H.out.w4.other (by decide) (by decide) hb1, bd := fun hf => (H.out.bd ((mark_ne (f := f) (i := 15) (j := 20) (by decide)).symm.trans hf)).other (by decide) hb1 }
      · obtain rfl := Option.some.inj (show some _ = some o from ho)
        refine wpOp_plain rfl rfl ?_
        unfold Oper.wp execOp
        go_simp
        show OwnI d _ _ _ _ _ _ _ _ W0 w (mark f 16) (a.put (some 19) _) _
        refine ⟨fun _ => ?_, fun h => absurd (((mark_ne (f := f) (i := 16) (j := 21) (by decide)).symm.trans h).symm.trans h21) (by decide)⟩
        exact { size := put_size.trans H.out.size, dfr := H.out.dfr, t1 := (put_other (by decide)).trans H.out.t1, t2 := (put_other (by decide)).trans H.out.t2, bel := H.out.bel.trans ((below_alloc (Below.refl W.heap.size W) _).mono hbs), w0 := H.out.w0.other (by decide) (by decide) (below_alloc (Below.refl W.heap.size W) _), w1 := H.out.w1.other (by decide) (by decide) (below_alloc (Below.refl W.heap.size W) _), w2 := H.out.w2.other (by decide) (by decide) (below_alloc (Below.refl W.heap.size W) _), w3 := H.out.w3.other (by decide) (by decide) (below_alloc (Below.refl W.heap.size W) _), w4 := H.out.w4.doB (by decide) (by decide) (by rw [H.out.size]; decide) (below_alloc (Below.refl W.heap.size W) _) (Own.lit0 kS _ W _ _ hbs), bd := fun hf => (H.out.bd ((mark_ne (f := f) (i := 16) (j := 20) (by decide)).symm.trans hf)).other (by decide) (below_alloc (Below.refl W.heap.size W) _) }
      · obtain rfl := Option.some.inj (show some _ = some o from ho)
        refine wpOp_plain rfl rfl ?_
        have r1 := H.out.t1
        unfold Oper.wp execOp
        go_simp
        show OwnI d _ _ _ _ _ _ _ _ W0 w (mark f 17) (a.put (some 20) _) _
        refine ⟨fun _ => ?_, fun h => absurd (((mark_ne (f := f) (i := 17) (j := 21) (by decide)).symm.trans h).symm.trans h21) (by decide)⟩
        exact { size := put_size.trans H.out.size, dfr := H.out.dfr, t1 := (put_other (by decide)).trans H.out.t1, t2 := (put_other (by decide)).trans H.out.t2, bel := H.out.bel.trans ((Below.refl W.heap.size W).mono hbs), w0 := H.out.w0.other (by decide) (by decide) (Below.refl W.heap.size W), w1 := H.out.w1.other (by decide) (by decide) (Below.refl W.heap.size W), w2 := H.out.w2.other (by decide) (by decide) (Below.refl W.heap.size W), w3 := H.out.w3.other (by decide) (by decide) (Below.refl W.heap.size W), w4 := H.out.w4.doA (by decide) (by decide) (by rw [H.out.size]; decide), bd := fun hf => (H.out.bd ((mark_ne (f := f) (i := 17) (j := 20) (by decide)).symm.trans hf)).other (by decide) (Below.refl W.heap.size W) }
      · obtain rfl := Option.some.inj (show some _ = some o from ho)
        refine wpOp_plain rfl rfl ?_
        have r1 := (H.out.w4.fa (he ⟨17, .data⟩ (by simp) rfl))
        have c1 := (H.out.bel.cell (p := ⟨w.heap.size, 4, none⟩) (by rw [S3.out]; simp)).trans X.out.2.2.2.2
        unfold Oper.wp execOp
        go_simp
        show OwnI d _ _ _ _ _ _ _ _ W0 w (mark f 18) (a.put (some 21) _) _
        refine ⟨fun _ => ?_, fun h => absurd (((mark_ne (f := f) (i := 18) (j := 21) (by decide)).symm.trans h).symm.trans h21) (by decide)⟩
        exact { size := put_size.trans H.out.size, dfr := H.out.dfr, t1 := (put_other (by decide)).trans H.out.t1, t2 := (put_other (by decide)).trans H.out.t2, bel := H.out.bel.trans ((Below.refl W.heap.size W).mono hbs), w0 := H.out.w0.other (by decide) (by decide) (Below.refl W.heap.size W), w1 := H.out.w1.other (by decide) (by decide) (Below.refl W.heap.size W), w2 := H.out.w2.other (by decide) (by decide) (Below.refl W.heap.size W), w3 := H.out.w3.other (by decide) (by decide) (Below.refl W.heap.size W), w4 := H.out.w4.doL (by decide) (by decide) (by rw [H.out.size]; decide), bd := fun hf => (H.out.bd ((mark_ne (f := f) (i := 18) (j := 20) (by decide)).symm.trans hf)).other (by decide) (Below.refl W.heap.size W) }
      · obtain rfl := Option.some.inj (show some _ = some o from ho)
        refine wpOp_plain rfl rfl ?_
        obtain ⟨g, e0, o0⟩ := H.out.w4.fb (he ⟨16, .data⟩ (by simp) rfl)
        have e1 := eval_tmp e0
        have e2 := eval_tmp (H.out.w4.fl (he ⟨18, .data⟩ (by simp) rfl))
        have hr0 := R4.out W (H.out.bel)
        obtain ⟨v1, w1, hr, o1, hb1⟩ := run_append_zero (P := Try.prog) (d := kS) (ok := fun _ => True) W0.heap.size 22 22 (.string ⟨#[]⟩) Try.underlying22 info_s rfl (by decide) (by decide) (some g) _ o0 hr0 hbs hr0.room
        unfold Oper.wp
        simp [execOp, resolve, invoke, builtin, e1, e2, hr, Result.andThen]
        show OwnI d _ _ _ _ _ _ _ _ W0 w (mark f 19) (a.put (some 22) _) _
        refine ⟨fun _ => ?_, fun h => absurd (((mark_ne (f := f) (i := 19) (j := 21) (by decide)).symm.trans h).symm.trans h21) (by decide)⟩
        exact { size := put_size.trans H.out.size, dfr := H.out.dfr, t1 := (put_other (by decide)).trans H.out.t1, t2 := (put_other (by decide)).trans H.out.t2, bel := H.out.bel.trans (hb1.mono hbs), w0 := H.out.w0.other (by decide) (by decide) hb1, w1 := H.out.w1.other (by decide) (by decide) hb1, w2 := H.out.w2.other (by decide) (by decide) hb1, w3 := H.out.w3.other (by decide) (by decide) hb1, w4 := H.out.w4.doP (by decide) (by decide) (by rw [H.out.size]; decide) hb1 o1, bd := fun hf => (H.out.bd ((mark_ne (f := f) (i := 19) (j := 20) (by decide)).symm.trans hf)).other (by decide) hb1 }
      · obtain rfl := Option.some.inj (show some _ = some o from ho)
        refine wpOp_plain rfl rfl ?_
        obtain ⟨u0, e0, o0⟩ := H.out.w0.fp (he ⟨3, .data⟩ (by simp) rfl)
        obtain ⟨A0, k0, rfl, _⟩ := o0.slice_
        obtain ⟨u1, e1, o1⟩ := H.out.w1.fp (he ⟨7, .data⟩ (by simp) rfl)
        obtain ⟨A1, k1, rfl, _⟩ := o1.slice_
        obtain ⟨u2, e2, o2⟩ := H.out.w2.fp (he ⟨11, .data⟩ (by simp) rfl)
        obtain ⟨A2, k2, rfl, _⟩ := o2.slice_
        obtain ⟨u3, e3, o3⟩ := H.out.w3.fp (he ⟨15, .data⟩ (by simp) rfl)
        obtain ⟨A3, k3, rfl, _⟩ := o3.slice_
        obtain ⟨u4, e4, o4⟩ := H.out.w4.fp (he ⟨19, .data⟩ (by simp) rfl)
        obtain ⟨A4, k4, rfl, _⟩ := o4.slice_
        unfold Oper.wp execOp
        go_simp
        show OwnI d _ _ _ _ _ _ _ _ W0 w (mark f 20) (a.put (some 23) _) _
        refine ⟨fun _ => ?_, fun h => absurd (((mark_ne (f := f) (i := 20) (j := 21) (by decide)).symm.trans h).symm.trans h21) (by decide)⟩
        exact { size := put_size.trans H.out.size, dfr := H.out.dfr, t1 := (put_other (by decide)).trans H.out.t1, t2 := (put_other (by decide)).trans H.out.t2, bel := H.out.bel.trans ((Below.refl W.heap.size W).mono hbs), w0 := H.out.w0.other (by decide) (by decide) (Below.refl W.heap.size W), w1 := H.out.w1.other (by decide) (by decide) (Below.refl W.heap.size W), w2 := H.out.w2.other (by decide) (by decide) (Below.refl W.heap.size W), w3 := H.out.w3.other (by decide) (by decide) (Below.refl W.heap.size W), w4 := H.out.w4.other (by decide) (by decide) (Below.refl W.heap.size W), bd := fun _ => ⟨_, _, _, _, _, put_same (by rw [H.out.size]; decide), o0, o1, o2, o3, o4⟩ }
      · obtain rfl := Option.some.inj (show some _ = some o from ho)
        refine wpOp_plain rfl rfl ?_
        obtain ⟨u0, u1, u2, u3, u4, e5, o0, o1, o2, o3, o4⟩ := H.out.bd (he ⟨20, .data⟩ (by simp) rfl)
        obtain ⟨A0, k0, rfl, _⟩ := o0.slice_
        obtain ⟨A1, k1, rfl, _⟩ := o1.slice_
        obtain ⟨A2, k2, rfl, _⟩ := o2.slice_
        obtain ⟨A3, k3, rfl, _⟩ := o3.slice_
        obtain ⟨A4, k4, rfl, _⟩ := o4.slice_
        have c0 := (H.out.bel.cell (p := ⟨w.heap.size + 1, 0, none⟩) (by rw [S3.out]; simp)).trans Y.out.1
        have c1 := (H.out.bel.cell (p := ⟨w.heap.size + 1, 1, none⟩) (by rw [S3.out]; simp)).trans Y.out.2.1
        have c2 := (H.out.bel.cell (p := ⟨w.heap.size + 1, 2, none⟩) (by rw [S3.out]; simp)).trans Y.out.2.2.1
        have c3 := (H.out.bel.cell (p := ⟨w.heap.size + 1, 3, none⟩) (by rw [S3.out]; simp)).trans Y.out.2.2.2.1
        have c4 := (H.out.bel.cell (p := ⟨w.heap.size + 1, 4, none⟩) (by rw [S3.out]; simp)).trans Y.out.2.2.2.2.1
        have fz : ∀ o, W.frozen? ⟨w.heap.size + 1, o, none⟩ = false := fun o => (H.out.bel.frozen (p := ⟨w.heap.size + 1, o, none⟩) (by rw [S3.out]; simp)).trans (Y.out.2.2.2.2.2 o)
        have e1 := H.out.t2
        have r0 := (strip_kU (ok' := fun _ => False) o0).rd (ok' := fun k => W0.heap.size ≤ k) (fun _ h => h.elim) (fun _ h => h)
        have r1 := (strip_kS (ok' := fun _ => False) o1).rd (ok' := fun k => W0.heap.size ≤ k) (fun _ h => h.elim) (fun _ h => h)
        have r2 := (strip_kS (ok' := fun _ => False) o2).rd (ok' := fun k => W0.heap.size ≤ k) (fun _ h => h.elim) (fun _ h => h)
        have r3 := (strip_kI (ok' := fun _ => False) o3).rd (ok' := fun k => W0.heap.size ≤ k) (fun _ h => h.elim) (fun _ h => h)
        have r4 := (strip_kS (ok' := fun _ => False) o4).rd (ok' := fun k => W0.heap.size ≤ k) (fun _ h => h.elim) (fun _ h => h)
        have BW := BX.out.trans (H.out.bel.mono BX.out.size)
        have dfr := H.out.dfr
        have hne : ∀ k, W0.heap.size ≤ k → k ≠ w.heap.size + 1 := fun k hk => by have := S3.out; omega
        have hle : ∀ k, W0.heap.size ≤ k → w.heap.size ≤ k := fun k hk => by have := S3.out; omega
        have fz0 := fz 0
        have fz1 := fz 1
        have fz2 := fz 2
        have fz3 := fz 3
        have fz4 := fz 4
        clear H he hf h21 ho hi
        unfold Oper.wp execOp
        go_simp
        show OwnI d _ _ _ _ _ _ _ _ W0 w (mark f 21) a (((((W.setCell ⟨w.heap.size + 1, 0, none⟩ _).setCell ⟨w.heap.size + 1, 1, none⟩ _).setCell ⟨w.heap.size + 1, 2, none⟩ _).setCell ⟨w.heap.size + 1, 3, none⟩ _).setCell ⟨w.heap.size + 1, 4, none⟩ _)
        refine ⟨fun h => absurd ((show mark f 21 21 = true from (by unfold mark; simp)).symm.trans h) (by decide), fun _ => ?_⟩
        refine { dfr := dfr, t2 := e1, bel := ?_, res := ⟨_, _, _, _, _, ⟨_, _, _, _, _, rfl, (r0.step pU ?_).mono hle, (r1.step pS ?_).mono hle, (r2.step pS ?_).mono hle, (r3.step pI ?_).mono hle, (r4.step pS ?_).mono hle⟩, ?_, ?_, ?_, ?_, ?_⟩ }
        · repeat refine Below.setCell ?_ (Nat.le_succ _) _
          exact BW
        iterate 5 · exact fun k hk _ => off5 _ _ _ _ _ _ _ k (hne k hk)
        all_goals go_simp
  · rename_i K hK
    intro f a W hall hI
    have hE := Aside0.mk (hI.2 (hall 21 (by decide)))
    clear hall hI
    have t2 := hE.out.t2
    have df := hE.out.dfr
    obtain ⟨u0, u1, u2, u3, u4, hk, c0, c1, c2, c3, c4⟩ := hE.out.res
    have HKK := Aside0.mk hk
    clear hk
    refine hK a W ?_
    go_wp2
    refine bodyPost_ret (v := .agg #[u0, u1, u2, u3, u4]) (by rw [results_cell rfl]; go_simp) df ⟨[_, _, _, _, _], rfl, HKK.out, hE.out.bel⟩
end Go.Proofs.Ytkbjbkmaokebgaa.Gz

import Derived.Test.YtkbjbkmaokebgaaOwnR
import Derived.Deep.MidRow
set_option linter.unusedVariables false
set_option linter.unusedSimpArgs false
namespace Go.Proofs.Ytkbjbkmaokebgaa.Gz
open Go.RowKit Go.Proofs.YtkbjbkmaokebgaaW.PrintWords
open Ki
/-! Ranges of cells. -/
theorem range_below {n : Nat} {w w' : World} (hb : Below n w w') {b o : Nat} {cs : List Value} (hn : b < n) (h : w.rangeAt b o cs) : w'.rangeAt b o cs := fun j v hv => (hb.cell (p := ⟨b, o + j, none⟩) hn).trans (h j v hv)
theorem there_below {n : Nat} {w w' : World} (hb : Below n w w') {b o m : Nat} (hn : b < n) (h : w.there b o m) : w'.there b o m := fun j hj => ⟨by rw [hb.cell (p := ⟨b, o + j, none⟩) hn]; exact (h j hj).1, by rw [hb.frozen (p := ⟨b, o + j, none⟩) hn]; exact (h j hj).2⟩
theorem there_but {n M : Nat} {w w' : World} (hb : But n M w w') {b o m : Nat} (hn : b < n) (hm : b ≠ M) (h : w.there b o m) : w'.there b o m := fun j hj => ⟨by rw [hb.cell hn hm]; exact (h j hj).1, by rw [hb.frozen hn hm]; exact (h j hj).2⟩
theorem range_set {w : World} {b : Nat} {cs : List Value} (h : w.rangeAt b 0 cs) (j : Nat) (v : Value) : (w.setCell ⟨b, j, none⟩ v).rangeAt b 0 (cs.set j v) := fun i u hu => by
  rw [Nat.zero_add]
  rw [List.getElem?_set] at hu
  by_cases e : j = i
  · subst e
    rw [if_pos rfl] at hu
    by_cases hl : j < cs.length
    · rw [if_pos hl] at hu
      obtain rfl : v = u := by injection hu
      have h1 := h j _ (List.getElem?_eq_getElem hl)
      rw [Nat.zero_add] at h1
      exact set_same h1
    · rw [if_neg hl] at hu; cases hu
  · rw [if_neg e] at hu
    have h1 := h i u hu
    rw [Nat.zero_add] at h1
    rw [set_other (fun e2 => e (by injection e2))]
    exact h1
theorem there_set {w : World} {b o m : Nat} (h : w.there b o m) {p : Addr} (v : Value) (hp : p.block ≠ b) : (w.setCell p v).there b o m := fun j hj => by
  refine ⟨?_, by rw [World.frozen?_setCell]; exact (h j hj).2⟩
  rw [set_other (fun e => hp (by rw [e]))]
  exact (h j hj).1
theorem heap_setCells {b : Nat} (vs : List Value) : ∀ (o : Nat) (w : World) (k : Nat), k ≠ b → (w.setCells b o vs).heap[k]? = w.heap[k]? := by
  induction vs with
  | nil => intro o w k hk; rfl
  | cons v vs ih =>
    intro o w k hk
    show ((w.setCell ⟨b, o, none⟩ v).setCells b (o + 1) vs).heap[k]? = _
    rw [ih _ _ _ hk]
    exact Below.heap_setCell w ⟨b, o, none⟩ v k hk
theorem below_setCells {n b : Nat} {w : World} (vs : List Value) : ∀ (o : Nat) (w' : World), Below n w w' → n ≤ b → Below n w (w'.setCells b o vs) := by
  induction vs with
  | nil => intro o w' h _; exact h
  | cons v vs ih => intro o w' h hb; exact ih _ _ (h.setCell (p := ⟨b, o, none⟩) hb v) hb
theorem results_mid {fn : Func} {p : Tmp} {ty : TypeId} {P : Program} (h : fn.results = #[.cell p ty]) (tmps : Array Value) (w : World) (b : Nat) (cs : List Value) (d : TypeDesc) (hp : tmps.getD p undef = .pointer (some ⟨b, 0, none⟩)) (hc : w.rangeAt b 0 cs)
    (hu : P.underlying ty = some d) (hd : d.isRow = true) (hi : (P.info? ty).map (·.size) = some cs.length) : (results fn tmps).run P w = .ok (.agg cs.toArray) w := by
  have := run_loadVar_mid (P := P) w b 0 ty cs d hc hu hd hi
  rw [results_cell h, hp]
  simp [asAddr, this, Result.andThen]
theorem r64_3 : R64 3 := by unfold R64; omega
theorem r64_5 : R64 5 := by unfold R64; omega
theorem fills_code {z : Zone} {kind : Int} {seen : List (List ByteArray)} {n : List ByteArray} {ans : List RR} {o : Out} (h : Fills z kind seen n ans o) : R64 o.rcode := by
  induction h with
  | cut => exact r64_0
  | hit => exact r64_0
  | none seen n ans hc hl h5 =>
    show R64 (if _ then 0 else 3)
    split
    · exact r64_0
    · exact r64_3
  | out => exact r64_0
  | go _ _ _ _ _ _ _ _ _ _ ih => exact ih
theorem infoM : (Try.prog.info? 35).map (·.size) = some 14 := by kernel_rfl
theorem range14 {w : World} {b : Nat} {u0 u1 u2 u3 u4 u5 u6 u7 u8 u9 u10 u11 u12 u13 : Value} (h0 : w.cell? ⟨b, 0, none⟩ = some u0) (h1 : w.cell? ⟨b, 1, none⟩ = some u1) (h2 : w.cell? ⟨b, 2, none⟩ = some u2) (h3 : w.cell? ⟨b, 3, none⟩ = some u3) (h4 : w.cell? ⟨b, 4, none⟩ = some u4) (h5 : w.cell? ⟨b, 5, none⟩ = some u5) (h6 : w.cell? ⟨b, 6, none⟩ = some u6) (h7 : w.cell? ⟨b, 7, none⟩ = some u7) (h8 : w.cell? ⟨b, 8, none⟩ = some u8) (h9 : w.cell? ⟨b, 9, none⟩ = some u9) (h10 : w.cell? ⟨b, 10, none⟩ = some u10) (h11 : w.cell? ⟨b, 11, none⟩ = some u11) (h12 : w.cell? ⟨b, 12, none⟩ = some u12) (h13 : w.cell? ⟨b, 13, none⟩ = some u13) :
    w.rangeAt b 0 [u0, u1, u2, u3, u4, u5, u6, u7, u8, u9, u10, u11, u12, u13] := fun j v hv => by
  rw [Nat.zero_add]
  match j, hv with
  | 0, hv => exact h0.trans hv
  | 1, hv => exact h1.trans hv
  | 2, hv => exact h2.trans hv
  | 3, hv => exact h3.trans hv
  | 4, hv => exact h4.trans hv
  | 5, hv => exact h5.trans hv
  | 6, hv => exact h6.trans hv
  | 7, hv => exact h7.trans hv
  | 8, hv => exact h8.trans hv
  | 9, hv => exact h9.trans hv
  | 10, hv => exact h10.trans hv
  | 11, hv => exact h11.trans hv
  | 12, hv => exact h12.trans hv
  | 13, hv => exact h13.trans hv
  | n + 14, hv => simp at hv
/-- Does a zone answer a question? -/
def zmay (z : Zone) (q : Qn) : Bool := zSound z && nSound q.name && nUnder q.name z.name && decide (q.cls = 1)
/-- What a zone's server answers. -/
def Answers (z : Zone) (q : Qn) (m : Msg) : Prop :=
  if zmay z q = true then ∃ o, Fills z q.typ [q.name] q.name [] o ∧ m = ⟨0, true, 0, o.aa, false, false, false, o.rcode, [q], o.ans, o.auth, o.extra, false, 0⟩
  else m = ⟨0, true, 0, false, false, false, false, 5, [q], [], [], [], false, 0⟩
set_option maxHeartbeats 16000000 in
set_option maxRecDepth 100000 in
theorem zans_calls (z : Zone) (cz : List Value) (q : Qn) (cq : List Value) (w : World) (hz : kZ.K w (fun _ => True) z cz) (hq : kQ.K w (fun _ => True) q cq) :
    Calls Try.prog 15 #[.agg cz.toArray, .agg cq.toArray] w (fun e w' => ∃ m, Answers z q m ∧ GivesK kM w m e w') := by
  have HZ := Aside0.mk hz
  obtain ⟨vn, vr, rfl, hn, hr⟩ := hz
  obtain ⟨vq, rfl, hqn, hqt, hqc⟩ := hq
  have HQN := Aside0.mk hqn
  have HZN := Aside0.mk hn
  obtain ⟨An, cn, rfl, hln, _⟩ := hn
  obtain ⟨Ar, cr, rfl, hlr, _⟩ := hr
  obtain ⟨Aq, cq', rfl, _, _⟩ := hqn
  generalize hW0 : ((w.alloc (.cells #[.slice An z.name.length cn, .slice Ar z.recs.length cr] 25)).alloc (.cells #[.slice Aq q.name.length cq', .int .i64 q.typ, .int .i64 q.cls] 27)).alloc (.cells #[.int .i64 0, .bool false, .int .i64 0, .bool false, .bool false, .bool false, .bool false, .int .i64 0, .slice none 0 0, .slice none 0 0, .slice none 0 0, .slice none 0 0, .bool false, .int .i64 0] 35) = W0
  have HW0 := Aside0.mk hW0
  have BX : Aside0 (Below w.heap.size w W0) := ⟨by rw [← hW0]; exact below_alloc (below_alloc (below_alloc (Below.refl _ _) _) _) _⟩
  have hs0 : W0.heap.size = w.heap.size + 3 := by rw [← hW0]; simp
  have y0 : W0.cell? ⟨w.heap.size, 0, none⟩ = some (.slice An z.name.length cn) := by rw [← hW0, cellA (by simp only [World.size_alloc]; omega), cellA (by simp only [World.size_alloc]; omega)]; simp
  have y1 : W0.cell? ⟨w.heap.size, 1, none⟩ = some (.slice Ar z.recs.length cr) := by rw [← hW0, cellA (by simp only [World.size_alloc]; omega), cellA (by simp only [World.size_alloc]; omega)]; simp
  have q0 : W0.cell? ⟨w.heap.size + 1, 0, none⟩ = some (.slice Aq q.name.length cq') := by rw [← hW0, cellA (by simp only [World.size_alloc]; omega), cellN (by simp only [World.size_alloc])]; rfl
  have q1 : W0.cell? ⟨w.heap.size + 1, 1, none⟩ = some (.int .i64 q.typ) := by rw [← hW0, cellA (by simp only [World.size_alloc]; omega), cellN (by simp only [World.size_alloc])]; rfl
  have q2 : W0.cell? ⟨w.heap.size + 1, 2, none⟩ = some (.int .i64 q.cls) := by rw [← hW0, cellA (by simp only [World.size_alloc]; omega), cellN (by simp only [World.size_alloc])]; rfl
  have qf : W0.frozen? ⟨w.heap.size + 1, 0, none⟩ = false := by rw [← hW0, frozenA (by simp only [World.size_alloc]; omega), frozenN (by simp only [World.size_alloc])]
  have RC : Aside0 (∀ o, W0.cell? ⟨w.heap.size + 2, o, none⟩ = (#[.int .i64 0, .bool false, .int .i64 0, .bool false, .bool false, .bool false, .bool false, .int .i64 0, .slice none 0 0, .slice none 0 0, .slice none 0 0, .slice none 0 0, .bool false, .int .i64 0] : Array Value)[o]?) := ⟨fun o => by rw [← hW0, cellN (by simp only [World.size_alloc])]⟩
  have RF : Aside0 (∀ o, W0.frozen? ⟨w.heap.size + 2, o, none⟩ = false) := ⟨fun o => by rw [← hW0, frozenN (by simp only [World.size_alloc])]⟩
  have HS0 := Aside0.mk hs0
  clear hW0 hs0
  go_enter Try.func15, Try.ntmps15
  go_wp2_with fail
  rw [HW0.out]
  refine (clone_s _ q.name W0 (HQN.out.below pS BX.out)).mono ?_
  rintro e w1 ⟨v1, rfl, ho1, hb1⟩
  have HO1 := Aside0.mk ho1
  have HB1 := Aside0.mk hb1
  obtain ⟨A1, k1, rfl, _⟩ := ho1.slice_
  obtain ⟨bc, bf⟩ := bcell hb1
  have hs1 : w.heap.size + 3 ≤ w1.heap.size := by have h1 := HB1.out.size; have h2 := HS0.out; omega
  have hq0 : w.heap.size + 1 < W0.heap.size := by have h2 := HS0.out; omega
  have hz0 : w.heap.size < W0.heap.size := by omega
  have hz1 : w.heap.size < w1.heap.size := by omega
  have hn1 : ¬ (w.heap.size = w1.heap.size) := by omega
  have hn2 : ¬ (w.heap.size = w1.heap.size + 1) := by omega
  have hn3 : ¬ (w.heap.size + 1 = w1.heap.size) := by omega
  have hn4 : ¬ (w.heap.size + 1 = w1.heap.size + 1) := by omega
  clear ho1 hb1
  go_wp2_with fail
  have HV1 : Aside0 (Below w.heap.size w (w1.setCell ⟨w.heap.size + 1, 0, none⟩ (.slice A1 q.name.length k1))) := ⟨(BX.out.trans (HB1.out.mono BX.out.size)).setCell (p := ⟨w.heap.size + 1, 0, none⟩) (Nat.le_succ _) _⟩
  generalize hW2 : ((w1.setCell ⟨w.heap.size + 1, 0, none⟩ (.slice A1 q.name.length k1)).alloc (.cells #[(.slice A1 q.name.length k1), .int .i64 q.typ, .int .i64 q.cls] 27)).alloc (.cells #[.int .i64 0, .bool true, .int .i64 0, .bool false, .bool false, .bool false, .bool false, .int .i64 0, .slice (some ⟨w1.heap.size, 0, none⟩) 1 1, .slice none 0 0, .slice none 0 0, .slice none 0 0, .bool false, .int .i64 0] 35) = W2
  have hs2 : W2.heap.size = w1.heap.size + 2 := by rw [← hW2]; simp
  have BW2 : Aside0 (Below w.heap.size w W2) := ⟨by rw [← hW2]; exact (HV1.out.trans ((below_alloc (below_alloc (Below.refl _ _) _) _).mono (HV1.out.size)))⟩
  have MC : Aside0 (∀ o, W2.cell? ⟨w1.heap.size + 1, o, none⟩ = (#[.int .i64 0, .bool true, .int .i64 0, .bool false, .bool false, .bool false, .bool false, .int .i64 0, .slice (some ⟨w1.heap.size, 0, none⟩) 1 1, .slice none 0 0, .slice none 0 0, .slice none 0 0, .bool false, .int .i64 0] : Array Value)[o]?) := ⟨fun o => by rw [← hW2, cellN (by simp only [World.size_alloc, World.size_setCell])]⟩
  have MF : Aside0 (∀ o, W2.frozen? ⟨w1.heap.size + 1, o, none⟩ = false) := ⟨fun o => by rw [← hW2, frozenN (by simp only [World.size_alloc, World.size_setCell])]⟩
  have ZC : Aside0 (W2.cell? ⟨w.heap.size, 0, none⟩ = some (.slice An z.name.length cn) ∧ W2.cell? ⟨w.heap.size, 1, none⟩ = some (.slice Ar z.recs.length cr)) := ⟨by
    have n0 : w.heap.size < (w1.setCell ⟨w.heap.size + 1, 0, none⟩ (.slice A1 q.name.length k1)).heap.size := by rw [World.size_setCell]; omega
    have c0 : ∀ o, W2.cell? ⟨w.heap.size, o, none⟩ = W0.cell? ⟨w.heap.size, o, none⟩ := fun o => by
      rw [← hW2, cellA (by simp only [World.size_alloc, World.size_setCell]; omega), cellA n0, ((Below.refl (w.heap.size + 1) w1).setCell (p := ⟨w.heap.size + 1, 0, none⟩) (Nat.le_refl _) _).cell (p := ⟨w.heap.size, o, none⟩) (Nat.lt_succ_self _), HB1.out.cell (p := ⟨w.heap.size, o, none⟩) hz0]
    exact ⟨(c0 0).trans y0, (c0 1).trans y1⟩⟩
  have QC : Aside0 (W2.cell? ⟨w.heap.size + 1, 0, none⟩ = some (.slice A1 q.name.length k1) ∧ W2.cell? ⟨w.heap.size + 1, 1, none⟩ = some (.int .i64 q.typ) ∧ W2.cell? ⟨w.heap.size + 1, 2, none⟩ = some (.int .i64 q.cls)) := ⟨by
    have n0 : w.heap.size + 1 < (w1.setCell ⟨w.heap.size + 1, 0, none⟩ (.slice A1 q.name.length k1)).heap.size := by rw [World.size_setCell]; omega
    have c0 : ∀ o, W2.cell? ⟨w.heap.size + 1, o, none⟩ = (w1.setCell ⟨w.heap.size + 1, 0, none⟩ (.slice A1 q.name.length k1)).cell? ⟨w.heap.size + 1, o, none⟩ := fun o => by
      rw [← hW2, cellA (by simp only [World.size_alloc, World.size_setCell]; omega), cellA n0]
    have d0 := (bc (w.heap.size + 1) 0 hq0).trans q0
    have d1 := (bc (w.heap.size + 1) 1 hq0).trans q1
    have d2 := (bc (w.heap.size + 1) 2 hq0).trans q2
    exact ⟨(c0 0).trans (set_same d0), (c0 1).trans ((set_other (addr_ne (M := w.heap.size + 1) (by decide))).trans d1), (c0 2).trans ((set_other (addr_ne (M := w.heap.size + 1) (by decide))).trans d2)⟩⟩
  have RT : Aside0 (W2.there (w.heap.size + 2) 0 14) := ⟨by
    have n0 : w.heap.size + 2 < (w1.setCell ⟨w.heap.size + 1, 0, none⟩ (.slice A1 q.name.length k1)).heap.size := by rw [World.size_setCell]; omega
    have hr2 : w.heap.size + 2 < W0.heap.size := by have := HS0.out; omega
    have c0 : ∀ o, W2.cell? ⟨w.heap.size + 2, o, none⟩ = W0.cell? ⟨w.heap.size + 2, o, none⟩ := fun o => by
      rw [← hW2, cellA (by simp only [World.size_alloc, World.size_setCell]; omega), cellA n0, set_other (addr_neb (by omega)), HB1.out.cell (p := ⟨w.heap.size + 2, o, none⟩) hr2]
    have d0 : ∀ o, W2.frozen? ⟨w.heap.size + 2, o, none⟩ = W0.frozen? ⟨w.heap.size + 2, o, none⟩ := fun o => by
      rw [← hW2, frozenA (by simp only [World.size_alloc, World.size_setCell]; omega), frozenA n0, World.frozen?_setCell, HB1.out.frozen (p := ⟨w.heap.size + 2, o, none⟩) hr2]
    intro j hj
    rw [Nat.zero_add, c0, d0, RC.out, RF.out]
    refine ⟨?_, rfl⟩
    rw [Array.getElem?_eq_getElem (by simpa using hj)]
    rfl⟩
  have HN2 : Aside0 (kS.Rd W2 (fun k => w.heap.size + 3 ≤ k ∧ k < w1.heap.size) (.slice A1 q.name.length k1) q.name) := ⟨by
    have r1 := (HO1.out.rd (ok' := fun k => W0.heap.size ≤ k) (fun _ h => h.elim) (fun _ h => h)).low pS
    have r2 := rd_set (M := w.heap.size + 1) pS r1 (fun k hk => by have := HS0.out; omega) 0 (.slice A1 q.name.length k1)
    have r3 := r2.mono (ok' := fun k => w.heap.size + 3 ≤ k ∧ k < w1.heap.size) (fun k hk => by have := HS0.out; omega)
    rw [← hW2]
    exact r3.below pS (below_alloc (below_alloc (Below.refl _ _) _) _)⟩
  have HK2 : Aside0 (kQ.K W2 (fun k => w.heap.size + 3 ≤ k ∧ k < w1.heap.size) q [.slice A1 q.name.length k1, .int .i64 q.typ, .int .i64 q.cls]) := ⟨⟨_, rfl, HN2.out, hqt, hqc⟩⟩
  have QS : Aside0 (kQ.Rd W2 (fun k => w.heap.size + 3 ≤ k ∧ k ≠ w1.heap.size + 1) (.slice (some ⟨w1.heap.size, 0, none⟩) 1 1) [q]) := ⟨by
    have r1 := (HO1.out.rd (ok' := fun k => W0.heap.size ≤ k) (fun _ h => h.elim) (fun _ h => h)).low pS
    have r2 := rd_set (M := w.heap.size + 1) pS r1 (fun k hk => by have := HS0.out; omega) 0 (.slice A1 q.name.length k1)
    have r3 := r2.mono (ok' := fun k => w.heap.size + 3 ≤ k ∧ k ≠ w1.heap.size + 1) (fun k hk => by have := HS0.out; omega)
    rw [← hW2]
    have hsz : (w1.setCell ⟨w.heap.size + 1, 0, none⟩ (.slice A1 q.name.length k1)).heap.size = w1.heap.size := World.size_setCell _ _ _
    have b1 := rd_box (d := kQ) (e := 27) (p := q) (cs := [.slice A1 q.name.length k1, .int .i64 q.typ, .int .i64 q.cls]) (w := w1.setCell ⟨w.heap.size + 1, 0, none⟩ (.slice A1 q.name.length k1)) (ok := fun k => w.heap.size + 3 ≤ k) ⟨_, rfl, r2.mono (fun k hk => by have := HS0.out; omega), hqt, hqc⟩ (by decide) (fun k hk => by omega)
    rw [hsz] at b1
    refine ((b1.low pQ).mono (fun k hk => ⟨hk.1, ?_⟩)).below pQ (below_alloc (Below.refl _ _) _)
    have h2 := hk.2
    simp only [World.size_alloc, hsz] at h2
    omega⟩
  have hR : w.heap.size + 2 < W2.heap.size := by omega
  have hM : w1.heap.size + 1 < W2.heap.size := by omega
  have hZ : w.heap.size < W2.heap.size := by omega
  have hQ : w.heap.size + 1 < W2.heap.size := by omega
  have hMR : (⟨w1.heap.size + 1, 7, none⟩ : Addr).block ≠ w.heap.size + 2 := by show w1.heap.size + 1 ≠ w.heap.size + 2; omega
  have hMw : w.heap.size ≤ (⟨w1.heap.size + 1, 7, none⟩ : Addr).block := by show w.heap.size ≤ w1.heap.size + 1; omega
  have MR2 : Aside0 (W2.rangeAt (w1.heap.size + 1) 0 [.int .i64 0, .bool true, .int .i64 0, .bool false, .bool false, .bool false, .bool false, .int .i64 0, .slice (some ⟨w1.heap.size, 0, none⟩) 1 1, .slice none 0 0, .slice none 0 0, .slice none 0 0, .bool false, .int .i64 0]) := ⟨fun j v hv => by rw [Nat.zero_add, MC.out]; simpa using hv⟩
  have HKZ := Aside0.mk (fun W (hb : Below w.heap.size w W) => K_below HZ.out hb)
  have HKN := Aside0.mk (fun W (hb : Below w.heap.size w W) => HZN.out.below pS hb)
  have z0 := ZC.out.1
  have z1 := ZC.out.2
  have qc0 := QC.out.1
  have qc1 := QC.out.2.1
  have qc2 := QC.out.2.2
  have HS2 := Aside0.mk hs2
  have HS1 := Aside0.mk hs1
  clear hW2 hs2 hs1 y0 y1 q0 q1 q2 qf bc bf hq0 hz0 hz1 hn1 hn2 hn3 hn4
  cases s1 : zSound z with
  | false =>
    have HR : Aside0 (zmay z q = false) := ⟨by unfold zmay; rw [s1]; rfl⟩
    have S1 := Aside0.mk s1
    clear s1
    refine (bv (zsound_calls z _ W2 (HKZ.out W2 BW2.out)) S1.out).mono ?_
    rintro e w3 ⟨rfl, hb3⟩
    have HB3 := Aside0.mk hb3
    obtain ⟨bc, bf⟩ := bcell hb3
    clear hb3
    have m7 : W2.cell? ⟨w1.heap.size + 1, 7, none⟩ = some (.int .i64 0) := MC.out 7
    have f7 : W2.frozen? ⟨w1.heap.size + 1, 7, none⟩ = false := MF.out 7
    have MR5 := Aside0.mk (range_set (range_below HB3.out hM MR2.out) 7 (.int .i64 5))
    have RR := Aside0.mk (there_set (there_below HB3.out hR RT.out) (p := ⟨w1.heap.size + 1, 7, none⟩) (.int .i64 5) hMR)
    have QF := Aside0.mk (QS.out.below pQ HB3.out)
    have BF := Aside0.mk ((BW2.out.trans (HB3.out.mono BW2.out.size)).setCell (p := ⟨w1.heap.size + 1, 7, none⟩) hMw (.int .i64 5))
    go_wp2_with (first | (refine wpList_load_mid rfl 35 (.tmp 5) rfl _ 0 rfl _ _ MR5.out Try.underlying35 rfl infoM ?_) | (refine wpList_store_mid rfl 35 (.tmp 4) (.tmp 36) rfl _ 0 _ rfl rfl RR.out infoM (by simp [Value.oneCell', Value.cells]) ?_))
    have hs2 := HS2.out
    have hs1 := HS1.out
    refine bodyPost_ret (v := .agg ([.int .i64 0, .bool true, .int .i64 0, .bool false, .bool false, .bool false, .bool false, .int .i64 5, .slice (some ⟨w1.heap.size, 0, none⟩) 1 1, .slice none 0 0, .slice none 0 0, .slice none 0 0, .bool false, .int .i64 0] : List Value).toArray) (results_mid rfl _ _ _ [.int .i64 0, .bool true, .int .i64 0, .bool false, .bool false, .bool false, .bool false, .int .i64 5, .slice (some ⟨w1.heap.size, 0, none⟩) 1 1, .slice none 0 0, .slice none 0 0, .slice none 0 0, .bool false, .int .i64 0] _ rfl (World.rangeAt_setCells_same _ _ _ _ RR.out) Try.underlying35 rfl (by exact infoM)) rfl ⟨⟨0, true, 0, false, false, false, false, 5, [q], [], [], [], false, 0⟩, by unfold Answers; rw [if_neg (by rw [HR.out]; simp)], [_, _, _, _, _, _, _, _, _, _, _, _, _, _], rfl, ⟨_, _, _, _, rfl, r64_0, r64_0, r64_5, (QF.out.step pQ (fun k hk _ => by rw [heap_setCells _ _ _ _ (by omega), Below.heap_setCell _ _ _ _ hk.2])).mono (fun k hk => by omega), Rd.nil _ _ _, Rd.nil _ _ _, Rd.nil _ _ _, r64_0⟩, below_setCells _ _ _ BF.out (by omega)⟩
  | true =>
    have S1 := Aside0.mk s1
    clear s1
    refine (bv (zsound_calls z _ W2 (HKZ.out W2 BW2.out)) S1.out).mono ?_
    rintro e w3 ⟨rfl, hb3⟩
    have HB3 := Aside0.mk hb3
    obtain ⟨bc, bf⟩ := bcell hb3
    clear hb3
    go_wp2_with fail
    cases s2 : nSound q.name with
    | false =>
      have HR : Aside0 (zmay z q = false) := ⟨by unfold zmay; rw [s2]; simp⟩
      have S2 := Aside0.mk s2
      clear s2
      refine (bv (sound_calls _ q.name _ (HN2.out.below pS HB3.out).any) S2.out).mono ?_
      rintro e w4 ⟨rfl, hb4⟩
      have HB4 := Aside0.mk (HB3.out.trans (hb4.mono HB3.out.size))
      clear hb4 bc bf
      obtain ⟨bc, bf⟩ := bcell HB4.out
      have m7 : W2.cell? ⟨w1.heap.size + 1, 7, none⟩ = some (.int .i64 0) := MC.out 7
      have f7 : W2.frozen? ⟨w1.heap.size + 1, 7, none⟩ = false := MF.out 7
      have MR5 := Aside0.mk (range_set (range_below HB4.out hM MR2.out) 7 (.int .i64 5))
      have RR := Aside0.mk (there_set (there_below HB4.out hR RT.out) (p := ⟨w1.heap.size + 1, 7, none⟩) (.int .i64 5) hMR)
      have QF := Aside0.mk (QS.out.below pQ HB4.out)
      have BF := Aside0.mk ((BW2.out.trans (HB4.out.mono BW2.out.size)).setCell (p := ⟨w1.heap.size + 1, 7, none⟩) hMw (.int .i64 5))
      go_wp2_with (first | (refine wpList_load_mid rfl 35 (.tmp 5) rfl _ 0 rfl _ _ MR5.out Try.underlying35 rfl infoM ?_) | (refine wpList_store_mid rfl 35 (.tmp 4) (.tmp 36) rfl _ 0 _ rfl rfl RR.out infoM (by simp [Value.oneCell', Value.cells]) ?_))
      have hs2 := HS2.out
      have hs1 := HS1.out
      refine bodyPost_ret (v := .agg ([.int .i64 0, .bool true, .int .i64 0, .bool false, .bool false, .bool false, .bool false, .int .i64 5, .slice (some ⟨w1.heap.size, 0, none⟩) 1 1, .slice none 0 0, .slice none 0 0, .slice none 0 0, .bool false, .int .i64 0] : List Value).toArray) (results_mid rfl _ _ _ [.int .i64 0, .bool true, .int .i64 0, .bool false, .bool false, .bool false, .bool false, .int .i64 5, .slice (some ⟨w1.heap.size, 0, none⟩) 1 1, .slice none 0 0, .slice none 0 0, .slice none 0 0, .bool false, .int .i64 0] _ rfl (World.rangeAt_setCells_same _ _ _ _ RR.out) Try.underlying35 rfl (by exact infoM)) rfl ⟨⟨0, true, 0, false, false, false, false, 5, [q], [], [], [], false, 0⟩, by unfold Answers; rw [if_neg (by rw [HR.out]; simp)], [_, _, _, _, _, _, _, _, _, _, _, _, _, _], rfl, ⟨_, _, _, _, rfl, r64_0, r64_0, r64_5, (QF.out.step pQ (fun k hk _ => by rw [heap_setCells _ _ _ _ (by omega), Below.heap_setCell _ _ _ _ hk.2])).mono (fun k hk => by omega), Rd.nil _ _ _, Rd.nil _ _ _, Rd.nil _ _ _, r64_0⟩, below_setCells _ _ _ BF.out (by omega)⟩
    | true =>
      have S2 := Aside0.mk s2
      clear s2
      refine (bv (sound_calls _ q.name _ (HN2.out.below pS HB3.out).any) S2.out).mono ?_
      rintro e w4 ⟨rfl, hb4⟩
      have HB4 := Aside0.mk (HB3.out.trans (hb4.mono HB3.out.size))
      clear hb4 bc bf
      obtain ⟨bc, bf⟩ := bcell HB4.out
      go_wp2_with fail
      cases s3 : nUnder q.name z.name with
      | false =>
        have HR : Aside0 (zmay z q = false) := ⟨by unfold zmay; rw [s3]; simp⟩
        have S3 := Aside0.mk s3
        clear s3
        refine (bv (under_calls _ _ q.name z.name _ (HN2.out.below pS HB4.out).any (HKN.out _ (BW2.out.trans (HB4.out.mono BW2.out.size)))) S3.out).mono ?_
        rintro e w5 ⟨rfl, hb5⟩
        have HB5 := Aside0.mk (HB4.out.trans (hb5.mono HB4.out.size))
        clear hb5 bc bf
        obtain ⟨bc, bf⟩ := bcell HB5.out
        have m7 : W2.cell? ⟨w1.heap.size + 1, 7, none⟩ = some (.int .i64 0) := MC.out 7
        have f7 : W2.frozen? ⟨w1.heap.size + 1, 7, none⟩ = false := MF.out 7
        have MR5 := Aside0.mk (range_set (range_below HB5.out hM MR2.out) 7 (.int .i64 5))
        have RR := Aside0.mk (there_set (there_below HB5.out hR RT.out) (p := ⟨w1.heap.size + 1, 7, none⟩) (.int .i64 5) hMR)
        have QF := Aside0.mk (QS.out.below pQ HB5.out)
        have BF := Aside0.mk ((BW2.out.trans (HB5.out.mono BW2.out.size)).setCell (p := ⟨w1.heap.size + 1, 7, none⟩) hMw (.int .i64 5))
        go_wp2_with (first | (refine wpList_load_mid rfl 35 (.tmp 5) rfl _ 0 rfl _ _ MR5.out Try.underlying35 rfl infoM ?_) | (refine wpList_store_mid rfl 35 (.tmp 4) (.tmp 36) rfl _ 0 _ rfl rfl RR.out infoM (by simp [Value.oneCell', Value.cells]) ?_))
        have hs2 := HS2.out
        have hs1 := HS1.out
        refine bodyPost_ret (v := .agg ([.int .i64 0, .bool true, .int .i64 0, .bool false, .bool false, .bool false, .bool false, .int .i64 5, .slice (some ⟨w1.heap.size, 0, none⟩) 1 1, .slice none 0 0, .slice none 0 0, .slice none 0 0, .bool false, .int .i64 0] : List Value).toArray) (results_mid rfl _ _ _ [.int .i64 0, .bool true, .int .i64 0, .bool false, .bool false, .bool false, .bool false, .int .i64 5, .slice (some ⟨w1.heap.size, 0, none⟩) 1 1, .slice none 0 0, .slice none 0 0, .slice none 0 0, .bool false, .int .i64 0] _ rfl (World.rangeAt_setCells_same _ _ _ _ RR.out) Try.underlying35 rfl (by exact infoM)) rfl ⟨⟨0, true, 0, false, false, false, false, 5, [q], [], [], [], false, 0⟩, by unfold Answers; rw [if_neg (by rw [HR.out]; simp)], [_, _, _, _, _, _, _, _, _, _, _, _, _, _], rfl, ⟨_, _, _, _, rfl, r64_0, r64_0, r64_5, (QF.out.step pQ (fun k hk _ => by rw [heap_setCells _ _ _ _ (by omega), Below.heap_setCell _ _ _ _ hk.2])).mono (fun k hk => by omega), Rd.nil _ _ _, Rd.nil _ _ _, Rd.nil _ _ _, r64_0⟩, below_setCells _ _ _ BF.out (by omega)⟩
      | true =>
        have S3 := Aside0.mk s3
        clear s3
        refine (bv (under_calls _ _ q.name z.name _ (HN2.out.below pS HB4.out).any (HKN.out _ (BW2.out.trans (HB4.out.mono BW2.out.size)))) S3.out).mono ?_
        rintro e w5 ⟨rfl, hb5⟩
        have HB5 := Aside0.mk (HB4.out.trans (hb5.mono HB4.out.size))
        clear hb5 bc bf
        obtain ⟨bc, bf⟩ := bcell HB5.out
        by_cases s4 : q.cls = 1
        rotate_left
        · have f4 : (q.cls != 1) = true := bne_iff_ne.mpr s4
          have HR : Aside0 (zmay z q = false) := ⟨by unfold zmay; rw [decide_eq_false s4]; simp⟩
          clear s4
          have m7 : W2.cell? ⟨w1.heap.size + 1, 7, none⟩ = some (.int .i64 0) := MC.out 7
          have f7 : W2.frozen? ⟨w1.heap.size + 1, 7, none⟩ = false := MF.out 7
          have MR5 := Aside0.mk (range_set (range_below HB5.out hM MR2.out) 7 (.int .i64 5))
          have RR := Aside0.mk (there_set (there_below HB5.out hR RT.out) (p := ⟨w1.heap.size + 1, 7, none⟩) (.int .i64 5) hMR)
          have QF := Aside0.mk (QS.out.below pQ HB5.out)
          have BF := Aside0.mk ((BW2.out.trans (HB5.out.mono BW2.out.size)).setCell (p := ⟨w1.heap.size + 1, 7, none⟩) hMw (.int .i64 5))
          go_wp2_with (first | (refine wpList_load_mid rfl 35 (.tmp 5) rfl _ 0 rfl _ _ MR5.out Try.underlying35 rfl infoM ?_) | (refine wpList_store_mid rfl 35 (.tmp 4) (.tmp 36) rfl _ 0 _ rfl rfl RR.out infoM (by simp [Value.oneCell', Value.cells]) ?_))
          have hs2 := HS2.out
          have hs1 := HS1.out
          refine bodyPost_ret (v := .agg ([.int .i64 0, .bool true, .int .i64 0, .bool false, .bool false, .bool false, .bool false, .int .i64 5, .slice (some ⟨w1.heap.size, 0, none⟩) 1 1, .slice none 0 0, .slice none 0 0, .slice none 0 0, .bool false, .int .i64 0] : List Value).toArray) (results_mid rfl _ _ _ [.int .i64 0, .bool true, .int .i64 0, .bool false, .bool false, .bool false, .bool false, .int .i64 5, .slice (some ⟨w1.heap.size, 0, none⟩) 1 1, .slice none 0 0, .slice none 0 0, .slice none 0 0, .bool false, .int .i64 0] _ rfl (World.rangeAt_setCells_same _ _ _ _ RR.out) Try.underlying35 rfl (by exact infoM)) rfl ⟨⟨0, true, 0, false, false, false, false, 5, [q], [], [], [], false, 0⟩, by unfold Answers; rw [if_neg (by rw [HR.out]; simp)], [_, _, _, _, _, _, _, _, _, _, _, _, _, _], rfl, ⟨_, _, _, _, rfl, r64_0, r64_0, r64_5, (QF.out.step pQ (fun k hk _ => by rw [heap_setCells _ _ _ _ (by omega), Below.heap_setCell _ _ _ _ hk.2])).mono (fun k hk => by omega), Rd.nil _ _ _, Rd.nil _ _ _, Rd.nil _ _ _, r64_0⟩, below_setCells _ _ _ BF.out (by omega)⟩
        have f4 : (q.cls != 1) = false := bne_eq_false_iff_eq.mpr s4
        have HR : Aside0 (zmay z q = true) := ⟨by unfold zmay; rw [S1.out, S2.out, S3.out, decide_eq_true s4]; rfl⟩
        clear s4
        have W6B : Aside0 (Below w.heap.size w (w5.setCell ⟨w1.heap.size + 1, 3, none⟩ (.bool true))) := ⟨(BW2.out.trans (HB5.out.mono BW2.out.size)).setCell (p := ⟨w1.heap.size + 1, 3, none⟩) (by show w.heap.size ≤ w1.heap.size + 1; have := HS1.out; omega) _⟩
        have M3 : Aside0 (w5.cell? ⟨w1.heap.size + 1, 3, none⟩ = some (.bool false)) := ⟨(HB5.out.cell (p := ⟨w1.heap.size + 1, 3, none⟩) hM).trans (MC.out 3)⟩
        have m3 : W2.cell? ⟨w1.heap.size + 1, 3, none⟩ = some (.bool false) := MC.out 3
        have f3 : W2.frozen? ⟨w1.heap.size + 1, 3, none⟩ = false := MF.out 3
        have c9 : Aside0 (∀ o, o ≠ 3 → (w5.setCell ⟨w1.heap.size + 1, 3, none⟩ (.bool true)).cell? ⟨w1.heap.size + 1, o, none⟩ = (#[.int .i64 0, .bool true, .int .i64 0, .bool false, .bool false, .bool false, .bool false, .int .i64 0, .slice (some ⟨w1.heap.size, 0, none⟩) 1 1, .slice none 0 0, .slice none 0 0, .slice none 0 0, .bool false, .int .i64 0] : Array Value)[o]?) := ⟨fun o ho => (set_other (addr_ne (M := w1.heap.size + 1) (Ne.symm ho))).trans ((HB5.out.cell (p := ⟨w1.heap.size + 1, o, none⟩) hM).trans (MC.out o))⟩
        have d9 : Aside0 (∀ o, (w5.setCell ⟨w1.heap.size + 1, 3, none⟩ (.bool true)).frozen? ⟨w1.heap.size + 1, o, none⟩ = false) := ⟨fun o => (World.frozen?_setCell _ _ _ _).trans ((HB5.out.frozen (p := ⟨w1.heap.size + 1, o, none⟩) hM).trans (MF.out o))⟩
        have ZK : Aside0 (kZ.K (w5.setCell ⟨w1.heap.size + 1, 3, none⟩ (.bool true)) (fun k => k ≠ w1.heap.size + 1) z [.slice An z.name.length cn, .slice Ar z.recs.length cr]) := ⟨K_below (kZ.mono (fun k hk => by have h1 := hk.2; have h2 := HS1.out; omega) (kZ.low HZ.out)) W6B.out⟩
        have QK : Aside0 (kQ.K (w5.setCell ⟨w1.heap.size + 1, 3, none⟩ (.bool true)) (fun k => k ≠ w1.heap.size + 1) q [.slice A1 q.name.length k1, .int .i64 q.typ, .int .i64 q.cls]) := ⟨kQ.step (fun k hk _ => Below.heap_setCell w5 ⟨w1.heap.size + 1, 3, none⟩ _ k hk) (kQ.mono (fun k hk => by have h1 := hk.2; omega) (K_below HK2.out HB5.out))⟩
        have h256 : z.recs.length ≤ 256 := by
          have h := S1.out
          unfold zSound at h
          simp only [Bool.and_eq_true, decide_eq_true_eq] at h
          exact h.1.1.2
        have HF := Aside0.mk (fill_calls z _ q _ (w1.heap.size + 1) _ ZK.out QK.out (by rw [World.size_setCell]; exact Nat.lt_of_lt_of_le hM HB5.out.size) h256 (set_same M3.out) (c9.out 7 (by decide)) (c9.out 9 (by decide)) (c9.out 10 (by decide)) (c9.out 11 (by decide)) d9.out)
        have RR := Aside0.mk (there_set (there_below HB5.out hR RT.out) (p := ⟨w1.heap.size + 1, 3, none⟩) (.bool true) hMR)
        have QF := Aside0.mk ((QS.out.below pQ HB5.out).step pQ (w1 := w5.setCell ⟨w1.heap.size + 1, 3, none⟩ (.bool true)) (fun k hk _ => Below.heap_setCell w5 ⟨w1.heap.size + 1, 3, none⟩ _ k hk.2))
        have HR5 : w.heap.size + 2 < w5.heap.size := Nat.lt_of_lt_of_le hR HB5.out.size
        clear h256
        have hzq : ¬ (w1.heap.size + 1 = w.heap.size) := by have := HS1.out; omega
        have hzq2 : ¬ (w1.heap.size + 1 = w.heap.size + 1) := by have := HS1.out; omega
        go_wp2_with fail
        refine HF.out.mono ?_
        rintro e w6 ⟨o, va, vb, vc, rfl, hf, hbut, e3, e7, e9, r9, e10, r10, e11, r11, co, cf⟩
        have B6 := Aside0.mk hbut
        have MR6 := Aside0.mk (range14 ((co 0 (by decide) (by decide) (by decide) (by decide) (by decide)).trans (c9.out 0 (by decide))) ((co 1 (by decide) (by decide) (by decide) (by decide) (by decide)).trans (c9.out 1 (by decide))) ((co 2 (by decide) (by decide) (by decide) (by decide) (by decide)).trans (c9.out 2 (by decide))) e3 ((co 4 (by decide) (by decide) (by decide) (by decide) (by decide)).trans (c9.out 4 (by decide))) ((co 5 (by decide) (by decide) (by decide) (by decide) (by decide)).trans (c9.out 5 (by decide))) ((co 6 (by decide) (by decide) (by decide) (by decide) (by decide)).trans (c9.out 6 (by decide))) e7 ((co 8 (by decide) (by decide) (by decide) (by decide) (by decide)).trans (c9.out 8 (by decide))) e9 e10 e11 ((co 12 (by decide) (by decide) (by decide) (by decide) (by decide)).trans (c9.out 12 (by decide))) ((co 13 (by decide) (by decide) (by decide) (by decide) (by decide)).trans (c9.out 13 (by decide))))
        have RR6 := Aside0.mk (there_but B6.out (by rw [World.size_setCell]; exact HR5) (by have := HS1.out; omega) RR.out)
        have K9 := Aside0.mk r9
        have K10 := Aside0.mk r10
        have K11 := Aside0.mk r11
        have Q6 := Aside0.mk (B6.out.rd pQ QF.out (fun k hk => hk.2))
        have FF := Aside0.mk hf
        have OC := Aside0.mk (all_oneCell_toArray (kM.one (⟨_, _, _, _, rfl, r64_0, r64_0, fills_code hf, Q6.out.any, r9.any, r10.any, r11.any, r64_0⟩ : kM.K w6 (fun _ => True) ⟨0, true, 0, o.aa, false, false, false, o.rcode, [q], o.ans, o.auth, o.extra, false, 0⟩ [.int .i64 0, .bool true, .int .i64 0, .bool o.aa, .bool false, .bool false, .bool false, .int .i64 o.rcode, .slice (some ⟨w1.heap.size, 0, none⟩) 1 1, va, vb, vc, .bool false, .int .i64 0])))
        have BF := Aside0.mk (W6B.out.trans ((B6.out.mono (n' := w.heap.size) W6B.out.size).below (by have := HS1.out; omega) (Nat.le_refl _)))
        have hs1 := HS1.out
        clear hf hbut e3 e7 e9 r9 e10 r10 e11 r11 co cf bc bf m3 f3
        go_wp2_with (first | (refine wpList_load_mid rfl 35 (.tmp 5) rfl _ 0 rfl _ _ MR6.out Try.underlying35 rfl infoM ?_) | (refine wpList_store_mid rfl 35 (.tmp 4) (.tmp 41) rfl _ 0 _ rfl rfl RR6.out infoM OC.out ?_))
        refine bodyPost_ret (v := .agg ([.int .i64 0, .bool true, .int .i64 0, .bool o.aa, .bool false, .bool false, .bool false, .int .i64 o.rcode, .slice (some ⟨w1.heap.size, 0, none⟩) 1 1, va, vb, vc, .bool false, .int .i64 0] : List Value).toArray) (results_mid rfl _ _ _ [.int .i64 0, .bool true, .int .i64 0, .bool o.aa, .bool false, .bool false, .bool false, .int .i64 o.rcode, .slice (some ⟨w1.heap.size, 0, none⟩) 1 1, va, vb, vc, .bool false, .int .i64 0] _ rfl (World.rangeAt_setCells_same _ _ _ _ RR6.out) Try.underlying35 rfl (by exact infoM)) rfl ⟨⟨0, true, 0, o.aa, false, false, false, o.rcode, [q], o.ans, o.auth, o.extra, false, 0⟩, by unfold Answers; rw [if_pos HR.out]; exact ⟨o, FF.out, rfl⟩, [_, _, _, _, _, _, _, _, _, _, _, _, _, _], rfl, ⟨_, _, _, _, rfl, r64_0, r64_0, fills_code FF.out, (Q6.out.step pQ (fun k hk _ => heap_setCells _ _ _ _ (by omega))).mono (fun k hk => by omega), (K9.out.step pR (fun k hk _ => heap_setCells _ _ _ _ (by simp only [World.size_setCell] at hk; omega))).mono (fun k hk => by simp only [World.size_setCell] at hk; omega), (K10.out.step pR (fun k hk _ => heap_setCells _ _ _ _ (by simp only [World.size_setCell] at hk; omega))).mono (fun k hk => by simp only [World.size_setCell] at hk; omega), (K11.out.step pR (fun k hk _ => heap_setCells _ _ _ _ (by simp only [World.size_setCell] at hk; omega))).mono (fun k hk => by simp only [World.size_setCell] at hk; omega), r64_0⟩, below_setCells _ _ _ BF.out (by omega)⟩
end Go.Proofs.Ytkbjbkmaokebgaa.Gz

import Derived.Test.YtkbjbkmaokebgaaZsound
import Derived.Deep.RegionHeld3
set_option linter.unusedVariables false
set_option linter.unusedSimpArgs false
namespace Go.Proofs.Ytkbjbkmaokebgaa.Gz
open Go.RowKit Go.Proofs.YtkbjbkmaokebgaaW.PrintWords
open Ki
/-- What a region that calls and stores keeps: all under n is as it was in W0. -/
def Kept (n : Nat) (W0 w' : World) : Prop :=
  Below n W0 w' ∧ (∀ b o, b < n → w'.cell? ⟨b, o, none⟩ = W0.cell? ⟨b, o, none⟩) ∧ (∀ b o, b < n → w'.frozen? ⟨b, o, none⟩ = W0.frozen? ⟨b, o, none⟩)
theorem Kept.of {n : Nat} {W0 w' : World} (h : Below n W0 w') : Kept n W0 w' :=
  ⟨h, fun _ _ hb => h.cell (p := ⟨_, _, none⟩) hb, fun _ _ hb => h.frozen (p := ⟨_, _, none⟩) hb⟩
/-- What a cell holds. -/
def peek (w : World) (a : Addr) : Value := (w.cell? a).getD (.slice none 0 0)
theorem peek_some {w : World} {a : Addr} {u : Value} (h : w.cell? a = some u) : w.cell? a = some (peek w a) := by rw [peek, h]; rfl
theorem peek_same {w w' : World} {a : Addr} (h : w'.cell? a = w.cell? a) (k : w.cell? a = some (peek w a)) : w'.cell? a = some (peek w' a) := peek_some (h.trans k)
theorem peek_set {w : World} {p a : Addr} {v : Value} (k : w.cell? a = some (peek w a)) : (w.setCell p v).cell? a = some (peek (w.setCell p v) a) := by
  obtain ⟨u, hu⟩ := cell?_setCell_some (w := w) (p := p) (x := v) (q := a) k
  exact peek_some hu
theorem keepB5 {n m : Nat} {W0 W w1 : World} (hn : n < m) (hm : m ≤ W0.heap.size) (hb : Below W.heap.size W w1)
    (h : Below n W0 W ∧ (∀ b o, b < n → W.cell? ⟨b, o, none⟩ = W0.cell? ⟨b, o, none⟩) ∧ (∀ b o, b < m → W.frozen? ⟨b, o, none⟩ = W0.frozen? ⟨b, o, none⟩) ∧ W.cell? ⟨n, 0, none⟩ = some (peek W ⟨n, 0, none⟩) ∧ W.cell? ⟨n, 1, none⟩ = some (peek W ⟨n, 1, none⟩) ∧ W.cell? ⟨n, 2, none⟩ = some (peek W ⟨n, 2, none⟩) ∧ W.cell? ⟨n, 3, none⟩ = some (peek W ⟨n, 3, none⟩) ∧ W.cell? ⟨n, 4, none⟩ = some (peek W ⟨n, 4, none⟩)) :
    Below n W0 w1 ∧ (∀ b o, b < n → w1.cell? ⟨b, o, none⟩ = W0.cell? ⟨b, o, none⟩) ∧ (∀ b o, b < m → w1.frozen? ⟨b, o, none⟩ = W0.frozen? ⟨b, o, none⟩) ∧ w1.cell? ⟨n, 0, none⟩ = some (peek w1 ⟨n, 0, none⟩) ∧ w1.cell? ⟨n, 1, none⟩ = some (peek w1 ⟨n, 1, none⟩) ∧ w1.cell? ⟨n, 2, none⟩ = some (peek w1 ⟨n, 2, none⟩) ∧ w1.cell? ⟨n, 3, none⟩ = some (peek w1 ⟨n, 3, none⟩) ∧ w1.cell? ⟨n, 4, none⟩ = some (peek w1 ⟨n, 4, none⟩) := by
  obtain ⟨h1, h2, h3, c0, c1, c2, c3, c4⟩ := h
  have hs : m ≤ W.heap.size := Nat.le_trans hm h1.size
  refine ⟨h1.trans (hb.mono (Nat.le_trans (Nat.le_of_lt hn) hs)), fun b o hbo => ?_, fun b o hbo => ?_, peek_same (hb.cell (p := ⟨n, 0, none⟩) (by simp; omega)) c0, peek_same (hb.cell (p := ⟨n, 1, none⟩) (by simp; omega)) c1, peek_same (hb.cell (p := ⟨n, 2, none⟩) (by simp; omega)) c2, peek_same (hb.cell (p := ⟨n, 3, none⟩) (by simp; omega)) c3, peek_same (hb.cell (p := ⟨n, 4, none⟩) (by simp; omega)) c4⟩
  · rw [hb.cell (p := ⟨b, o, none⟩) (by simp; omega)]; exact h2 b o hbo
  · rw [hb.frozen (p := ⟨b, o, none⟩) (by simp; omega)]; exact h3 b o hbo
theorem keepS5 {n m : Nat} {W0 W : World} {p : Addr} {v : Value} (hp : n ≤ p.block)
    (h : Below n W0 W ∧ (∀ b o, b < n → W.cell? ⟨b, o, none⟩ = W0.cell? ⟨b, o, none⟩) ∧ (∀ b o, b < m → W.frozen? ⟨b, o, none⟩ = W0.frozen? ⟨b, o, none⟩) ∧ W.cell? ⟨n, 0, none⟩ = some (peek W ⟨n, 0, none⟩) ∧ W.cell? ⟨n, 1, none⟩ = some (peek W ⟨n, 1, none⟩) ∧ W.cell? ⟨n, 2, none⟩ = some (peek W ⟨n, 2, none⟩) ∧ W.cell? ⟨n, 3, none⟩ = some (peek W ⟨n, 3, none⟩) ∧ W.cell? ⟨n, 4, none⟩ = some (peek W ⟨n, 4, none⟩)) :
    Below n W0 (W.setCell p v) ∧ (∀ b o, b < n → (W.setCell p v).cell? ⟨b, o, none⟩ = W0.cell? ⟨b, o, none⟩) ∧ (∀ b o, b < m → (W.setCell p v).frozen? ⟨b, o, none⟩ = W0.frozen? ⟨b, o, none⟩) ∧ (W.setCell p v).cell? ⟨n, 0, none⟩ = some (peek (W.setCell p v) ⟨n, 0, none⟩) ∧ (W.setCell p v).cell? ⟨n, 1, none⟩ = some (peek (W.setCell p v) ⟨n, 1, none⟩) ∧ (W.setCell p v).cell? ⟨n, 2, none⟩ = some (peek (W.setCell p v) ⟨n, 2, none⟩) ∧ (W.setCell p v).cell? ⟨n, 3, none⟩ = some (peek (W.setCell p v) ⟨n, 3, none⟩) ∧ (W.setCell p v).cell? ⟨n, 4, none⟩ = some (peek (W.setCell p v) ⟨n, 4, none⟩) := by
  obtain ⟨h1, h2, h3, c0, c1, c2, c3, c4⟩ := h
  refine ⟨h1.setCell hp v, fun b o hbo => ?_, fun b o hbo => ?_, peek_set c0, peek_set c1, peek_set c2, peek_set c3, peek_set c4⟩
  · rw [((Below.refl n W).setCell hp v).cell (p := ⟨b, o, none⟩) hbo]; exact h2 b o hbo
  · rw [World.frozen?_setCell]; exact h3 b o hbo
theorem startB5 {n m : Nat} {W0 : World} {u0 : Value} {u1 : Value} {u2 : Value} {u3 : Value} {u4 : Value} (c0 : W0.cell? ⟨n, 0, none⟩ = some u0) (c1 : W0.cell? ⟨n, 1, none⟩ = some u1) (c2 : W0.cell? ⟨n, 2, none⟩ = some u2) (c3 : W0.cell? ⟨n, 3, none⟩ = some u3) (c4 : W0.cell? ⟨n, 4, none⟩ = some u4) :
    Below n W0 W0.drew ∧ (∀ b o, b < n → W0.drew.cell? ⟨b, o, none⟩ = W0.cell? ⟨b, o, none⟩) ∧ (∀ b o, b < m → W0.drew.frozen? ⟨b, o, none⟩ = W0.frozen? ⟨b, o, none⟩) ∧ W0.drew.cell? ⟨n, 0, none⟩ = some (peek W0.drew ⟨n, 0, none⟩) ∧ W0.drew.cell? ⟨n, 1, none⟩ = some (peek W0.drew ⟨n, 1, none⟩) ∧ W0.drew.cell? ⟨n, 2, none⟩ = some (peek W0.drew ⟨n, 2, none⟩) ∧ W0.drew.cell? ⟨n, 3, none⟩ = some (peek W0.drew ⟨n, 3, none⟩) ∧ W0.drew.cell? ⟨n, 4, none⟩ = some (peek W0.drew ⟨n, 4, none⟩) :=
  ⟨(Below.refl _ _).drew, fun _ _ _ => rfl, fun _ _ _ => rfl, peek_some (w := W0.drew) c0, peek_some (w := W0.drew) c1, peek_some (w := W0.drew) c2, peek_some (w := W0.drew) c3, peek_some (w := W0.drew) c4⟩
/-- All but one block is as it was. -/
def Off (n : Nat) (w w' : World) : Prop := ∀ k, k ≠ n → w'.heap[k]? = w.heap[k]?
theorem Off.refl (n : Nat) (w : World) : Off n w w := fun _ _ => rfl
theorem Off.set {n : Nat} {w w' : World} (h : Off n w w') {p : Addr} (hp : p.block = n) (v : Value) : Off n w (w'.setCell p v) := fun k hk => by
  rw [Below.heap_setCell w' p v k (by rw [hp]; exact hk)]; exact h k hk
theorem off5 (n : Nat) (w1 : World) (v0 v1 v2 v3 v4 : Value) : Off n w1 (((((w1.setCell ⟨n, 0, none⟩ v0).setCell ⟨n, 1, none⟩ v1).setCell ⟨n, 2, none⟩ v2).setCell ⟨n, 3, none⟩ v3).setCell ⟨n, 4, none⟩ v4) :=
  Off.set (p := ⟨n, 4, none⟩) (Off.set (p := ⟨n, 3, none⟩) (Off.set (p := ⟨n, 2, none⟩) (Off.set (p := ⟨n, 1, none⟩) (Off.set (p := ⟨n, 0, none⟩) (Off.refl n w1) rfl v0) rfl v1) rfl v2) rfl v3) rfl v4
theorem results_cell {fn : Func} {p : Tmp} {ty : TypeId} (h : fn.results = #[.cell p ty]) (tmps : Array Value) (P : Program) (w : World) :
    (results fn tmps).run P w = ((asAddr (tmps.getD p undef)).run P w).andThen fun a w₁ => (loadVar ty a).run P w₁ := by
  simp only [results, h]
  simp [Sem.run_bind, Result.andThen]
theorem below_next {n : Nat} {A B C : World} (h : Below n A B) (hs : n ≤ A.heap.size) (k : Below B.heap.size B C) : Below n A C := h.trans (k.mono (Nat.le_trans hs h.size))
theorem cellKeep {n : Nat} {A B : World} (h : Below n A B) {p : Addr} (hp : p.block < n) {u : Value} (k : A.cell? p = some u) : B.cell? p = some u := (h.cell hp).trans k
/-- A call hands back a record's value in new memory. -/
def GivesK {α : Type} (d : Ki α) (w : World) (x : α) (e : Ending) (w' : World) : Prop :=
  ∃ cs, e = .returned (.agg cs.toArray) ∧ d.K w' (fun k => w.heap.size ≤ k) x cs ∧ Below w.heap.size w w'

set_option maxHeartbeats 4000000 in
set_option maxRecDepth 100000 in
theorem rrown_calls (d : Dat) (cs : List Value) (w : World) (h : kD.K w (fun _ => True) d cs) :
    Calls Try.prog 128 #[.agg cs.toArray] w (GivesK kD w d) := by
  obtain ⟨vb, vh, vm, vn, vt, rfl, hb, hh, hm, hn, ht⟩ := h
  generalize hW0 : (w.alloc (.cells #[vb, vh, vm, vn, vt] 42)).alloc (.cells #[.slice none 0 0, .slice none 0 0, .slice none 0 0, .slice none 0 0, .slice none 0 0] 42) = W0
  have hx : Below w.heap.size w W0 := by rw [← hW0]; exact below_alloc (below_alloc (Below.refl _ _) _) _
  have HW0 := Aside0.mk hW0
  have BX := Aside0.mk hx
  have s1 : w.heap.size < W0.heap.size := by rw [← hW0]; simp; omega
  have s2 : w.heap.size + 1 ≤ W0.heap.size := by rw [← hW0]; simp
  have s3 : w.heap.size + 2 ≤ W0.heap.size := by rw [← hW0]; simp
  have x0 : W0.cell? ⟨w.heap.size, 0, none⟩ = some vb := by rw [← hW0]; simp
  have y0 : W0.cell? ⟨w.heap.size + 1, 0, none⟩ = some (.slice none 0 0) := by rw [← hW0]; simp
  have z0 : W0.frozen? ⟨w.heap.size + 1, 0, none⟩ = false := by rw [← hW0]; simp
  have x1 : W0.cell? ⟨w.heap.size, 1, none⟩ = some vh := by rw [← hW0]; simp
  have y1 : W0.cell? ⟨w.heap.size + 1, 1, none⟩ = some (.slice none 0 0) := by rw [← hW0]; simp
  have z1 : W0.frozen? ⟨w.heap.size + 1, 1, none⟩ = false := by rw [← hW0]; simp
  have x2 : W0.cell? ⟨w.heap.size, 2, none⟩ = some vm := by rw [← hW0]; simp
  have y2 : W0.cell? ⟨w.heap.size + 1, 2, none⟩ = some (.slice none 0 0) := by rw [← hW0]; simp
  have z2 : W0.frozen? ⟨w.heap.size + 1, 2, none⟩ = false := by rw [← hW0]; simp
  have x3 : W0.cell? ⟨w.heap.size, 3, none⟩ = some vn := by rw [← hW0]; simp
  have y3 : W0.cell? ⟨w.heap.size + 1, 3, none⟩ = some (.slice none 0 0) := by rw [← hW0]; simp
  have z3 : W0.frozen? ⟨w.heap.size + 1, 3, none⟩ = false := by rw [← hW0]; simp
  have x4 : W0.cell? ⟨w.heap.size, 4, none⟩ = some vt := by rw [← hW0]; simp
  have y4 : W0.cell? ⟨w.heap.size + 1, 4, none⟩ = some (.slice none 0 0) := by rw [← hW0]; simp
  have z4 : W0.frozen? ⟨w.heap.size + 1, 4, none⟩ = false := by rw [← hW0]; simp
  clear hW0 hx
  have c1 := Aside0.mk (fun W (hB : Below (w.heap.size + 1) W0 W) => Aside0.mk (clone_u vb d.bytes W (hb.below pU (BX.out.trans (hB.mono (Nat.le_succ _))))))
  have c2 := Aside0.mk (fun W (hB : Below (w.heap.size + 1) W0 W) => Aside0.mk (clone_s vh d.host W (hh.below pS (BX.out.trans (hB.mono (Nat.le_succ _))))))
  have c3 := Aside0.mk (fun W (hB : Below (w.heap.size + 1) W0 W) => Aside0.mk (clone_s vm d.mail W (hm.below pS (BX.out.trans (hB.mono (Nat.le_succ _))))))
  have c4 := Aside0.mk (fun W (hB : Below (w.heap.size + 1) W0 W) => Aside0.mk (clone_i vn d.nums W (hn.below pI (BX.out.trans (hB.mono (Nat.le_succ _))))))
  have c5 := Aside0.mk (fun W (hB : Below (w.heap.size + 1) W0 W) => Aside0.mk (clone_s vt d.texts W (ht.below pS (BX.out.trans (hB.mono (Nat.le_succ _))))))
  obtain ⟨Ab, cb, rfl, _, _⟩ := hb
  obtain ⟨Ah, ch, rfl, _, _⟩ := hh
  obtain ⟨Am, cm, rfl, _, _⟩ := hm
  obtain ⟨An, cn, rfl, _, _⟩ := hn
  obtain ⟨At, ct, rfl, _, _⟩ := ht
  go_enter Try.func128, Try.ntmps128
  go_wp2
  rw [HW0.out]
  have hst := startB5 (n := w.heap.size + 1) (m := w.heap.size + 2) y0 y1 y2 y3 y4
  go_region_held3 (fun w' => Below (w.heap.size + 1) W0 w' ∧ (∀ b o, b < w.heap.size + 1 → w'.cell? ⟨b, o, none⟩ = W0.cell? ⟨b, o, none⟩) ∧ (∀ b o, b < w.heap.size + 2 → w'.frozen? ⟨b, o, none⟩ = W0.frozen? ⟨b, o, none⟩) ∧ w'.cell? ⟨w.heap.size + 1, 0, none⟩ = some (peek w' ⟨w.heap.size + 1, 0, none⟩) ∧ w'.cell? ⟨w.heap.size + 1, 1, none⟩ = some (peek w' ⟨w.heap.size + 1, 1, none⟩) ∧ w'.cell? ⟨w.heap.size + 1, 2, none⟩ = some (peek w' ⟨w.heap.size + 1, 2, none⟩) ∧ w'.cell? ⟨w.heap.size + 1, 3, none⟩ = some (peek w' ⟨w.heap.size + 1, 3, none⟩) ∧ w'.cell? ⟨w.heap.size + 1, 4, none⟩ = some (peek w' ⟨w.heap.size + 1, 4, none⟩)) (first | (with_reducible exact keepB5 (Nat.lt_succ_self _) s3 hb1 (by assumption)) | ((repeat (with_reducible refine keepS5 (Nat.le_refl _) ?_)); assumption) | go_keep) ((first | (go_at_call 139; (with_reducible refine (c1.out _ (And.left (by assumption))).out.mono ?_); rintro e w1 ⟨v1, rfl, ho1, hb1⟩; obtain ⟨Ax, cx, rfl, _⟩ := ho1.slice_) | (go_at_call 38; (with_reducible refine (c2.out _ (And.left (by assumption))).out.mono ?_); rintro e w1 ⟨v1, rfl, ho1, hb1⟩; obtain ⟨Ax, cx, rfl, _⟩ := ho1.slice_) | (go_at_call 38; (with_reducible refine (c3.out _ (And.left (by assumption))).out.mono ?_); rintro e w1 ⟨v1, rfl, ho1, hb1⟩; obtain ⟨Ax, cx, rfl, _⟩ := ho1.slice_) | (go_at_call 140; (with_reducible refine (c4.out _ (And.left (by assumption))).out.mono ?_); rintro e w1 ⟨v1, rfl, ho1, hb1⟩; obtain ⟨Ax, cx, rfl, _⟩ := ho1.slice_) | (go_at_call 38; (with_reducible refine (c5.out _ (And.left (by assumption))).out.mono ?_); rintro e w1 ⟨v1, rfl, ho1, hb1⟩; obtain ⟨Ax, cx, rfl, _⟩ := ho1.slice_)))
  rename_i wa hba Aa ca _ hoa wb hbb Ab2 cb2 _ hob wc hbc Ac cc _ hoc wd hbd Ad cd _ hod _ hH
  clear hH hst
  have z1' : W0.heap.size ≤ W0.heap.size := Nat.le_refl _
  have B1 := below_next ((Below.refl W0.heap.size W0).drew) z1' hba
  have B2 := below_next B1 z1' hbb
  have B3 := below_next B2 z1' hbc
  have B4 := below_next B3 z1' hbd
  have B5 := below_next B4 z1' hb1
  have C0 := cellKeep B5 (p := ⟨w.heap.size + 1, 0, none⟩) s3 y0
  have C1 := cellKeep B5 (p := ⟨w.heap.size + 1, 1, none⟩) s3 y1
  have C2 := cellKeep B5 (p := ⟨w.heap.size + 1, 2, none⟩) s3 y2
  have C3 := cellKeep B5 (p := ⟨w.heap.size + 1, 3, none⟩) s3 y3
  have C4 := cellKeep B5 (p := ⟨w.heap.size + 1, 4, none⟩) s3 y4
  have E : ∀ v0 v1 v2 v3 v4 : Value, Below w.heap.size w (((((w1.setCell ⟨w.heap.size + 1, 0, none⟩ v0).setCell ⟨w.heap.size + 1, 1, none⟩ v1).setCell ⟨w.heap.size + 1, 2, none⟩ v2).setCell ⟨w.heap.size + 1, 3, none⟩ v3).setCell ⟨w.heap.size + 1, 4, none⟩ v4) :=
    fun v0 v1 v2 v3 v4 => by
      repeat refine Below.setCell ?_ (Nat.le_succ _) _
      exact BX.out.trans (B5.mono (Nat.le_of_lt s1))
  have f1 : ∀ k, W0.drew.heap.size ≤ k → w.heap.size + 2 ≤ k := fun k hk => Nat.le_trans s3 hk
  have f2 : ∀ k, wa.heap.size ≤ k → w.heap.size + 2 ≤ k := fun k hk => Nat.le_trans (Nat.le_trans s3 B1.size) hk
  have f3 : ∀ k, wb.heap.size ≤ k → w.heap.size + 2 ≤ k := fun k hk => Nat.le_trans (Nat.le_trans s3 B2.size) hk
  have f4 : ∀ k, wc.heap.size ≤ k → w.heap.size + 2 ≤ k := fun k hk => Nat.le_trans (Nat.le_trans s3 B3.size) hk
  have f5 : ∀ k, wd.heap.size ≤ k → w.heap.size + 2 ≤ k := fun k hk => Nat.le_trans (Nat.le_trans s3 B4.size) hk
  have r1 := ((((hoa.rd (ok' := fun k => w.heap.size + 2 ≤ k) (fun _ h => h.elim) f1).below pU hbb).below pU hbc).below pU hbd).below pU hb1
  have r2 := (((hob.rd (ok' := fun k => w.heap.size + 2 ≤ k) (fun _ h => h.elim) f2).below pS hbc).below pS hbd).below pS hb1
  have r3 := ((hoc.rd (ok' := fun k => w.heap.size + 2 ≤ k) (fun _ h => h.elim) f3).below pS hbd).below pS hb1
  have r4 := (hod.rd (ok' := fun k => w.heap.size + 2 ≤ k) (fun _ h => h.elim) f4).below pI hb1
  have r5 := ho1.rd (ok' := fun k => w.heap.size + 2 ≤ k) (fun _ h => h.elim) f5
  have g1 : ∀ k, w.heap.size + 2 ≤ k → k ≠ w.heap.size + 1 := fun k hk => by omega
  have g2 : ∀ k, w.heap.size + 2 ≤ k → w.heap.size ≤ k := fun k hk => by omega
  go_wp2
  (try simp only [Exit.inBlock, Exit.then])
  refine bodyPost_ret (by rw [results_cell rfl]; go_simp) rfl ⟨[_, _, _, _, _], rfl, ⟨_, _, _, _, _, rfl, (r1.step pU ?_).mono g2, (r2.step pS ?_).mono g2, (r3.step pS ?_).mono g2, (r4.step pI ?_).mono g2, (r5.step pS ?_).mono g2⟩, E _ _ _ _ _⟩
  all_goals exact fun k hk _ => off5 _ _ _ _ _ _ _ k (g1 k hk)
end Go.Proofs.Ytkbjbkmaokebgaa.Gz

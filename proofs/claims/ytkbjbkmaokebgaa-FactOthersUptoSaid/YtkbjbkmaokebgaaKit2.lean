import Derived.Test.YtkbjbkmaokebgaaSnd17
import Derived.Deep.RegionHeld3
import Derived.Deep.AppendLies
set_option linter.unusedVariables false
set_option linter.unusedSimpArgs false
namespace Go.Proofs.Ytkbjbkmaokebgaa.Gz
open Go.RowKit Go.Proofs.YtkbjbkmaokebgaaW.PrintWords
open Ki
/-! What the laws over zones share. -/
theorem wpOp_store_mid {P : Program} {ops : Array Oper} {Q : Exit → Act → World → Prop} {i : Nat} {o : Oper} {K : Act → World → Prop} {a : Act} {w : World} (ho : ops[i]? = some o) (hg : o.guard = none) (ty : TypeId) (x y : Operand) (hop : o.op = .store ty x y)
    (b off : Nat) (cells : Array Value) (hx : a.eval x = .pointer (some ⟨b, off, none⟩)) (hy : a.eval y = .agg cells)
    (ht : w.there b off cells.size) (hi : (P.info? ty).map (·.size) = some cells.size) (h1 : cells.all (·.oneCell') = true)
    (h : K (a.put o.dst undef) (w.setCells b off cells.toList)) : wpOp P ops Q i K a w :=
  wpOp_plain ho hg (wp_store_mid ty x y hop b off cells hx hy ht hi h1 h)
theorem ptr_ne {W : World} {n k M : Nat} {u : Value} (h : ∃ M', u = .pointer (some ⟨M', 0, none⟩) ∧ n ≤ M' ∧ M' < W.heap.size ∧ W.there M' 0 14) (hM : u = .pointer (some ⟨M, 0, none⟩)) (hk : W.heap.size ≤ k) : k ≠ M := by
  obtain ⟨M', rfl, _, hlt, _⟩ := h
  injection hM with hM
  injection hM with hM
  injection hM with hM
  omega
theorem new_ne {W : World} {k M : Nat} (hM : (Value.pointer (some ⟨W.heap.size, 0, none⟩)) = .pointer (some ⟨M, 0, none⟩)) (hk : k < W.heap.size) : k ≠ M := by
  injection hM with hM
  injection hM with hM
  injection hM with hM
  omega
theorem size_setCells {b : Nat} (vs : List Value) : ∀ (o : Nat) (w : World), (w.setCells b o vs).heap.size = w.heap.size := by
  induction vs with
  | nil => intro o w; rfl
  | cons v vs ih =>
    intro o w
    show ((w.setCell ⟨b, o, none⟩ v).setCells b (o + 1) vs).heap.size = _
    rw [ih, World.size_setCell]
/-- append([]T{}, ys...) in a region that draws its order. -/
theorem step_append_zero {P : Program} {ops : Array Oper} {o : Oper} {a : Act} {W : World} {K : Act → World → Prop} {Q : Exit → Act → World → Prop} {E : Prop} {α : Type} (d : Ki α) (base : Nat)
    (hg : o.guard = none) (s x : Operand) (t e : TypeId) (z : Value) (hop : o.op = Op.call { callee := Callee.builtin Builtin.append, args := #[s, x], argTypes := #[t, t] })
    (ht : P.underlying t = some (.slice e)) (hinfo : (P.info? e).map (fun i => (i.zero, i.size, i.bytes)) = some (some z, d.sz, d.bytes)) (hz : z.cells.size = d.sz) (hs0 : 0 < d.sz) (hb0 : 0 < d.bytes)
    (S : Option Addr) (y : Value) (ys : List α) (ok : Nat → Prop) (hs : a.eval s = .slice S 0 0) (hx : a.eval x = y) (HO : d.Own e W base ok (.slice S 0 0) []) (HR : d.Rd W ok y ys) (hbase : base ≤ W.heap.size) (hl : ys.length * d.bytes ≤ B47)
    (hK : ∀ v1 w1, d.Own e w1 base ok v1 ys → Below W.heap.size W w1 → K (a.put o.dst v1) w1) :
    if Region.wanted o (yielded ops a.tmps) = true then Oper.wp P o a W K Q else E := by
  have hw : Region.wanted o (yielded ops a.tmps) = true := by simp [Region.wanted, hg]
  rw [if_pos hw]
  obtain ⟨v1, w1, hr, h1, h2⟩ := run_append_zero (P := P) base t o.type z ht hinfo hz hs0 hb0 S y HO HR hbase hl
  unfold Oper.wp
  simp [execOp, hop, resolve, invoke, builtin, hs, hx, hr, Result.andThen]
  exact hK v1 w1 h1 h2
theorem keepM {W0 W w1 : World} (hb : Below W.heap.size W w1) {a b c : Addr} {x y t : Value} (h : Below W0.heap.size W0 W ∧ W.cell? a = some x ∧ W.cell? b = some y ∧ W.cell? c = some t) : Below W0.heap.size W0 w1 ∧ w1.cell? a = some x ∧ w1.cell? b = some y ∧ w1.cell? c = some t := by
  obtain ⟨h1, h2, h3, h4⟩ := h
  exact ⟨h1.trans (hb.mono h1.size), (hb.cell (World.block_lt_of_cell? W _ h2)).trans h2, (hb.cell (World.block_lt_of_cell? W _ h3)).trans h3, (hb.cell (World.block_lt_of_cell? W _ h4)).trans h4⟩
theorem keepG {W0 W w1 : World} {row : Option Nat} (hg : W.grownBy w1 row) (hr : ∀ k, row = some k → W0.heap.size ≤ k) {a b c : Addr} {x y t : Value} (ha : a.block < W0.heap.size) (hb : b.block < W0.heap.size) (hc : c.block < W0.heap.size)
    (h : Below W0.heap.size W0 W ∧ W.cell? a = some x ∧ W.cell? b = some y ∧ W.cell? c = some t) : Below W0.heap.size W0 w1 ∧ w1.cell? a = some x ∧ w1.cell? b = some y ∧ w1.cell? c = some t := by
  obtain ⟨h1, h2, h3, h4⟩ := h
  have far : ∀ {p : Addr} {u : Value}, p.block < W0.heap.size → W.cell? p = some u → w1.cell? p = some u := fun {p} {u} hp hu => by
    rw [← hu]
    exact World.cell?_of_block (hg.block _ (World.block_lt_of_cell? W _ hu) (fun e => by have := hr _ e.symm; omega))
  exact ⟨h1.grown hg h1.size hr, far ha h2, far hb h3, far hc h4⟩
theorem rd_apart {α : Type} {d : Ki α} {e n : Nat} {W : World} {ok : Nat → Prop} {y v : Value} {ys xs : List α} (hr : d.Rd W (fun k => k < n) y ys) (ho : d.Own e W n ok v xs) : d.Rd W (fun k => k < n ∧ some k ≠ v.ownBlock) y ys :=
  hr.mono (fun k hk => ⟨hk, fun e => by have := (ho.lt k e.symm).1; omega⟩)
theorem fills_few {z : Zone} {kind : Int} {seen : List (List ByteArray)} {n : List ByteArray} {ans : List RR} {o : Out} (h : Fills z kind seen n ans o) :
    ∀ been, seen = been ++ [n] → (been.any fun s => nEq s n) = false → o.ans.length ≤ ans.length + left z.recs been + z.recs.length ∧ o.auth.length ≤ z.recs.length ∧ o.extra.length ≤ z.recs.length := by
  induction h with
  | cut seen n ans c hc => exact fun been _ _ => ⟨by show ans.length ≤ _; omega, zof_len _ _ _, zhosts_len _ _⟩
  | hit seen n ans hc hl => exact fun been _ _ => ⟨by show (ans ++ zof z.recs n kind).length ≤ _; rw [List.length_append]; have := zof_len z.recs n kind; omega, Nat.zero_le _, Nat.zero_le _⟩
  | none seen n ans hc hl h5 => exact fun been _ _ => ⟨by show ans.length ≤ _; omega, zof_len _ _ _, Nat.zero_le _⟩
  | out seen n ans r hc hl h5 hs =>
    intro been _ _
    have h1 := zof_len z.recs n 5
    have h2 := (List.getElem?_eq_some_iff.1 h5).1
    exact ⟨by show (ans ++ [r]).length ≤ _; rw [List.length_append]; simp; omega, Nat.zero_le _, Nat.zero_le _⟩
  | go seen n ans r o hc hl h5 hs h ih =>
    intro been hb hn
    subst hb
    have h1 := left_lt z.recs been n r h5 hn
    have hs2 : ((been ++ [n]).any fun s => nEq s r.data.host) = false := by
      rw [Bool.or_eq_false_iff] at hs
      exact hs.2
    obtain ⟨i1, i2, i3⟩ := ih (been ++ [n]) rfl hs2
    refine ⟨?_, i2, i3⟩
    rw [List.length_append] at i1
    simp only [List.length_cons, List.length_nil] at i1
    omega
theorem zSound_few {z : Zone} (h : zSound z = true) : z.recs.length ≤ 256 := by
  unfold zSound at h
  simp only [Bool.and_eq_true, decide_eq_true_eq] at h
  exact h.1.1.2
/-- How much is answered at the most. -/
theorem answers_few {z : Zone} {q : Qn} {m : Msg} (h : Answers z q m) : m.ans.length ≤ 512 ∧ m.auth.length ≤ 256 ∧ m.extra.length ≤ 256 := by
  unfold Answers at h
  split at h
  · next hm =>
    obtain ⟨o, hf, rfl⟩ := h
    have hs : z.recs.length ≤ 256 := by
      unfold zmay at hm
      simp only [Bool.and_eq_true] at hm
      exact zSound_few hm.1.1.1
    obtain ⟨h1, h2, h3⟩ := fills_few hf [] rfl rfl
    have := left_le z.recs []
    exact ⟨by simp only [List.length_nil] at h1; show o.ans.length ≤ 512; omega, by show o.auth.length ≤ 256; omega, by show o.extra.length ≤ 256; omega⟩
  · subst h
    exact ⟨Nat.zero_le _, Nat.zero_le _, Nat.zero_le _⟩
end Go.Proofs.Ytkbjbkmaokebgaa.Gz

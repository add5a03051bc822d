import Derived.Test.YtkbjbkmaokebgaaZthere
import Derived.Deep.AppendLies
set_option linter.unusedVariables false
set_option linter.unusedSimpArgs false
namespace Go.Proofs.Ytkbjbkmaokebgaa.Gz
open Go.RowKit Go.Proofs.YtkbjbkmaokebgaaW.PrintWords
open Ki
/-- All blocks under n but M are as they were. -/
structure But (n M : Nat) (w w' : World) : Prop where
  os : w'.os = w.os
  tape : w'.tape = w.tape
  output : w'.output = w.output
  size : w.heap.size ≤ w'.heap.size
  block : ∀ k, k < n → k ≠ M → w'.heap[k]? = w.heap[k]?
namespace But
variable {n M : Nat} {w w' w'' : World}
theorem refl (n M : Nat) (w : World) : But n M w w := ⟨rfl, rfl, rfl, Nat.le_refl _, fun _ _ _ => rfl⟩
theorem of (h : Below n w w') : But n M w w' := ⟨h.os, h.tape, h.output, h.size, fun k hk _ => h.block k hk⟩
theorem trans (h : But n M w w') (k : But n M w' w'') : But n M w w'' := ⟨k.os.trans h.os, k.tape.trans h.tape, k.output.trans h.output, Nat.le_trans h.size k.size, fun i hi hm => (k.block i hi hm).trans (h.block i hi hm)⟩
theorem mono {n' : Nat} (h : But n M w w') (hn : n' ≤ n) : But n' M w w' := ⟨h.os, h.tape, h.output, h.size, fun k hk hm => h.block k (Nat.lt_of_lt_of_le hk hn) hm⟩
theorem next (h : But n M w w') (hn : n ≤ w.heap.size) (k : Below w'.heap.size w' w'') : But n M w w'' := h.trans (of (k.mono (Nat.le_trans hn h.size)))
theorem set (h : But n M w w') (o : Nat) (v : Value) : But n M w (w'.setCell ⟨M, o, none⟩ v) :=
  h.trans ⟨rfl, rfl, rfl, ((Below.refl 0 w').setCell (p := ⟨M, o, none⟩) (Nat.zero_le _) v).size, fun k hk hm => Below.heap_setCell w' ⟨M, o, none⟩ v k hm⟩
theorem below {b : Nat} (h : But n M w w') (hb : b ≤ M) (hn : b ≤ n) : Below b w w' := ⟨h.os, h.tape, h.output, h.size, fun k hk => h.block k (by omega) (by omega)⟩
theorem cell (h : But n M w w') {b o : Nat} (hb : b < n) (hm : b ≠ M) : w'.cell? ⟨b, o, none⟩ = w.cell? ⟨b, o, none⟩ := World.cell?_of_block (h.block b hb hm)
theorem frozen (h : But n M w w') {b o : Nat} (hb : b < n) (hm : b ≠ M) : w'.frozen? ⟨b, o, none⟩ = w.frozen? ⟨b, o, none⟩ := World.frozen?_of_block (h.block b hb hm)
theorem rd {α : Type} {d : Ki α} {ok : Nat → Prop} {v : Value} {xs : List α} (hp : 0 < d.sz) (h : But w.heap.size M w w') (hr : d.Rd w ok v xs) (hok : ∀ k, ok k → k ≠ M) : d.Rd w' ok v xs :=
  hr.step hp (fun k hk hl => h.block k hl (hok k hk))
theorem kk {α : Type} {d : Ki α} {ok : Nat → Prop} {x : α} {cs : List Value} (h : But w.heap.size M w w') (hr : d.K w ok x cs) (hok : ∀ k, ok k → k ≠ M) : d.K w' ok x cs :=
  d.step (fun k hk hl => h.block k hl (hok k hk)) hr
end But
/-- A store into a block that an own row does not lean on. -/
theorem own_set {α : Type} {d : Ki α} {e base M : Nat} {w : World} {ok : Nat → Prop} {v : Value} {xs : List α} (h : d.Own e w base ok v xs) (hok : ∀ k, ok k → k ≠ M) (hM : M < base) (o : Nat) (u : Value) : d.Own e (w.setCell ⟨M, o, none⟩ u) base ok v xs :=
  h.step (fun k hk _ _ => Below.heap_setCell w ⟨M, o, none⟩ u k (hok k hk)) (fun k hk => Below.heap_setCell w ⟨M, o, none⟩ u k (by have := (h.lt k hk).1; show k ≠ M; omega))
theorem rd_set {α : Type} {d : Ki α} {M : Nat} {w : World} {ok : Nat → Prop} {v : Value} {xs : List α} (hp : 0 < d.sz) (h : d.Rd w ok v xs) (hok : ∀ k, ok k → k ≠ M) (o : Nat) (u : Value) : d.Rd (w.setCell ⟨M, o, none⟩ u) ok v xs :=
  h.step hp (fun k hk _ => Below.heap_setCell w ⟨M, o, none⟩ u k (hok k hk))
/-- A slice of one element that has just been made. -/
theorem rd_box {α : Type} {d : Ki α} {e : Nat} {w : World} {ok : Nat → Prop} {p : α} {cs : List Value} (h : d.K w ok p cs) (hB : d.bytes ≤ B47) (hok : ∀ k, w.heap.size ≤ k → ok k) :
    d.Rd (w.alloc (.cells cs.toArray e)) ok (.slice (some ⟨w.heap.size, 0, none⟩) 1 1) [p] := by
  have hr1 : Reps (d.K w ok) d.sz [p] cs := by
    have := (Reps.none (d.K w ok) d.sz).snoc h (d.len h)
    simpa using this
  have h1 := Own.lit (d := d) (e := e) (base := w.heap.size) (ok := ok) (xs := [p]) w hr1 (Nat.le_refl _) (by simp) (by simpa using hB)
  exact h1.rd (fun _ h => h) hok
/-- append(v, ys...) in a region that draws its order, v a row of the call's own. -/
theorem step_append_own {P : Program} {ops : Array Oper} {o : Oper} {a : Act} {W : World} {K : Act → World → Prop} {Q : Exit → Act → World → Prop} {E : Prop} {α : Type} (d : Ki α) (base : Nat)
    (hg : o.guard = none) (s x : Operand) (t e : TypeId) (z : Value) (hop : o.op = Op.call { callee := Callee.builtin Builtin.append, args := #[s, x], argTypes := #[t, t] })
    (ht : P.underlying t = some (.slice e)) (hinfo : (P.info? e).map (fun i => (i.zero, i.size, i.bytes)) = some (some z, d.sz, d.bytes)) (hz : z.cells.size = d.sz) (hs0 : 0 < d.sz) (hb0 : 0 < d.bytes)
    (v y : Value) (xs ys : List α) (ok : Nat → Prop) (hs : a.eval s = v) (hx : a.eval x = y) (HO : d.Own e W base ok v xs) (HR : d.Rd W (fun k => ok k ∧ some k ≠ v.ownBlock) y ys) (hbase : base ≤ W.heap.size) (hl : (xs.length + ys.length) * d.bytes ≤ B47)
    (hK : ∀ v1 w1, d.Own e w1 base ok v1 (xs ++ ys) → W.grownBy w1 v.ownBlock → (v1.ownBlock = v.ownBlock ∨ ∃ b, v1.ownBlock = some b ∧ W.heap.size ≤ b) → K (a.put o.dst v1) w1) :
    if Region.wanted o (yielded ops a.tmps) = true then Oper.wp P o a W K Q else E := by
  have hw : Region.wanted o (yielded ops a.tmps) = true := by simp [Region.wanted, hg]
  rw [if_pos hw]
  obtain ⟨v1, w1, hr, h1, h2, h3⟩ := run_append_row (P := P) base t o.type z ht hinfo hz hs0 hb0 y HO HR hbase hl
  unfold Oper.wp
  simp [execOp, hop, resolve, invoke, builtin, hs, hx, hr, Result.andThen]
  exact hK v1 w1 h1 h2 h3
/-- The addresses of the servers. -/
def zhosts (l ns : List RR) : List RR := l.filter fun r => (ns.any fun s => nEq s.data.host r.name) && (decide (r.typ = 1) || decide (r.typ = 28))
theorem zhosts_len (l ns : List RR) : (zhosts l ns).length ≤ l.length := List.length_filter_le _ _
theorem zhosts_step (l ns : List RR) (k : Nat) (h : k < l.length) :
    zhosts (l.take (k + 1)) ns = zhosts (l.take k) ns ++ if (ns.any fun s => nEq s.data.host l[k].name) && (decide (l[k].typ = 1) || decide (l[k].typ = 28)) then [l[k]] else [] := by
  rw [List.take_succ_eq_append_getElem h]
  unfold zhosts
  rw [List.filter_append]
  congr 1
  simp only [List.filter_cons, List.filter_nil]
end Go.Proofs.Ytkbjbkmaokebgaa.Gz

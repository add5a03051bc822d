import Derived.Test.YtkbjbkmaokebgaaFills
set_option linter.unusedVariables false
set_option linter.unusedSimpArgs false
namespace Go.Proofs.Ytkbjbkmaokebgaa.Gz
open Go.RowKit Go.Proofs.YtkbjbkmaokebgaaW.PrintWords
open Ki
/-- All blocks under n but those of p are as they were. -/
structure Bar (n : Nat) (p : Nat → Prop) (w w' : World) : Prop where
  os : w'.os = w.os
  tape : w'.tape = w.tape
  output : w'.output = w.output
  size : w.heap.size ≤ w'.heap.size
  block : ∀ k, k < n → ¬ p k → w'.heap[k]? = w.heap[k]?
namespace Bar
variable {n M : Nat} {p p' : Nat → Prop} {w w' w'' : World}
theorem refl (n : Nat) (p : Nat → Prop) (w : World) : Bar n p w w := ⟨rfl, rfl, rfl, Nat.le_refl _, fun _ _ _ => rfl⟩
theorem of (h : Below n w w') : Bar n p w w' := ⟨h.os, h.tape, h.output, h.size, fun k hk _ => h.block k hk⟩
theorem trans (h : Bar n p w w') (k : Bar n p w' w'') : Bar n p w w'' := ⟨k.os.trans h.os, k.tape.trans h.tape, k.output.trans h.output, Nat.le_trans h.size k.size, fun i hi hm => (k.block i hi hm).trans (h.block i hi hm)⟩
theorem mono {n' : Nat} (h : Bar n p w w') (hn : n' ≤ n) : Bar n' p w w' := ⟨h.os, h.tape, h.output, h.size, fun k hk hm => h.block k (Nat.lt_of_lt_of_le hk hn) hm⟩
theorem next (h : Bar n p w w') (hn : n ≤ w.heap.size) (k : Below w'.heap.size w' w'') : Bar n p w w'' := h.trans (of (k.mono (Nat.le_trans hn h.size)))
theorem but (h : Bar n p w w') (hn : n ≤ w.heap.size) (hM : p M) (k : But w'.heap.size M w' w'') : Bar n p w w'' :=
  h.trans ⟨k.os, k.tape, k.output, k.size, fun i hi hm => k.block i (Nat.lt_of_lt_of_le hi (Nat.le_trans hn h.size)) (fun e => hm (e ▸ hM))⟩
theorem set (h : Bar n p w w') {a : Addr} (ha : p a.block ∨ n ≤ a.block) (v : Value) : Bar n p w (w'.setCell a v) :=
  h.trans ⟨rfl, rfl, rfl, ((Below.refl 0 w').setCell (p := a) (Nat.zero_le _) v).size, fun k hk hm => Below.heap_setCell w' a v k (fun e => by
    rcases ha with ha | ha
    · exact hm (e ▸ ha)
    · omega)⟩
theorem grown (h : Bar n p w w') {row : Option Nat} (hg : w'.grownBy w'' row) (hn : n ≤ w.heap.size) (hr : ∀ k, row = some k → n ≤ k) : Bar n p w w'' :=
  h.trans (of ((Below.refl n w').grown hg (Nat.le_trans hn h.size) hr))
theorem cell (h : Bar n p w w') {b o : Nat} (hb : b < n) (hm : ¬ p b) : w'.cell? ⟨b, o, none⟩ = w.cell? ⟨b, o, none⟩ := World.cell?_of_block (h.block b hb hm)
theorem frozen (h : Bar n p w w') {b o : Nat} (hb : b < n) (hm : ¬ p b) : w'.frozen? ⟨b, o, none⟩ = w.frozen? ⟨b, o, none⟩ := World.frozen?_of_block (h.block b hb hm)
theorem rd {α : Type} {d : Ki α} {ok : Nat → Prop} {v : Value} {xs : List α} (hp : 0 < d.sz) (h : Bar w.heap.size p w w') (hr : d.Rd w ok v xs) (hok : ∀ k, ok k → ¬ p k) : d.Rd w' ok v xs :=
  hr.step hp (fun k hk hl => h.block k hl (hok k hk))
theorem kk {α : Type} {d : Ki α} {ok : Nat → Prop} {x : α} {cs : List Value} (h : Bar w.heap.size p w w') (hr : d.K w ok x cs) (hok : ∀ k, ok k → ¬ p k) : d.K w' ok x cs :=
  d.step (fun k hk hl => h.block k hl (hok k hk)) hr
theorem toBut (h : Bar n p w w') (hp : ∀ k, k < n → p k → k = M) : But n M w w' := ⟨h.os, h.tape, h.output, h.size, fun k hk hm => h.block k hk (fun e => hm (hp k hk e))⟩
end Bar
/-- What zone.fill leaves in the message in block M. -/
def Filled (z : Zone) (q : Qn) (M : Nat) (w : World) (e : Ending) (w' : World) : Prop :=
  ∃ o va vb vc, e = .returned (.tuple #[]) ∧ Fills z q.typ [q.name] q.name [] o ∧ But w.heap.size M w w' ∧
    w'.cell? ⟨M, 3, none⟩ = some (.bool o.aa) ∧ w'.cell? ⟨M, 7, none⟩ = some (.int .i64 o.rcode) ∧
    w'.cell? ⟨M, 9, none⟩ = some va ∧ kR.Rd w' (fun k => w.heap.size ≤ k) va o.ans ∧ w'.cell? ⟨M, 10, none⟩ = some vb ∧ kR.Rd w' (fun k => w.heap.size ≤ k) vb o.auth ∧
    w'.cell? ⟨M, 11, none⟩ = some vc ∧ kR.Rd w' (fun k => w.heap.size ≤ k) vc o.extra ∧
    (∀ o, o ≠ 3 → o ≠ 7 → o ≠ 9 → o ≠ 10 → o ≠ 11 → w'.cell? ⟨M, o, none⟩ = w.cell? ⟨M, o, none⟩) ∧ ∀ o, w'.frozen? ⟨M, o, none⟩ = w.frozen? ⟨M, o, none⟩
/-- How it stands at a round's head of zone.fill, from W2 on: N is the name's variable, B the first block of the call's own rows. -/
structure FillAt (z : Zone) (q : Qn) (M N B : Nat) (W2 wr : World) (gg : Nat) (sv : Value) (been : List (List ByteArray)) (n : List ByteArray) (ans : List RR) (va vn : Value) : Prop where
  few : (been ++ [n]).length + left z.recs been ≤ z.recs.length + 1
  less : left z.recs been ≤ gg
  new : (been.any fun s => nEq s n) = false
  cnt : ans.length = been.length
  bar : Bar B (fun k => k = M ∨ k = N) W2 wr
  out : ∀ o, o ≠ 9 → wr.cell? ⟨M, o, none⟩ = W2.cell? ⟨M, o, none⟩
  froz : ∀ o, wr.frozen? ⟨M, o, none⟩ = W2.frozen? ⟨M, o, none⟩
  nrd : kS.Rd wr (fun k => (k ≠ M ∧ k ≠ N ∧ some k ≠ sv.ownBlock) ∧ some k ≠ va.ownBlock) vn n
  oa : kR.Own 44 wr B (fun k => (B ≤ k ∧ k ≠ N) ∧ some k ≠ sv.ownBlock) va ans
  os : (kL kS pS).Own 22 wr B (fun k => (k ≠ M ∧ k ≠ N) ∧ some k ≠ va.ownBlock) sv (been ++ [n])
  dis : ∀ k, sv.ownBlock = some k → va.ownBlock ≠ some k
  fil : ∀ o, Fills z q.typ (been ++ [n]) n ans o → Fills z q.typ [q.name] q.name [] o
end Go.Proofs.Ytkbjbkmaokebgaa.Gz

import Derived.Test.YtkbjbkmaokebgaaProg
import Derived.Test.YtkbjbkmaokebgaaWWords
import Derived.Laws.OwnMore
import Derived.Deep.MidRow
set_option linter.unusedVariables false
namespace Go.Proofs.Ytkbjbkmaokebgaa.Gz
open Go.RowKit Go.Proofs.YtkbjbkmaokebgaaW.PrintWords

/-! Kinds: how a value lies in cells, and which blocks that reading leans on. -/
structure Ki (α : Type) where
  sz : Nat
  bytes : Nat
  K : World → (Nat → Prop) → α → List Value → Prop
  len : ∀ {w ok x cs}, K w ok x cs → cs.length = sz
  one : ∀ {w ok x cs}, K w ok x cs → ∀ u ∈ cs, u.oneCell' = true
  mono : ∀ {w ok ok' x cs}, (∀ k, ok k → ok' k) → K w ok x cs → K w ok' x cs
  step : ∀ {w w1 : World} {ok x cs}, (∀ k, ok k → k < w.heap.size → w1.heap[k]? = w.heap[k]?) → K w ok x cs → K w1 ok x cs
  low : ∀ {w ok x cs}, K w ok x cs → K w (fun k => ok k ∧ k < w.heap.size) x cs

/-- A kind of one cell that leads nowhere. -/
def Ki.one1 {α : Type} (enc : α → Value) (by_ : Nat) (P : α → Prop) (h1 : ∀ x, (enc x).oneCell' = true) : Ki α where
  sz := 1
  bytes := by_
  K := fun _ _ x cs => cs = [enc x] ∧ P x
  len := fun h => by rw [h.1]; rfl
  one := fun h u hu => by
    rw [h.1] at hu
    rw [List.mem_singleton.1 hu]
    exact h1 _
  mono := fun _ h => h
  step := fun _ h => h
  low := fun h => h
/-- As many bytes as there may be in one piece. -/
def B47 : Nat := 140737488355328
/-- A text that is not too long. -/
def Sz (s : ByteArray) : Prop := s.size ≤ B47
/-- A number of 64 bits. -/
def R64 (x : Int) : Prop := -9223372036854775808 ≤ x ∧ x ≤ 9223372036854775807
/-- A byte. -/
def R8 (x : Int) : Prop := 0 ≤ x ∧ x ≤ 255
def kS : Ki ByteArray := Ki.one1 Value.string 16 Sz (fun _ => rfl)
def kI : Ki Int := Ki.one1 (Value.int .i64) 8 R64 (fun _ => rfl)
def kU : Ki Int := Ki.one1 (Value.int .u8) 1 R8 (fun _ => rfl)
def kB : Ki Bool := Ki.one1 Value.bool 1 (fun _ => True) (fun _ => rfl)
theorem Sz.le {s : ByteArray} (h : Sz s) : s.size ≤ 140737488355328 := h

namespace Ki
variable {α : Type}
/-- Elements that lie one behind the other from A on. -/
def Row (d : Ki α) (w : World) (ok : Nat → Prop) (A : Option Addr) (xs : List α) : Prop :=
  (xs.length ≤ 9223372036854775807 ∧ xs.length * d.bytes ≤ B47) ∧ (0 < xs.length → ∃ ad inner, A = some ad ∧ ok ad.block ∧ Reps (d.K w ok) d.sz xs inner ∧ ∀ j u, inner[j]? = some u → w.cell? (ad.add j) = some u ∧ w.frozen? (ad.add j) = false)
/-- A slice that reads as a list. -/
def Rd (d : Ki α) (w : World) (ok : Nat → Prop) (v : Value) (xs : List α) : Prop :=
  ∃ A c, v = .slice A xs.length c ∧ xs.length ≤ c ∧ d.Row w ok A xs
/-- A slice that the call itself has made, and that it may go on writing. -/
def Own (d : Ki α) (e : Nat) (w : World) (base : Nat) (ok : Nat → Prop) (v : Value) (xs : List α) : Prop :=
  ∃ inner, w.ownsRow base e d.sz v xs.length inner ∧ Reps (d.K w (fun k => ok k ∧ some k ≠ v.ownBlock)) d.sz xs inner ∧ xs.length * d.bytes ≤ B47
section
variable {d : Ki α} {w w1 : World} {ok ok' : Nat → Prop} {v : Value} {xs : List α} {A : Option Addr} {e base : Nat}
theorem Row.mono (h : d.Row w ok A xs) (hok : ∀ k, ok k → ok' k) : d.Row w ok' A xs :=
  ⟨h.1, fun hn => by
    obtain ⟨ad, inner, e, ho, hr, hc⟩ := h.2 hn
    exact ⟨ad, inner, e, hok _ ho, hr.imp_ (fun _ _ hp => d.mono hok hp), hc⟩⟩
theorem Row.step (hp : 0 < d.sz) (h : d.Row w ok A xs) (hm : ∀ k, ok k → k < w.heap.size → w1.heap[k]? = w.heap[k]?) : d.Row w1 ok A xs :=
  ⟨h.1, fun hn => by
    obtain ⟨ad, inner, e, ho, hr, hc⟩ := h.2 hn
    refine ⟨ad, inner, e, ho, hr.imp_ (fun _ _ hp => d.step hm hp), fun j u hu => ?_⟩
    have hq := hc j u hu
    have hb : (ad.add j).block = ad.block := by unfold Addr.add; split <;> rfl
    have hlt := World.block_lt_of_cell? w _ hq.1
    have hbk : w1.heap[(ad.add j).block]? = w.heap[(ad.add j).block]? := by rw [hb] at hlt ⊢; exact hm _ ho hlt
    rw [← hq.1, ← hq.2]
    exact ⟨World.cell?_of_block hbk, World.frozen?_of_block hbk⟩⟩
theorem Row.low (hp : 0 < d.sz) (h : d.Row w ok A xs) : d.Row w (fun k => ok k ∧ k < w.heap.size) A xs :=
  ⟨h.1, fun hn => by
    obtain ⟨ad, inner, e, ho, hr, hc⟩ := h.2 hn
    refine ⟨ad, inner, e, ⟨ho, ?_⟩, hr.imp_ (fun _ _ hp => d.low hp), hc⟩
    have hl : 0 < inner.length := by rw [hr.1]; exact Nat.mul_pos hn hp
    have hq := hc 0 _ (List.getElem?_eq_getElem hl)
    have := World.block_lt_of_cell? w _ hq.1
    simpa [Addr.add] using this⟩
theorem Rd.mono (h : d.Rd w ok v xs) (hok : ∀ k, ok k → ok' k) : d.Rd w ok' v xs := by
  obtain ⟨A, c, e, hl, hr⟩ := h; exact ⟨A, c, e, hl, hr.mono hok⟩
theorem Rd.step (hp : 0 < d.sz) (h : d.Rd w ok v xs) (hm : ∀ k, ok k → k < w.heap.size → w1.heap[k]? = w.heap[k]?) : d.Rd w1 ok v xs := by
  obtain ⟨A, c, e, hl, hr⟩ := h; exact ⟨A, c, e, hl, hr.step hp hm⟩
theorem Rd.low (hp : 0 < d.sz) (h : d.Rd w ok v xs) : d.Rd w (fun k => ok k ∧ k < w.heap.size) v xs := by
  obtain ⟨A, c, e, hl, hr⟩ := h; exact ⟨A, c, e, hl, hr.low hp⟩
theorem Rd.any (h : d.Rd w ok v xs) : d.Rd w (fun _ => True) v xs := h.mono (fun _ _ => trivial)
theorem Rd.nil (d : Ki α) (w : World) (ok : Nat → Prop) : d.Rd w ok (.slice none 0 0) [] := ⟨none, 0, rfl, Nat.le_refl _, by simp, fun h => absurd h (by simp)⟩
theorem Rd.one' (h : d.Rd w ok v xs) : v.oneCell' = true := by obtain ⟨A, c, rfl, _⟩ := h; rfl
theorem Rd.max (h : d.Rd w ok v xs) : xs.length ≤ 9223372036854775807 := by obtain ⟨A, c, rfl, _, hr⟩ := h; exact hr.1.1
theorem Rd.room (h : d.Rd w ok v xs) : xs.length * d.bytes ≤ B47 := by obtain ⟨A, c, rfl, _, hr⟩ := h; exact hr.1.2
end
end Ki

/-- A field, or an element, that is a slice. -/
def kL {α : Type} (d : Ki α) (hp : 0 < d.sz) : Ki (List α) where
  sz := 1
  bytes := 24
  K := fun w ok xs cs => ∃ v, cs = [v] ∧ d.Rd w ok v xs
  len := by rintro w ok x cs ⟨v, rfl, h⟩; rfl
  one := by
    rintro w ok x cs ⟨v, rfl, h⟩ u hu
    rw [List.mem_singleton.1 hu]; exact h.one'
  mono := by rintro w ok ok' x cs ho ⟨v, rfl, h⟩; exact ⟨v, rfl, h.mono ho⟩
  step := by rintro w w1 ok x cs ho ⟨v, rfl, h⟩; exact ⟨v, rfl, h.step hp ho⟩
  low := by rintro w ok x cs ⟨v, rfl, h⟩; exact ⟨v, rfl, h.low hp⟩

namespace Ki
variable {α : Type} {d : Ki α} {w w1 : World} {ok ok' : Nat → Prop} {v : Value} {xs : List α} {A : Option Addr} {e base : Nat}
/-- What was there when the call began is there. -/
theorem Rd.below (hp : 0 < d.sz) (h : d.Rd w ok v xs) (hb : Below w.heap.size w w1) : d.Rd w1 ok v xs := h.step hp (fun k _ hk => hb.block k hk)
theorem K_below {x : α} {cs : List Value} (h : d.K w ok x cs) (hb : Below w.heap.size w w1) : d.K w1 ok x cs := d.step (fun k _ hk => hb.block k hk) h
/-- The k-th element. -/
theorem Row.at_ (h : d.Row w ok A xs) (k : Nat) (hk : k < xs.length) : ∃ ad cs, A = some ad ∧ ok ad.block ∧ d.K w ok xs[k] cs ∧ ∀ j u, cs[j]? = some u → w.cell? (ad.add (k * d.sz + j)) = some u := by
  obtain ⟨ad, inner, e, ho, hr, hc⟩ := h.2 (by omega)
  refine ⟨ad, (inner.drop (k * d.sz)).take d.sz, e, ho, hr.2 k _ (List.getElem?_eq_getElem hk), fun j u hu => (hc _ u ?_).1⟩
  rw [List.getElem?_take] at hu
  split at hu
  · rw [List.getElem?_drop] at hu; exact hu
  · cases hu
theorem Own.nil (d : Ki α) (e : Nat) (w : World) (base : Nat) (ok : Nat → Prop) : d.Own e w base ok (.slice none 0 0) [] := ⟨[], own_nil _ _ _ _, Reps.none _ _, by simp⟩
theorem Own.rd (h : d.Own e w base ok v xs) (h1 : ∀ k, ok k → ok' k) (h2 : ∀ k, base ≤ k → ok' k) : d.Rd w ok' v xs := by
  obtain ⟨inner, ho, hr, hB⟩ := h
  have hm : xs.length ≤ 9223372036854775807 := by
    rcases ho.2 with ⟨_, h⟩ | ⟨g', cap', cur, he, _, _, h1, h2, _⟩
    · omega
    · simp only [maxLen] at h2; omega
  rcases ho.2 with ⟨rfl, h0⟩ | ⟨g, cap, cur, rfl, hb, hh, hc, _⟩
  · obtain rfl := List.eq_nil_of_length_eq_zero h0
    exact Rd.nil _ _ _
  · refine ⟨_, cap, rfl, hc, ⟨hm, hB⟩, fun hn => ⟨_, inner, rfl, h2 _ hb, hr.imp_ (fun _ _ hp => d.mono (fun k hk => h1 k hk.1) hp), fun j u hu => ⟨ho.cells (g := g) rfl j u hu, by rw [Addr.add_mid, Nat.zero_add]; exact ho.frozenAt j⟩⟩⟩
theorem Own.step (h : d.Own e w base ok v xs) (hm : ∀ k, ok k → some k ≠ v.ownBlock → k < w.heap.size → w1.heap[k]? = w.heap[k]?) (hv : ∀ k, v.ownBlock = some k → w1.heap[k]? = w.heap[k]?) : d.Own e w1 base ok v xs := by
  obtain ⟨inner, ho, hr, hB⟩ := h
  exact ⟨inner, own_move ho hv, hr.imp_ (fun _ _ hp => d.step (fun k hk hl => hm k hk.1 hk.2 hl) hp), hB⟩
theorem Own.below (h : d.Own e w base ok v xs) (hb : Below w.heap.size w w1) : d.Own e w1 base ok v xs := by
  have hlt := h
  obtain ⟨inner, ho, _⟩ := hlt
  exact h.step (fun k _ _ hk => hb.block k hk) (fun k hk => hb.block k (own_lt ho k hk))
theorem Own.mono (h : d.Own e w base ok v xs) (hok : ∀ k, ok k → ok' k) : d.Own e w base ok' v xs := by
  obtain ⟨inner, ho, hr, hB⟩ := h
  exact ⟨inner, ho, hr.imp_ (fun _ _ hp => d.mono (fun k hk => ⟨hok k hk.1, hk.2⟩) hp), hB⟩
theorem Own.lt (h : d.Own e w base ok v xs) (k : Nat) (hk : v.ownBlock = some k) : base ≤ k ∧ k < w.heap.size := by
  obtain ⟨inner, ho, _⟩ := h
  exact ⟨own_base ho k hk, own_lt ho k hk⟩
theorem Own.grown (h : d.Own e w base ok v xs) {row : Option Nat} (hg : w.grownBy w1 row) (hne : ∀ k, row = some k → ¬ ok k) (hv : ∀ k, v.ownBlock = some k → row ≠ some k) : d.Own e w1 base ok v xs := by
  have hlt := h
  obtain ⟨inner, ho, _⟩ := hlt
  exact h.step (fun k hk _ hl => hg.block k hl (fun e => hne k e.symm hk)) (fun k hk => hg.block k (own_lt ho k hk) (fun e => hv k hk e.symm))
theorem Rd.grown (hp : 0 < d.sz) (h : d.Rd w ok v xs) {row : Option Nat} (hg : w.grownBy w1 row) (hne : ∀ k, row = some k → ¬ ok k) : d.Rd w1 ok v xs :=
  h.step hp (fun k hk hl => hg.block k hl (fun e => hne k e.symm hk))
theorem Own.slice_ (h : d.Own e w base ok v xs) : ∃ A c, v = .slice A xs.length c ∧ xs.length ≤ c := by
  obtain ⟨A, c, h1, h2, _⟩ := h.rd (ok' := fun _ => True) (fun _ _ => trivial) (fun _ _ => trivial)
  exact ⟨A, c, h1, h2⟩
theorem Own.lit (W : World) {inner : List Value} (hr : Reps (d.K W ok) d.sz xs inner) (hb : base ≤ W.heap.size) (hm : xs.length ≤ 9223372036854775807) (hB : xs.length * d.bytes ≤ B47) :
    d.Own e (W.alloc (.cells inner.toArray e)) base ok (.slice (some ⟨W.heap.size, 0, none⟩) xs.length xs.length) xs := by
  have h := World.ownsRow_lit (base := base) (e := e) (size := d.sz) W inner.toArray xs.length hb (by simpa [maxLen] using hm) (by simpa using hr.1)
  refine ⟨inner, by simpa using h, hr.imp_ (fun _ _ hp => ?_), hB⟩
  have h1 := d.low hp
  have h2 : d.K (W.alloc (.cells inner.toArray e)) (fun k => ok k ∧ k < W.heap.size) _ _ := K_below h1 (below_alloc (Below.refl _ _) _)
  refine d.mono (fun k hk => ⟨hk.1, fun e => ?_⟩) h2
  simp [Value.ownBlock] at e
  omega

section
variable {P : Program} {ops : Array Oper} {rest : List Oper} {o : Oper} {a : Act} {Q : Exit → Act → World → Prop}
/-- What an append of news (elements ys) leaves. -/
theorem Own.appended {W w1 : World} {v1 : Value} {ys : List α} {inner cs : List Value} (hr : Reps (d.K W (fun k => ok k ∧ some k ≠ v.ownBlock)) d.sz xs inner)
    (hp : Reps (d.K W (fun k => ok k ∧ some k ≠ v.ownBlock)) d.sz ys cs) (hown : w1.ownsRow base e d.sz v1 (xs.length + ys.length) (inner ++ cs)) (hg : W.grownBy w1 v.ownBlock)
    (hat : v1.ownBlock = v.ownBlock ∨ ∃ b, v1.ownBlock = some b ∧ W.heap.size ≤ b) (hB : (xs.length + ys.length) * d.bytes ≤ B47) : d.Own e w1 base ok v1 (xs ++ ys) := by
  have hne : ∀ k, some k ≠ v.ownBlock → k < W.heap.size → some k ≠ v1.ownBlock := by
    intro k hk hlt
    rcases hat with hat | ⟨b, hb, hle⟩
    · rw [hat]; exact hk
    · rw [hb]
      intro he
      injection he with he
      omega
  have st : ∀ {q : α} {c : List Value}, d.K W (fun k => ok k ∧ some k ≠ v.ownBlock) q c → d.K w1 (fun k => ok k ∧ some k ≠ v1.ownBlock) q c := by
    intro q c hq
    have h1 := d.step (w1 := w1) (fun k hk hl => hg.block k hl hk.1.2) (d.low hq)
    exact d.mono (fun k hk => ⟨hk.1.1, hne k hk.1.2 hk.2⟩) h1
  refine ⟨inner ++ cs, by rw [List.length_append]; exact hown, ?_, by rw [List.length_append]; exact hB⟩
  have hr' := hr.imp_ (fun _ _ hq => st hq)
  have hp' := hp.imp_ (fun _ _ hq => st hq)
  refine ⟨by rw [List.length_append, List.length_append, hr.1, hp.1, Nat.add_mul], fun j p hj => ?_⟩
  rcases Nat.lt_or_ge j xs.length with hl | hl
  · rw [List.getElem?_append_left hl] at hj
    have h1 : j * d.sz + d.sz ≤ inner.length := by rw [hr.1, ← Nat.succ_mul]; exact Nat.mul_le_mul_right _ hl
    have h2 := hr'.2 j p hj
    rw [List.drop_append_of_le_length (by omega), List.take_append_of_le_length (by rw [List.length_drop]; omega)]
    exact h2
  · rw [List.getElem?_append_right hl] at hj
    have h2 := hp'.2 _ p hj
    have h3 : j * d.sz = inner.length + (j - xs.length) * d.sz := by rw [hr.1, ← Nat.add_mul]; congr 1; omega
    rw [h3, List.drop_append, List.drop_eq_nil_of_le (by omega), List.nil_append, Nat.add_sub_cancel_left]
    exact h2
/-- append(v, x), behind 'at_builtin'; the goal's world is 'W.alloc' of the variadic's box. -/
theorem Own.append (d : Ki α) {w0 W : World} (base : Nat) (hgd : o.guard = none) (s x : Operand) (t e : TypeId) (z : Value)
    (ho : o.op = .call { callee := .builtin .append, args := #[s, x], argTypes := #[t, t] })
    (ht : P.underlying t = some (.slice e)) (hinfo : (P.info? e).map (fun i => (i.zero, i.size, i.bytes)) = some (some z, d.sz, d.bytes)) (hz : z.cells.size = d.sz) (hs0 : 0 < d.sz) (hb0 : 0 < d.bytes)
    (v : Value) (xs : List α) (p : α) (cs : List Value) (ok : Nat → Prop) (hs : a.eval s = v) (hx : a.eval x = .slice (some ⟨W.heap.size, 0, none⟩) 1 1) (hp : d.K W (fun k => ok k ∧ some k ≠ v.ownBlock) p cs)
    (HO : d.Own e W base ok v xs) (HB : Below base w0 W) (hbase : base ≤ W.heap.size) (hl : (xs.length + 1) * d.bytes ≤ B47)
    (h : ∀ v1 w1, d.Own e w1 base ok v1 (xs ++ [p]) → Below base w0 w1 → W.grownBy w1 v.ownBlock → (v1.ownBlock = v.ownBlock ∨ ∃ b, v1.ownBlock = some b ∧ W.heap.size ≤ b) → wpList P ops Q rest (a.put o.dst v1) w1) :
    wpList P ops Q (o :: rest) a (W.alloc (.cells cs.toArray e)) := by
  obtain ⟨inner, hown, hr, hB⟩ := HO
  refine print_append_cells base hgd s x t e z d.sz d.bytes ho ht hinfo hz hs0 hb0 v xs.length inner cs hs hx (d.len hp) (d.one hp) hown HB hbase hl ?_
  intro v1 w1 hown1 hb1 hg1 hat1
  have hr1 : Reps (d.K W (fun k => ok k ∧ some k ≠ v.ownBlock)) d.sz [p] cs := by
    have := (Reps.none (d.K W (fun k => ok k ∧ some k ≠ v.ownBlock)) d.sz).snoc hp (d.len hp)
    simpa using this
  exact h v1 w1 (Own.appended hr hr1 hown1 hg1 hat1 hl) hb1 hg1 hat1
end
end Ki
end Go.Proofs.Ytkbjbkmaokebgaa.Gz

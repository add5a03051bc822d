import Derived.Test.YtkbjbkmaokebgaaKit2
import Derived.Test.YtkbjbkmaokebgaaSamers
set_option linter.unusedVariables false
set_option linter.unusedSimpArgs false
namespace Go.Proofs.Ytkbjbkmaokebgaa.Gz
open Go.RowKit Go.Proofs.YtkbjbkmaokebgaaW.PrintWords
open Ki
/-! Loops that overwrite labels and bytes of rows that a call has made (R4's laws). -/
/-- What such loops leave: all blocks but those from H up to H2 are as they were; a text stays a text, a byte a byte, and a slice is as it was. -/
structure Mid (H H2 : Nat) (w w' : World) : Prop where
  os : w'.os = w.os
  tape : w'.tape = w.tape
  output : w'.output = w.output
  size : w.heap.size ≤ w'.heap.size
  block : ∀ k, (k < H ∨ H2 ≤ k) → w'.heap[k]? = w.heap[k]?
  str : ∀ a s, w.cell? a = some (.string s) → ∃ s', w'.cell? a = some (.string s')
  byt : ∀ a x, w.cell? a = some (.int .u8 x) → ∃ x', w'.cell? a = some (.int .u8 x')
  sli : ∀ a A n c, w.cell? a = some (.slice A n c) → w'.cell? a = some (.slice A n c)
  froz : ∀ a, w'.frozen? a = w.frozen? a
namespace Mid
variable {H H2 : Nat} {w w' : World}
theorem refl (H H2 : Nat) (w : World) : Mid H H2 w w := ⟨rfl, rfl, rfl, Nat.le_refl _, fun _ _ => rfl, fun _ s h => ⟨s, h⟩, fun _ x h => ⟨x, h⟩, fun _ _ _ _ h => h, fun _ => rfl⟩
theorem cell (h : Mid H H2 w w') {a : Addr} (ha : a.block < H ∨ H2 ≤ a.block) : w'.cell? a = w.cell? a := World.cell?_of_block (h.block _ ha)
theorem setS (h : Mid H H2 w w') {a : Addr} {s v : ByteArray} (ha : w'.cell? a = some (.string s)) (hH : H ≤ a.block ∧ a.block < H2) : Mid H H2 w (w'.setCell a (.string v)) := by
  have hs : (w'.setCell a (.string v)).heap.size = w'.heap.size := World.size_setCell ..
  refine ⟨h.os, h.tape, h.output, by rw [hs]; exact h.size, fun k hk => ?_, fun b s hb => ?_, fun b x hb => ?_, fun b A n c hb => ?_, fun b => ?_⟩
  · rw [Below.heap_setCell w' a _ k (by omega)]; exact h.block k hk
  · obtain ⟨s1, h1⟩ := h.str b s hb
    by_cases e : a = b
    · subst e; exact ⟨v, set_same ha⟩
    · exact ⟨s1, by rw [set_other e]; exact h1⟩
  · obtain ⟨x1, h1⟩ := h.byt b x hb
    by_cases e : a = b
    · subst e; rw [ha] at h1; cases h1
    · exact ⟨x1, by rw [set_other e]; exact h1⟩
  · have h1 := h.sli b A n c hb
    by_cases e : a = b
    · subst e; rw [ha] at h1; cases h1
    · rw [set_other e]; exact h1
  · rw [World.frozen?_setCell]; exact h.froz b
theorem setU (h : Mid H H2 w w') {a : Addr} {s v : Int} (ha : w'.cell? a = some (.int .u8 s)) (hH : H ≤ a.block ∧ a.block < H2) : Mid H H2 w (w'.setCell a (.int .u8 v)) := by
  have hs : (w'.setCell a (.int .u8 v)).heap.size = w'.heap.size := World.size_setCell ..
  refine ⟨h.os, h.tape, h.output, by rw [hs]; exact h.size, fun k hk => ?_, fun b s hb => ?_, fun b x hb => ?_, fun b A n c hb => ?_, fun b => ?_⟩
  · rw [Below.heap_setCell w' a _ k (by omega)]; exact h.block k hk
  · obtain ⟨s1, h1⟩ := h.str b s hb
    by_cases e : a = b
    · subst e; rw [ha] at h1; cases h1
    · exact ⟨s1, by rw [set_other e]; exact h1⟩
  · obtain ⟨x1, h1⟩ := h.byt b x hb
    by_cases e : a = b
    · subst e; exact ⟨v, set_same ha⟩
    · exact ⟨x1, by rw [set_other e]; exact h1⟩
  · have h1 := h.sli b A n c hb
    by_cases e : a = b
    · subst e; rw [ha] at h1; cases h1
    · rw [set_other e]; exact h1
  · rw [World.frozen?_setCell]; exact h.froz b
theorem below (h : Mid H H2 w w') : Below H w w' := ⟨h.os, h.tape, h.output, h.size, fun k hk => h.block k (.inl hk)⟩
end Mid
section
variable {α : Type} {d : Ki α} {w : World} {ok : Nat → Prop} {xs : List α} {A : Option Addr} {e base : Nat} {v : Value}
/-- The k-th element, and that its cells may be written. -/
theorem row_atf (h : d.Row w ok A xs) (k : Nat) (hk : k < xs.length) : ∃ ad cs, A = some ad ∧ ok ad.block ∧ d.K w ok xs[k] cs ∧ ∀ j u, cs[j]? = some u → w.cell? (ad.add (k * d.sz + j)) = some u ∧ w.frozen? (ad.add (k * d.sz + j)) = false := by
  obtain ⟨ad, inner, e, ho, hr, hc⟩ := h.2 (by omega)
  refine ⟨ad, (inner.drop (k * d.sz)).take d.sz, e, ho, hr.2 k _ (List.getElem?_eq_getElem hk), fun j u hu => hc _ u ?_⟩
  rw [List.getElem?_take] at hu
  split at hu
  · rw [List.getElem?_drop] at hu; exact hu
  · cases hu
/-- The k-th element of a row of the call's own. -/
theorem own_at (h : d.Own e w base ok v xs) (k : Nat) (hk : k < xs.length) : ∃ ad c cs, v = .slice (some ad) xs.length c ∧ base ≤ ad.block ∧ d.K w ok xs[k] cs ∧ ∀ j u, cs[j]? = some u → w.cell? (ad.add (k * d.sz + j)) = some u := by
  obtain ⟨inner, ho, hr, _⟩ := h
  rcases ho.2 with ⟨rfl, h0⟩ | ⟨g, cap, cur, rfl, hb, hh, hc, _⟩
  · omega
  · refine ⟨⟨g, 0, none⟩, cap, (inner.drop (k * d.sz)).take d.sz, rfl, hb, d.mono (fun _ hk => hk.1) (hr.2 k _ (List.getElem?_eq_getElem hk)), fun j u hu => ?_⟩
    have hu2 : inner[k * d.sz + j]? = some u := by
      rw [List.getElem?_take] at hu
      split at hu
      · rw [List.getElem?_drop] at hu; exact hu
      · cases hu
    exact ho.cells (g := g) rfl _ u hu2
end
theorem add_block (a : Addr) (j : Nat) : (a.add j).block = a.block := by unfold Addr.add; split <;> rfl
/-- The place of a label that may be written. -/
theorem spotS {w : World} {ok : Nat → Prop} {A : Option Addr} {n c : Nat} {xs : List ByteArray} (h : kS.Rd w ok (.slice A n c) xs) (j : Nat) (hj : j < xs.length) : ∃ ad s, A = some ad ∧ ok (ad.add j).block ∧ w.cell? (ad.add j) = some (.string s) ∧ w.frozen? (ad.add j) = false := by
  obtain ⟨A', c', he, _, hr⟩ := h
  obtain ⟨rfl, _⟩ : A = A' ∧ True := by injection he with h1; exact ⟨h1, trivial⟩
  obtain ⟨ad, cs, e, ho, hK, hc⟩ := row_atf hr j hj
  obtain ⟨rfl, _⟩ := hK
  have h1 := hc 0 _ rfl
  have h2 : j * kS.sz + 0 = j := by show j * 1 + 0 = j; omega
  rw [h2] at h1
  exact ⟨ad, _, e, by rw [add_block]; exact ho, h1.1, h1.2⟩
/-- The place of a byte that may be written. -/
theorem spotU {w : World} {ok : Nat → Prop} {A : Option Addr} {n c : Nat} {xs : List Int} (h : kU.Rd w ok (.slice A n c) xs) (j : Nat) (hj : j < xs.length) : ∃ ad s, A = some ad ∧ ok (ad.add j).block ∧ w.cell? (ad.add j) = some (.int .u8 s) ∧ w.frozen? (ad.add j) = false := by
  obtain ⟨A', c', he, _, hr⟩ := h
  obtain ⟨rfl, _⟩ : A = A' ∧ True := by injection he with h1; exact ⟨h1, trivial⟩
  obtain ⟨ad, cs, e, ho, hK, hc⟩ := row_atf hr j hj
  obtain ⟨rfl, _⟩ := hK
  have h1 := hc 0 _ rfl
  have h2 : j * kU.sz + 0 = j := by show j * 1 + 0 = j; omega
  rw [h2] at h1
  exact ⟨ad, _, e, by rw [add_block]; exact ho, h1.1, h1.2⟩
theorem kR_parts {w : World} {ok : Nat → Prop} {r : RR} {cs : List Value} (h : kR.K w ok r cs) :
    ∃ A0 k0 A4 k4 A5 k5 v6 v7 v8, cs = [.slice A0 r.name.length k0, .int .i64 r.typ, .int .i64 r.cls, .int .i64 r.ttl, .slice A4 r.data.bytes.length k4, .slice A5 r.data.host.length k5, v6, v7, v8] ∧
      kS.Rd w ok (.slice A0 r.name.length k0) r.name ∧ kU.Rd w ok (.slice A4 r.data.bytes.length k4) r.data.bytes ∧ kS.Rd w ok (.slice A5 r.data.host.length k5) r.data.host := by
  obtain ⟨v0, cd, rfl, h0, _, _, _, v4, v5, v6, v7, v8, rfl, h4, h5, _⟩ := h
  obtain ⟨A0, k0, rfl, r0⟩ := h0
  obtain ⟨A4, k4, rfl, r4⟩ := h4
  obtain ⟨A5, k5, rfl, r5⟩ := h5
  exact ⟨A0, k0, A4, k4, A5, k5, v6, v7, v8, rfl, ⟨_, _, rfl, r0⟩, ⟨_, _, rfl, r4⟩, ⟨_, _, rfl, r5⟩⟩
/-- The cells of a record in a row of the call's own. -/
theorem own_r {e base : Nat} {w : World} {ok : Nat → Prop} {v : Value} {xs : List RR} (h : kR.Own e w base ok v xs) (k : Nat) (hk : k < xs.length) :
    ∃ ad c A0 k0 A4 k4 A5 k5, v = .slice (some ad) xs.length c ∧ base ≤ ad.block ∧
      w.cell? (ad.add (k * 9)) = some (.slice A0 xs[k].name.length k0) ∧ w.cell? ⟨(ad.add (k * 9)).block, (ad.add (k * 9)).off + 4, none⟩ = some (.slice A4 xs[k].data.bytes.length k4) ∧ w.cell? ⟨(ad.add (k * 9)).block, (ad.add (k * 9)).off + 5, none⟩ = some (.slice A5 xs[k].data.host.length k5) ∧
      kS.Rd w ok (.slice A0 xs[k].name.length k0) xs[k].name ∧ kU.Rd w ok (.slice A4 xs[k].data.bytes.length k4) xs[k].data.bytes ∧ kS.Rd w ok (.slice A5 xs[k].data.host.length k5) xs[k].data.host := by
  obtain ⟨ad, c, cs, hv, hb, hK, hc⟩ := own_at h k hk
  obtain ⟨A0, k0, A4, k4, A5, k5, v6, v7, v8, rfl, r0, r4, r5⟩ := kR_parts hK
  have h9 := cells9 (k * 9) hc
  exact ⟨ad, c, A0, k0, A4, k4, A5, k5, hv, hb, h9.1, h9.2.2.2.2.1, h9.2.2.2.2.2.1, r0, r4, r5⟩
theorem rd_apart' {α : Type} {d : Ki α} {e n : Nat} {W : World} {ok : Nat → Prop} {y v : Value} {ys xs : List α} (hr : d.Rd W ok y ys) (hn : ∀ k, ok k → k < n) (ho : d.Own e W n ok v xs) : d.Rd W (fun k => ok k ∧ some k ≠ v.ownBlock) y ys :=
  hr.mono (fun k hk => ⟨hk, fun e => by have h1 := (ho.lt k e.symm).1; have h2 := hn k hk; omega⟩)
end Go.Proofs.Ytkbjbkmaokebgaa.Gz

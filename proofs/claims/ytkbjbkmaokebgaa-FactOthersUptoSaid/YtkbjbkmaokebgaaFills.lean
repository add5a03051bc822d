import Derived.Test.YtkbjbkmaokebgaaZrefer
set_option linter.unusedVariables false
set_option linter.unusedSimpArgs false
namespace Go.Proofs.Ytkbjbkmaokebgaa.Gz
open Go.RowKit Go.Proofs.YtkbjbkmaokebgaaW.PrintWords
open Ki
/-- What zone.fill leaves in a message. -/
structure Out where
  ans : List RR
  auth : List RR
  extra : List RR
  rcode : Int
  aa : Bool
/-- What is answered of a name n, behind answers ans, the names seen being seen. -/
inductive Fills (z : Zone) (kind : Int) : List (List ByteArray) → List ByteArray → List RR → Out → Prop
  | cut (seen : List (List ByteArray)) (n : List ByteArray) (ans : List RR) (c : List ByteArray) (hc : zcut z n = some c) :
      Fills z kind seen n ans ⟨ans, zof z.recs c 2, zhosts z.recs (zof z.recs c 2), 0, decide (0 < ans.length)⟩
  | hit (seen : List (List ByteArray)) (n : List ByteArray) (ans : List RR) (hc : zcut z n = none) (hl : 0 < (zof z.recs n kind).length) :
      Fills z kind seen n ans ⟨ans ++ zof z.recs n kind, [], [], 0, true⟩
  | none (seen : List (List ByteArray)) (n : List ByteArray) (ans : List RR) (hc : zcut z n = none) (hl : ¬ 0 < (zof z.recs n kind).length) (h5 : (zof z.recs n 5).length = 0) :
      Fills z kind seen n ans ⟨ans, zof z.recs z.name 6, [], if (z.recs.any fun r => nUnder r.name n) = true then 0 else 3, true⟩
  | out (seen : List (List ByteArray)) (n : List ByteArray) (ans : List RR) (r : RR) (hc : zcut z n = none) (hl : ¬ 0 < (zof z.recs n kind).length) (h5 : (zof z.recs n 5)[0]? = some r)
      (hs : (!nUnder r.data.host z.name || seen.any fun s => nEq s r.data.host) = true) : Fills z kind seen n ans ⟨ans ++ [r], [], [], 0, true⟩
  | go (seen : List (List ByteArray)) (n : List ByteArray) (ans : List RR) (r : RR) (o : Out) (hc : zcut z n = none) (hl : ¬ 0 < (zof z.recs n kind).length) (h5 : (zof z.recs n 5)[0]? = some r)
      (hs : (!nUnder r.data.host z.name || seen.any fun s => nEq s r.data.host) = false) (h : Fills z kind (seen ++ [r.data.host]) r.data.host (ans ++ [r]) o) : Fills z kind seen n ans o

theorem nEq_iff (a b : List ByteArray) : nEq a b = true ↔ a.map Nm.lows = b.map Nm.lows := by unfold nEq; exact decide_eq_true_iff
theorem nEq_symm {a b : List ByteArray} (h : nEq a b = true) : nEq b a = true := (nEq_iff _ _).2 ((nEq_iff _ _).1 h).symm
theorem nEq_trans {a b c : List ByteArray} (h : nEq a b = true) (k : nEq b c = true) : nEq a c = true := (nEq_iff _ _).2 (((nEq_iff _ _).1 h).trans ((nEq_iff _ _).1 k))
/-- The records that no name of a list is called like. -/
def left (l : List RR) (been : List (List ByteArray)) : Nat := (l.filter fun r => !been.any fun s => nEq s r.name).length
theorem left_le (l : List RR) (been : List (List ByteArray)) : left l been ≤ l.length := List.length_filter_le _ _
theorem filter_lt {α : Type} (p q : α → Bool) (l : List α) (himp : ∀ x, q x = true → p x = true) (x : α) (hx : x ∈ l) (hp : p x = true) (hq : q x = false) : (l.filter q).length < (l.filter p).length := by
  induction l with
  | nil => cases hx
  | cons a l ih =>
    rw [List.filter_cons, List.filter_cons]
    have hle : (l.filter q).length ≤ (l.filter p).length := by
      clear ih hx
      induction l with
      | nil => simp
      | cons b l ih =>
        rw [List.filter_cons, List.filter_cons]
        cases hqb : q b with
        | true => rw [himp b hqb]; simpa using ih
        | false => cases p b <;> simp <;> omega
    rcases List.mem_cons.1 hx with rfl | hm
    · rw [hp, hq]; simp; omega
    · have := ih hm
      cases hqa : q a with
      | true => rw [himp a hqa]; simpa using this
      | false => cases p a <;> simp <;> omega
/-- Where a name leads on to a record, fewer are left. -/
theorem left_lt (l : List RR) (been : List (List ByteArray)) (n : List ByteArray) (r : RR) (hr : (zof l n 5)[0]? = some r) (hn : (been.any fun s => nEq s n) = false) : left l (been ++ [n]) < left l been := by
  have hm : r ∈ zof l n 5 := List.mem_of_getElem? hr
  unfold zof at hm
  obtain ⟨hm, hp⟩ := List.mem_filter.1 hm
  rw [Bool.and_eq_true] at hp
  refine filter_lt _ _ l (fun x hx => ?_) r hm ?_ ?_
  · rw [List.any_append] at hx
    revert hx
    cases been.any fun s => nEq s x.name <;> simp
  · rw [Bool.not_eq_true']
    by_cases h : (been.any fun s => nEq s r.name) = true
    · exfalso
      obtain ⟨s, hs, hq⟩ := List.any_eq_true.1 h
      have : (been.any fun s => nEq s n) = true := List.any_eq_true.2 ⟨s, hs, nEq_trans hq hp.2⟩
      rw [this] at hn; cases hn
    · simpa using h
  · rw [List.any_append]
    simp [nEq_symm hp.2]

/-- Another row of the call's own, behind an append to v. -/
theorem own_other {α : Type} {d : Ki α} {e base : Nat} {W w1 : World} {P : Nat → Prop} {u v v1 : Value} {ys : List α} (h : d.Own e W base (fun k => P k ∧ some k ≠ v.ownBlock) u ys) (hg : W.grownBy w1 v.ownBlock)
    (hat : v1.ownBlock = v.ownBlock ∨ ∃ b, v1.ownBlock = some b ∧ W.heap.size ≤ b) (hd : ∀ k, u.ownBlock = some k → v.ownBlock ≠ some k) :
    d.Own e w1 base (fun k => P k ∧ some k ≠ v1.ownBlock) u ys ∧ ∀ k, u.ownBlock = some k → v1.ownBlock ≠ some k := by
  have hne : ∀ k, some k ≠ v.ownBlock → k < W.heap.size → some k ≠ v1.ownBlock := by
    intro k hk hlt
    rcases hat with hat | ⟨b, hb, hle⟩
    · rw [hat]; exact hk
    · rw [hb]
      intro he
      injection he with he
      omega
  refine ⟨?_, fun k hk he => hne k (fun h => hd k hk h.symm) (h.lt k hk).2 he.symm⟩
  have hl : ∀ k, u.ownBlock = some k → k < W.heap.size := fun k hk => (h.lt k hk).2
  obtain ⟨inner, ho, hr, hB⟩ := h
  refine ⟨inner, own_move ho (fun k hk => hg.block k (hl k hk) (fun e => hd k hk e.symm)), hr.imp_ (fun _ _ hp => ?_), hB⟩
  have h1 := d.low hp
  have h2 := d.step (w1 := w1) (fun k hk _ => hg.block k hk.2 hk.1.1.2) h1
  exact d.mono (fun k hk => ⟨⟨hk.1.1.1, hne k hk.1.1.2 hk.2⟩, hk.1.2⟩) h2
/-- What is read, behind an append to v. -/
theorem rd_other {α : Type} {d : Ki α} {W w1 : World} {P : Nat → Prop} {u v v1 : Value} {ys : List α} (hp : 0 < d.sz) (h : d.Rd W (fun k => P k ∧ some k ≠ v.ownBlock) u ys) (hg : W.grownBy w1 v.ownBlock)
    (hat : v1.ownBlock = v.ownBlock ∨ ∃ b, v1.ownBlock = some b ∧ W.heap.size ≤ b) : d.Rd w1 (fun k => P k ∧ some k ≠ v1.ownBlock) u ys := by
  have h1 := (h.low hp).step hp (w1 := w1) (fun k hk _ => hg.block k hk.2 hk.1.2)
  refine h1.mono (fun k hk => ⟨hk.1.1, ?_⟩)
  rcases hat with hat | ⟨b, hb, hle⟩
  · rw [hat]; exact hk.1.2
  · rw [hb]
    intro he
    injection he with he
    have := hk.2
    omega
end Go.Proofs.Ytkbjbkmaokebgaa.Gz

import Derived.Test.YtkbjbkmaokebgaaBase
set_option linter.unusedVariables false
set_option linter.unusedSimpArgs false
namespace Go.Proofs.Ytkbjbkmaokebgaa.Gz
open Go.RowKit Go.Proofs.YtkbjbkmaokebgaaW.PrintWords
namespace Ki
variable {α : Type} {d : Ki α} {w w1 : World} {ok ok' : Nat → Prop} {v : Value} {xs ys : List α} {A : Option Addr} {e base : Nat}
/-- The cells of a row that is read, one behind the other; none where it is empty. -/
theorem Rd.inner (h : d.Rd w ok v xs) : ∃ A c inner, v = .slice A xs.length c ∧ xs.length ≤ c ∧ Reps (d.K w ok) d.sz xs inner ∧ (0 < xs.length → ∃ ad, A = some ad ∧ ok ad.block ∧ ∀ j u, inner[j]? = some u → w.cell? (ad.add j) = some u) := by
  obtain ⟨A, c, rfl, hl, hr⟩ := h
  rcases Nat.eq_zero_or_pos xs.length with h0 | h0
  · obtain rfl := List.eq_nil_of_length_eq_zero h0
    exact ⟨A, c, [], rfl, hl, Reps.none _ _, fun h => absurd h (by simp)⟩
  · obtain ⟨ad, inner, e, ho, hp, hc⟩ := hr.2 h0
    exact ⟨A, c, inner, rfl, hl, hp, fun _ => ⟨ad, e, ho, fun j u hu => (hc j u hu).1⟩⟩
theorem Reps.ones {inner : List Value} (h : Reps (d.K w ok) d.sz xs inner) (hs : 0 < d.sz) : ∀ u ∈ inner, u.oneCell' = true := by
  intro u hu
  obtain ⟨i, hi, rfl⟩ := List.getElem_of_mem hu
  have hj : i / d.sz < xs.length := by
    rw [Nat.div_lt_iff_lt_mul hs, ← h.1]; exact hi
  have h1 := d.one (h.2 (i / d.sz) _ (List.getElem?_eq_getElem hj))
  have hm : i / d.sz * d.sz + i % d.sz = i := by rw [Nat.mul_comm]; exact Nat.div_add_mod _ _
  have hlt := Nat.mod_lt i hs
  refine h1 _ (List.mem_of_getElem? (i := i % d.sz) ?_)
  rw [List.getElem?_take, if_pos hlt, List.getElem?_drop, hm, List.getElem?_eq_getElem hi]
/-- []T{} -/
theorem Own.lit0 (d : Ki α) (e : Nat) (W : World) (base : Nat) (ok : Nat → Prop) (hb : base ≤ W.heap.size) :
    d.Own e (W.alloc (.cells #[] e)) base ok (.slice (some ⟨W.heap.size, 0, none⟩) 0 0) [] := by
  have h := Own.lit (d := d) (e := e) (base := base) (ok := ok) (xs := []) (inner := []) W (Reps.none _ _) hb (by simp) (by simp)
  exact h
section
variable {P : Program}
/-- append(v, ys...), v a row of the call's own, ys one that is read. -/
theorem run_append_row {W : World} (base : Nat) (t ty : TypeId) (z : Value)
    (ht : P.underlying t = some (.slice e)) (hinfo : (P.info? e).map (fun i => (i.zero, i.size, i.bytes)) = some (some z, d.sz, d.bytes)) (hz : z.cells.size = d.sz) (hs0 : 0 < d.sz) (hb0 : 0 < d.bytes)
    (x : Value) (HO : d.Own e W base ok v xs) (HR : d.Rd W (fun k => ok k ∧ some k ≠ v.ownBlock) x ys) (hbase : base ≤ W.heap.size) (hl : (xs.length + ys.length) * d.bytes ≤ B47) :
    ∃ v1 w1, (Builtin.append_ #[t, t] ty #[v, x]).run P W = .ok v1 w1 ∧ d.Own e w1 base ok v1 (xs ++ ys) ∧ W.grownBy w1 v.ownBlock ∧ (v1.ownBlock = v.ownBlock ∨ ∃ b, v1.ownBlock = some b ∧ W.heap.size ≤ b) := by
  obtain ⟨i0, hi, hzz⟩ := Option.map_eq_some_iff.1 hinfo
  simp only [Prod.mk.injEq] at hzz
  obtain ⟨hz0, hz1, hz2⟩ := hzz
  have hlen : xs.length + ys.length ≤ 140737488355328 := Nat.le_trans (Nat.le_mul_of_pos_right _ hb0) hl
  obtain ⟨A, c, news, rfl, hlc, hp, hA⟩ := HR.inner
  have HO' := HO
  obtain ⟨inner, hown, hr, _⟩ := HO
  rcases Nat.eq_zero_or_pos ys.length with h0 | h0
  · obtain rfl := List.eq_nil_of_length_eq_zero h0
    refine ⟨v, W, ?_, by simpa using HO', World.grownBy.refl W _, .inl rfl⟩
    rcases hown.2 with ⟨rfl, hn⟩ | ⟨g, cap, cur, rfl, _, _, hnc, _⟩
    · cases A <;> simp [Builtin.append_, run_underlying ht, sizeOf, typeInfo, hi, Builtin.lenOf, Builtin.firstCells, loadCells, loadCellsFrom]
    · cases A <;> simp [Builtin.append_, run_underlying ht, sizeOf, typeInfo, hi, Builtin.lenOf, Builtin.firstCells, hnc, storeCells, loadCells, loadCellsFrom]
  · obtain ⟨ad, rfl, hok, hc⟩ := hA h0
    obtain ⟨v1, w1, hr1, h2, h3, _, h5⟩ := run_append_own_at (P := P) W base t ty e i0 z d.sz d.bytes ht hi hz0 hz1 hz2 hz hs0 v xs.length inner hown ad ys.length c news hp.1 hc (Reps.ones hp hs0) (by simp only [maxLen]; omega) hl hbase
    refine ⟨v1, w1, hr1, Own.appended hr hp h2 h3 ?_ hl, h3, ?_⟩ <;>
    · rcases h5 with h5 | h5
      · exact .inl h5
      · exact .inr ⟨_, h5, Nat.le_refl _⟩
/-- append(s, ys...), s empty and without room: whatever it was, the row is a new one (or s itself, where nothing is appended). -/
theorem run_append_zero {W : World} (base : Nat) (t ty : TypeId) (z : Value)
    (ht : P.underlying t = some (.slice e)) (hinfo : (P.info? e).map (fun i => (i.zero, i.size, i.bytes)) = some (some z, d.sz, d.bytes)) (hz : z.cells.size = d.sz) (hs0 : 0 < d.sz) (hb0 : 0 < d.bytes)
    (S : Option Addr) (x : Value) (HO : d.Own e W base ok (.slice S 0 0) []) (HR : d.Rd W ok x ys) (hbase : base ≤ W.heap.size) (hl : ys.length * d.bytes ≤ B47) :
    ∃ v1 w1, (Builtin.append_ #[t, t] ty #[.slice S 0 0, x]).run P W = .ok v1 w1 ∧ d.Own e w1 base ok v1 ys ∧ Below W.heap.size W w1 := by
  obtain ⟨i0, hi, hzz⟩ := Option.map_eq_some_iff.1 hinfo
  simp only [Prod.mk.injEq] at hzz
  obtain ⟨hz0, hz1, hz2⟩ := hzz
  have hlen : ys.length ≤ 140737488355328 := Nat.le_trans (Nat.le_mul_of_pos_right _ hb0) hl
  obtain ⟨A, c, news, rfl, hlc, hp, hA⟩ := HR.inner
  rcases Nat.eq_zero_or_pos ys.length with h0 | h0
  · obtain rfl := List.eq_nil_of_length_eq_zero h0
    refine ⟨.slice S 0 0, W, ?_, HO, Below.refl _ _⟩
    cases A <;> cases S <;> simp [Builtin.append_, run_underlying ht, sizeOf, typeInfo, hi, Builtin.lenOf, Builtin.firstCells, storeCells, loadCells, loadCellsFrom]
  · obtain ⟨ad, rfl, hok, hc⟩ := hA h0
    have fin : ∀ v' w', w'.ownsRow W.heap.size e d.sz v' (0 + ys.length) ([] ++ news) → W.grownBy w' none → d.Own e w' base ok v' ys ∧ Below W.heap.size W w' := by
      intro v' w' ho hg
      have hb : Below W.heap.size W w' := (Below.refl _ _).grown hg (Nat.le_refl _) (fun k hk => by cases hk)
      rw [Nat.zero_add, List.nil_append] at ho
      refine ⟨⟨news, own_weaken ho hbase, (hp.imp_ (fun _ _ hq => K_below (d.low hq) hb)).imp_ (fun _ _ hq => d.mono (fun k hk => ⟨hk.1, fun h => ?_⟩) hq), hl⟩, hb⟩
      have := own_base ho k h.symm
      omega
    rcases S with _ | b
    · obtain ⟨v1, w1, hr1, h2, h3, _⟩ := run_append_own (P := P) W W.heap.size t ty e i0 z d.sz d.bytes ht hi hz0 hz1 hz2 hz hs0 (.slice none 0 0) 0 [] (World.ownsRow_nil W _ e d.sz) ad ys.length c news hp.1 hc (Reps.ones hp hs0) (by simp only [maxLen]; omega) (by rw [Nat.zero_add]; exact hl) (Nat.le_refl _)
      exact ⟨v1, w1, hr1, fin v1 w1 h2 h3⟩
    · obtain ⟨v1, w1, hr1, h2, h3⟩ := run_append_arg_grows (P := P) W t ty e i0 z d.sz d.bytes ht hi hz0 hz1 hz2 hz hs0 b 0 0 [] (by simp) (fun j u hj => by simp at hj) ad ys.length c news hp.1 hc (by omega) (by simp only [maxLen]; omega) (by rw [Nat.zero_add]; exact hl)
      exact ⟨v1, w1, hr1, fin v1 w1 h2 h3⟩
end
section
variable {P : Program} {ops : Array Oper} {rest : List Oper} {o : Oper} {a : Act} {Q : Exit → Act → World → Prop}
theorem wpList_of_run {W w1 : World} {v v1 x : Value} {t : TypeId} (hgd : o.guard = none) (s y : Operand) (ho : o.op = .call { callee := .builtin .append, args := #[s, y], argTypes := #[t, t] })
    (hs : a.eval s = v) (hx : a.eval y = x) (hr : (Builtin.append_ #[t, t] o.type #[v, x]).run P W = .ok v1 w1) (h : wpList P ops Q rest (a.put o.dst v1) w1) : wpList P ops Q (o :: rest) a W := by
  refine wpList_plain hgd fun K hK => ?_
  unfold Oper.wp execOp
  simp only [ho, resolve, invoke, builtin, Sem.run_bind, Sem.run_pure, Result.andThen_ok, List.map_toArray, List.map_cons, List.map_nil, hs, hx, hr]
  exact hK _ _ h
/-- append([]T{}, ys...) and its like. -/
theorem Own.append_zero (d : Ki α) {W : World} (base : Nat) (hgd : o.guard = none) (s y : Operand) (t e : TypeId) (z : Value)
    (ho : o.op = .call { callee := .builtin .append, args := #[s, y], argTypes := #[t, t] })
    (ht : P.underlying t = some (.slice e)) (hinfo : (P.info? e).map (fun i => (i.zero, i.size, i.bytes)) = some (some z, d.sz, d.bytes)) (hz : z.cells.size = d.sz) (hs0 : 0 < d.sz) (hb0 : 0 < d.bytes)
    (S : Option Addr) (x : Value) (ys : List α) (ok : Nat → Prop) (hs : a.eval s = .slice S 0 0) (hx : a.eval y = x) (HO : d.Own e W base ok (.slice S 0 0) []) (HR : d.Rd W ok x ys) (hbase : base ≤ W.heap.size) (hl : ys.length * d.bytes ≤ B47)
    (h : ∀ v1 w1, d.Own e w1 base ok v1 ys → Below W.heap.size W w1 → wpList P ops Q rest (a.put o.dst v1) w1) :
    wpList P ops Q (o :: rest) a W := by
  obtain ⟨v1, w1, hr, h1, h2⟩ := run_append_zero (P := P) base t o.type z ht hinfo hz hs0 hb0 S x HO HR hbase hl
  exact wpList_of_run hgd s y ho hs hx hr (h v1 w1 h1 h2)
/-- append(v, ys...), v a row of the call's own. -/
theorem Own.append_row (d : Ki α) {w0 W : World} (base : Nat) (hgd : o.guard = none) (s y : Operand) (t e : TypeId) (z : Value)
    (ho : o.op = .call { callee := .builtin .append, args := #[s, y], argTypes := #[t, t] })
    (ht : P.underlying t = some (.slice e)) (hinfo : (P.info? e).map (fun i => (i.zero, i.size, i.bytes)) = some (some z, d.sz, d.bytes)) (hz : z.cells.size = d.sz) (hs0 : 0 < d.sz) (hb0 : 0 < d.bytes)
    (v x : Value) (xs ys : List α) (ok : Nat → Prop) (hs : a.eval s = v) (hx : a.eval y = x) (HO : d.Own e W base ok v xs) (HR : d.Rd W (fun k => ok k ∧ some k ≠ v.ownBlock) x ys) (HB : Below base w0 W) (hbase : base ≤ W.heap.size) (hl : (xs.length + ys.length) * d.bytes ≤ B47)
    (h : ∀ v1 w1, d.Own e w1 base ok v1 (xs ++ ys) → Below base w0 w1 → W.grownBy w1 v.ownBlock → (v1.ownBlock = v.ownBlock ∨ ∃ b, v1.ownBlock = some b ∧ W.heap.size ≤ b) → wpList P ops Q rest (a.put o.dst v1) w1) :
    wpList P ops Q (o :: rest) a W := by
  obtain ⟨v1, w1, hr, h1, h2, h3⟩ := run_append_row (P := P) base t o.type z ht hinfo hz hs0 hb0 x HO HR hbase hl
  exact wpList_of_run hgd s y ho hs hx hr (h v1 w1 h1 (HB.grown h2 hbase (fun k hk => (HO.lt k hk).1)) h2 h3)
end
theorem Row.drop (h : d.Row w ok A xs) (m : Nat) (c : Nat) (hm : m ≤ xs.length) (hc : xs.length ≤ c) : d.Row w ok (if c = m then A else A.map (·.add (m * d.sz))) (xs.drop m) := by
  have hl : (xs.drop m).length = xs.length - m := List.length_drop ..
  refine ⟨⟨by have := h.1.1; omega, Nat.le_trans (Nat.mul_le_mul_right _ (by omega)) h.1.2⟩, fun hn => ?_⟩
  obtain ⟨ad, inner, rfl, ho, hr, hcell⟩ := h.2 (by omega)
  rw [if_neg (by omega)]
  refine ⟨ad.add (m * d.sz), inner.drop (m * d.sz), rfl, ?_, ⟨by rw [List.length_drop, hr.1, hl, Nat.mul_sub_right_distrib], fun j p hj => ?_⟩, fun j u hu => ?_⟩
  · unfold Addr.add; split <;> exact ho
  · rw [List.getElem?_drop] at hj
    have := hr.2 _ p hj
    rw [List.drop_drop]
    rwa [Nat.add_mul] at this
  · rw [List.getElem?_drop] at hu
    have := hcell _ u hu
    have e : (ad.add (m * d.sz)).add j = ad.add (m * d.sz + j) := by
      unfold Addr.add
      by_cases h1 : m * d.sz = 0 <;> by_cases h2 : j = 0 <;> simp [h1, h2, Nat.add_assoc]
    rw [e]; exact this
theorem Row.take (h : d.Row w ok A xs) (m : Nat) : d.Row w ok A (xs.take m) := by
  have hl : (xs.take m).length = min m xs.length := List.length_take ..
  refine ⟨⟨by have := h.1.1; omega, Nat.le_trans (Nat.mul_le_mul_right _ (by omega)) h.1.2⟩, fun hn => ?_⟩
  obtain ⟨ad, inner, rfl, ho, hr, hcell⟩ := h.2 (by omega)
  refine ⟨ad, inner.take ((xs.take m).length * d.sz), rfl, ho, ⟨?_, fun j p hj => ?_⟩, fun j u hu => hcell j u ?_⟩
  · rw [List.length_take, hr.1]
    exact Nat.min_eq_left (Nat.mul_le_mul_right _ (by omega))
  · have hjl := (List.getElem?_eq_some_iff.1 hj).1
    have h1 : (j + 1) * d.sz ≤ (xs.take m).length * d.sz := Nat.mul_le_mul_right _ hjl
    rw [Nat.succ_mul] at h1
    rw [List.drop_take, List.take_take, Nat.min_eq_left (by omega)]
    refine hr.2 j p ?_
    rw [List.getElem?_take] at hj
    split at hj
    · exact hj
    · cases hj
  · rw [List.getElem?_take] at hu
    split at hu
    · exact hu
    · cases hu
section
variable {P : Program}
/-- xs[j:] -/
theorem drop_run (d : Ki α) (t e : TypeId) {i : TypeInfo} (ht : P.underlying t = some (.slice e)) (hi : P.info? e = some i) (hsz : i.size = d.sz) (A : Option Addr) (c : Nat) (xs : List α) (j : Int) (h0 : 0 ≤ j) (hm : j ≤ xs.length) (hc : xs.length ≤ c) :
    ∃ v', (∀ W : World, (Instr.slice t (.slice A xs.length c) (some (.int .i64 j)) none none).run P W = .ok v' W) ∧ ∀ w ok, d.Row w ok A xs → d.Rd w ok v' (xs.drop j.toNat) := by
  refine ⟨_, cut_from t e .i64 ht hi d.sz hsz A xs.length c j h0 hm, fun w ok h => ⟨_, _, by rw [List.length_drop], by rw [List.length_drop]; omega, h.drop j.toNat c (by omega) hc⟩⟩
/-- xs[:j] -/
theorem take_run (d : Ki α) (t e : TypeId) {i : TypeInfo} (ht : P.underlying t = some (.slice e)) (hi : P.info? e = some i) (A : Option Addr) (c : Nat) (xs : List α) (j : Int) (h0 : 0 ≤ j) (hm : j ≤ xs.length) (hc : xs.length ≤ c) :
    ∃ v', (∀ W : World, (Instr.slice t (.slice A xs.length c) none (some (.int .i64 j)) none).run P W = .ok v' W) ∧ ∀ w ok, d.Row w ok A xs → d.Rd w ok v' (xs.take j.toNat) := by
  refine ⟨_, cut_to t e .i64 ht hi A xs.length c j h0 hm hc, fun w ok h => ⟨A, c, ?_, ?_, h.take j.toNat⟩⟩
  · rw [List.length_take, Nat.min_eq_left (by omega)]
  · rw [List.length_take]; omega
end
end Ki
end Go.Proofs.Ytkbjbkmaokebgaa.Gz

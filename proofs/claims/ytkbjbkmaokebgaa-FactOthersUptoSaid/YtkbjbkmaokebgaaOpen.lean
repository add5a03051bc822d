import Derived.Test.YtkbjbkmaokebgaaData
import Derived.SizedLaws
import Derived.ChangeSlices
import Derived.ChangeArms
import Derived.OpenShut
set_option linter.unusedVariables false
set_option linter.unusedSimpArgs false
namespace Go.Proofs.Ytkbjbkmaokebgaa.Gz
open Go.RowKit Go.Proofs.YtkbjbkmaokebgaaW.PrintWords
open Ki
/-! What a law's arguments are: read at a type, they have its kind. -/
/-- Whatever is read at a type has a kind. -/
def Opens {α : Type} (P : Program) (d : Ki α) (t : TypeId) : Prop :=
  ∀ (H : Type) (enc : TypeId × Value → H) (w : World) (fuel : Nat) (cs : List Value) (x : DataW H × List MemPlace), DataW.trod enc P w 0 (fun _ => true) true fuel t cs = some x → (∀ n ∈ x.1.weights P t, n ≤ reachBytes) → w.noneFrozen x.2 → ∃ v, d.K w (fun _ => True) v cs
theorem reach_le {n : Nat} (h : n ≤ reachBytes) : n ≤ B47 := by
  have := reachBytes_lt
  unfold B47
  omega
theorem opens_string {P : Program} {t : TypeId} (ht : P.underlying t = some .string) : Opens P kS t := by
  intro H enc w fuel cs x h hw hz
  obtain ⟨s, rfl, rfl, hs⟩ := DataW.trod_string ht h
  refine ⟨s, rfl, reach_le ?_⟩
  have := hw s.data.toList.length (by simp [DataW.weights])
  simpa using this
theorem opens_i64 {P : Program} {t : TypeId} (ht : P.underlying t = some (.int .i64)) : Opens P kI t := by
  intro H enc w fuel cs x h hw hz
  obtain ⟨n, rfl, rfl, hn⟩ := DataW.trod_int ht h
  exact ⟨n, rfl, bounds_i64 hn⟩
theorem opens_u8 {P : Program} {t : TypeId} (ht : P.underlying t = some (.int .u8)) : Opens P kU t := by
  intro H enc w fuel cs x h hw hz
  obtain ⟨n, rfl, rfl, hn⟩ := DataW.trod_int ht h
  exact ⟨n, rfl, bounds_u8 hn⟩
theorem opens_bool {P : Program} {t : TypeId} (ht : P.underlying t = some .bool) : Opens P kB t := by
  intro H enc w fuel cs x h hw hz
  obtain ⟨b, rfl, rfl⟩ := DataW.trod_bool ht h
  exact ⟨b, rfl, trivial⟩
theorem each_list {α : Type} (n : Nat) (R : Nat → α → Prop) (h : ∀ i, i < n → ∃ v, R i v) : ∃ xs : List α, xs.length = n ∧ ∀ i v, xs[i]? = some v → R i v := by
  induction n with
  | zero => exact ⟨[], rfl, fun i v hv => by simp at hv⟩
  | succ n ih =>
    obtain ⟨xs, hl, hx⟩ := ih (fun i hi => h i (by omega))
    obtain ⟨v, hv⟩ := h n (by omega)
    refine ⟨xs ++ [v], by simp [hl], fun i u hu => ?_⟩
    by_cases hi : i < xs.length
    · rw [List.getElem?_append_left hi] at hu
      exact hx i u hu
    · rw [List.getElem?_append_right (by omega)] at hu
      have hi2 : i - xs.length = 0 := by
        have := (List.getElem?_eq_some_iff.1 hu).1
        simp at this
        omega
      obtain rfl : i = n := by omega
      rw [hi2] at hu
      obtain rfl : v = u := by simpa using hu
      exact hv
theorem addr_add (a : Addr) (i j : Nat) : (a.add i).add j = a.add (i + j) := by
  unfold Addr.add
  by_cases h1 : i = 0 <;> by_cases h2 : j = 0 <;> simp [h1, h2, Nat.add_assoc]
theorem weights_all {H : Type} {P : Program} {e : TypeId} {l : List (DataW H)} {d : DataW H} (hd : d ∈ l) {n : Nat} (hn : n ∈ d.weights P e) : n ∈ DataW.weightsAll P e l := by
  induction l with
  | nil => cases hd
  | cons a l ih =>
    simp only [DataW.weightsAll, List.mem_append]
    rcases List.mem_cons.1 hd with rfl | hd
    · exact .inl hn
    · exact .inr (ih hd)
theorem opens_slice {α : Type} {P : Program} {d : Ki α} {t e : TypeId} (he : Opens P d e) (ht : P.underlying t = some (.slice e)) (hc : P.cellsOf e = d.sz) (hb : P.bytesOf e = d.bytes) (hp : 0 < d.sz) : Opens P (kL d hp) t := by
  intro H enc w fuel cs x h hw hz
  rcases DataW.trod_slice ht h with ⟨rfl, rfl⟩ | ⟨a, len, cap, elems, rest, n, _, rfl, rfl, _, hl, hm, hlen, hel, _, _⟩
  · exact ⟨[], _, rfl, Rd.nil _ _ _⟩
  · have hw0 : (elems.length + rest.length) * P.bytesOf e ≤ reachBytes := hw _ (by simp [DataW.weights, ht])
    have hwe : ∀ y ∈ elems, ∀ n ∈ y.1.weights P e, n ≤ reachBytes := fun y hy n hn => hw n (by
      simp only [DataW.weights, ht, List.mem_cons, List.mem_append]
      exact .inr (.inl (weights_all (List.mem_map.2 ⟨y, hy, rfl⟩) hn)))
    have hze : ∀ y ∈ elems, w.noneFrozen y.2 := fun y hy b off hm => hz b off (List.mem_append_right _ (List.mem_flatMap.2 ⟨y, List.mem_append_left _ hy, hm⟩))
    have hzr : ∀ j, j < (elems.length + rest.length) * P.cellsOf e → w.frozen? (a.add j) = false := fun j hj => by
      have h1 := hz a.block (a.off + j) (List.mem_append_left _ (List.mem_map.2 ⟨j, List.mem_range.2 hj, rfl⟩))
      unfold Addr.add
      split
      · next h0 => subst h0; exact h1
      · exact h1
    have each : ∀ i, i < len → ∃ v, ∃ cs, d.K w (fun _ => True) v cs ∧ ∀ j, j < d.sz → w.cell? (a.add (i * d.sz + j)) = cs[j]? := by
      intro i hi
      have h1 := hel i hi
      have hy : elems[i]? = some elems[i] := List.getElem?_eq_getElem (by omega)
      rw [hy, Option.bind_eq_some_iff] at h1
      obtain ⟨cs, hcs, h2⟩ := h1
      obtain ⟨v, hv⟩ := he H enc w n cs _ h2 (hwe _ (List.getElem_mem _)) (hze _ (List.getElem_mem _))
      refine ⟨v, cs, hv, fun j hj => ?_⟩
      obtain ⟨_, _, h3⟩ := World.cells?_some hcs
      rw [hc] at h3
      rw [← addr_add]
      exact h3 j hj
    obtain ⟨xs, hxl, hxs⟩ := each_list len _ each
    have hbytes : xs.length * d.bytes ≤ B47 := by
      refine Nat.le_trans (Nat.mul_le_mul_right _ ?_) (reach_le (by rw [← hb]; exact hw0))
      omega
    have hmax : xs.length ≤ 9223372036854775807 := by
      unfold maxLen at hm
      omega
    refine ⟨xs, _, rfl, some a, cap, by rw [hxl], by omega, ⟨hmax, hbytes⟩, fun hn => ⟨a, (List.range (xs.length * d.sz)).map fun j => (w.cell? (a.add j)).getD (.bool false), rfl, trivial, ⟨by simp, fun i v hv => ?_⟩, fun j u hu => ?_⟩⟩
    · obtain ⟨cs, hK, hcs⟩ := hxs i v hv
      have hi := (List.getElem?_eq_some_iff.1 hv).1
      have hle : i * d.sz + d.sz ≤ xs.length * d.sz := by rw [← Nat.succ_mul]; exact Nat.mul_le_mul_right _ hi
      have : ((List.map (fun j => (w.cell? (a.add j)).getD (.bool false)) (List.range (xs.length * d.sz))).drop (i * d.sz)).take d.sz = cs := by
        have hcl := d.len hK
        refine List.ext_getElem? fun j => ?_
        rw [List.getElem?_take]
        by_cases hj : j < d.sz
        · rw [if_pos hj, List.getElem?_drop, List.getElem?_map, List.getElem?_range (by omega)]
          show some ((w.cell? (a.add (i * d.sz + j))).getD (.bool false)) = cs[j]?
          rw [hcs j hj, List.getElem?_eq_getElem (by omega)]
          rfl
        · rw [if_neg hj, List.getElem?_eq_none (by omega)]
      rw [this]
      exact hK
    · have hj : j < xs.length * d.sz := by
        have := (List.getElem?_eq_some_iff.1 hu).1
        simpa using this
      rw [List.getElem?_map, List.getElem?_range hj] at hu
      have hu' : (w.cell? (a.add j)).getD (.bool false) = u := by simpa using hu
      have hi : j / d.sz < xs.length := (Nat.div_lt_iff_lt_mul hp).2 hj
      obtain ⟨cs, hK, hcs⟩ := hxs (j / d.sz) _ (List.getElem?_eq_getElem hi)
      have hlt := Nat.mod_lt j hp
      have h4 := hcs (j % d.sz) hlt
      have hm' : j / d.sz * d.sz + j % d.sz = j := by rw [Nat.mul_comm]; exact Nat.div_add_mod _ _
      rw [hm', List.getElem?_eq_getElem (by rw [d.len hK]; exact hlt)] at h4
      refine ⟨?_, hzr j (Nat.lt_of_lt_of_le hj ?_)⟩
      · show w.cell? (a.add j) = some u
        rw [h4] at hu' ⊢
        exact congrArg some hu'
      · rw [hc]
        exact Nat.mul_le_mul_right _ (by omega)
/-- The fields of a struct. -/
theorem open_fields {H : Type} {enc : TypeId × Value → H} {P : Program} {w : World} {fuel : Nat} {t : TypeId} {cs : List Value} {x : DataW H × List MemPlace} {fs : Array Field} (ht : P.underlying t = some (.struct fs))
    (h : DataW.trod enc P w 0 (fun _ => true) true fuel t cs = some x) (hw : ∀ n ∈ x.1.weights P t, n ≤ reachBytes) (hz : w.noneFrozen x.2) :
    cs.length = P.cellsOf t ∧ ∀ (i : Nat) (f : Field), fs[i]? = some f → ∀ {α : Type} (d : Ki α), Opens P d f.type → ∀ (o m : Nat), f.offset = o → P.cellsOf f.type = m → ∃ v, d.K w (fun _ => True) v ((cs.drop o).take m) := by
  obtain ⟨xs, n, _, rfl, hl, hxl, hf⟩ := DataW.trod_struct ht h
  refine ⟨hl, fun i f hi α d hd o m ho hm => ?_⟩
  subst ho hm
  have h1 := hf i f hi
  have hlt : i < xs.length := by
    rw [hxl]
    exact (Array.getElem?_eq_some_iff.1 hi).1
  rw [List.getElem?_eq_getElem hlt] at h1
  refine hd H enc w n _ _ h1 (fun m hm => hw m ?_) (fun b off hm => hz b off (List.mem_flatMap.2 ⟨xs[i], List.getElem_mem _, hm⟩))
  simp only [DataW.weights, ht]
  refine DataW.weights_mem_each (j := i) (t := f.type) (d := (xs[i]).1) ?_ ?_ m hm
  · rw [List.getElem?_map, Array.getElem?_toList, hi]; rfl
  · rw [List.getElem?_map, List.getElem?_eq_getElem hlt]; rfl
theorem opens_names : Opens Try.prog (kL kS pS) 22 := opens_slice (opens_string Try.underlying9) Try.underlying22 (by kernel_rfl) (by kernel_rfl) pS
theorem opens_ints : Opens Try.prog (kL kI pI) 40 := opens_slice (opens_i64 Try.underlying3) Try.underlying40 (by kernel_rfl) (by kernel_rfl) pI
theorem opens_bytes : Opens Try.prog (kL kU pU) 39 := opens_slice (opens_u8 Try.underlying5) Try.underlying39 (by kernel_rfl) (by kernel_rfl) pU
theorem list5 {α : Type} {l : List α} (h : l.length = 5) : ∃ a b c d e, l = [a, b, c, d, e] := by
  match l, h with
  | [a, b, c, d, e], _ => exact ⟨a, b, c, d, e, rfl⟩
theorem c_b : Try.prog.cellsOf 39 = 1 := by kernel_rfl
theorem c_n : Try.prog.cellsOf 22 = 1 := by kernel_rfl
theorem c_i : Try.prog.cellsOf 40 = 1 := by kernel_rfl
theorem c_int : Try.prog.cellsOf 3 = 1 := by kernel_rfl
theorem c_D : Try.prog.cellsOf 42 = 5 := by kernel_rfl
theorem c_r : Try.prog.cellsOf 23 = 1 := by kernel_rfl
theorem opens_D : Opens Try.prog kD 42 := by
  intro H enc w fuel cs x h hw hz
  obtain ⟨hl, hf⟩ := open_fields Try.underlying42 h hw hz
  rw [show Try.prog.cellsOf 42 = 5 from by kernel_rfl] at hl
  obtain ⟨a, b, c, d, e, rfl⟩ := list5 hl
  obtain ⟨v0, u0, e0, r0⟩ := hf 0 _ rfl (kL kU pU) opens_bytes 0 _ rfl c_b
  obtain ⟨v1, u1, e1, r1⟩ := hf 1 _ rfl (kL kS pS) opens_names 1 _ rfl c_n
  obtain ⟨v2, u2, e2, r2⟩ := hf 2 _ rfl (kL kS pS) opens_names 2 _ rfl c_n
  obtain ⟨v3, u3, e3, r3⟩ := hf 3 _ rfl (kL kI pI) opens_ints 3 _ rfl c_i
  obtain ⟨v4, u4, e4, r4⟩ := hf 4 _ rfl (kL kS pS) opens_names 4 _ rfl c_n
  simp only [List.drop_zero, List.drop_succ_cons, List.take_succ_cons, List.take_zero, List.cons.injEq, and_true] at e0 e1 e2 e3 e4
  subst e0 e1 e2 e3 e4
  exact ⟨⟨v0, v1, v2, v3, v4⟩, _, _, _, _, _, rfl, r0, r1, r2, r3, r4⟩
theorem opens_R : Opens Try.prog kR 44 := by
  intro H enc w fuel cs x h hw hz
  obtain ⟨hl, hf⟩ := open_fields Try.underlying44 h hw hz
  rw [show Try.prog.cellsOf 44 = 9 from by kernel_rfl] at hl
  obtain ⟨v0, u0, e0, r0⟩ := hf 0 _ rfl (kL kS pS) opens_names 0 _ rfl c_n
  obtain ⟨v1, e1, r1⟩ := hf 1 _ rfl kI (opens_i64 Try.underlying3) 1 _ rfl c_int
  obtain ⟨v2, e2, r2⟩ := hf 2 _ rfl kI (opens_i64 Try.underlying3) 2 _ rfl c_int
  obtain ⟨v3, e3, r3⟩ := hf 3 _ rfl kI (opens_i64 Try.underlying3) 3 _ rfl c_int
  obtain ⟨v4, r4⟩ := hf 4 _ rfl kD opens_D 4 _ rfl c_D
  match cs, hl with
  | [a, b, c, d, e, f, g, i, j], _ =>
    simp only [List.drop_zero, List.drop_succ_cons, List.take_succ_cons, List.take_zero, List.cons.injEq, and_true] at e0 e1 e2 e3 r4
    subst e0 e1 e2 e3
    exact ⟨⟨v0, v1, v2, v3, v4⟩, _, _, rfl, r0, r1, r2, r3, r4⟩
theorem opens_Q : Opens Try.prog kQ 27 := by
  intro H enc w fuel cs x h hw hz
  obtain ⟨hl, hf⟩ := open_fields Try.underlying27 h hw hz
  rw [show Try.prog.cellsOf 27 = 3 from by kernel_rfl] at hl
  obtain ⟨v0, u0, e0, r0⟩ := hf 0 _ rfl (kL kS pS) opens_names 0 _ rfl c_n
  obtain ⟨v1, e1, r1⟩ := hf 1 _ rfl kI (opens_i64 Try.underlying3) 1 _ rfl c_int
  obtain ⟨v2, e2, r2⟩ := hf 2 _ rfl kI (opens_i64 Try.underlying3) 2 _ rfl c_int
  match cs, hl with
  | [a, b, c], _ =>
    simp only [List.drop_zero, List.drop_succ_cons, List.take_succ_cons, List.take_zero, List.cons.injEq, and_true] at e0 e1 e2
    subst e0 e1 e2
    exact ⟨⟨v0, v1, v2⟩, _, rfl, r0, r1, r2⟩
theorem opens_recs : Opens Try.prog (kL kR pR) 23 := opens_slice opens_R Try.underlying23 (by kernel_rfl) (by kernel_rfl) pR
theorem opens_Z : Opens Try.prog kZ 25 := by
  intro H enc w fuel cs x h hw hz
  obtain ⟨hl, hf⟩ := open_fields Try.underlying25 h hw hz
  rw [show Try.prog.cellsOf 25 = 2 from by kernel_rfl] at hl
  obtain ⟨v0, u0, e0, r0⟩ := hf 0 _ rfl (kL kS pS) opens_names 0 _ rfl c_n
  obtain ⟨v1, u1, e1, r1⟩ := hf 1 _ rfl (kL kR pR) opens_recs 1 _ rfl c_r
  match cs, hl with
  | [a, b], _ =>
    simp only [List.drop_zero, List.drop_succ_cons, List.take_succ_cons, List.take_zero, List.cons.injEq, and_true] at e0 e1
    subst e0 e1
    exact ⟨⟨v0, v1⟩, _, _, rfl, r0, r1⟩
/-- An argument of a law. -/
theorem open_arg {α : Type} {H : Type} {enc : TypeId × Value → H} {P : Program} {W : World} {d : Ki α} {t : TypeId} {v : Value} {x : DataW H} {p : List MemPlace} {ts : List TypeId} {ds : List (DataW H)} {j : Nat} (ho : Opens P d t)
    (hsz : (DataW.weightsEach P ts ds).all (· ≤ reachBytes) = true) (ht : ts[j]? = some t) (hd : ds[j]? = some x) (h : DataW.Trod enc P W 0 (fun _ => true) true t v x p) (hz : W.noneFrozen p) : ∃ y, d.K W (fun _ => True) y v.cells.toList := by
  obtain ⟨fuel, hf⟩ := h
  refine ho H enc W fuel _ _ hf (fun n hn => ?_) hz
  have := List.all_eq_true.1 hsz _ (DataW.weights_mem_each ht hd n hn)
  simpa using this
end Go.Proofs.Ytkbjbkmaokebgaa.Gz

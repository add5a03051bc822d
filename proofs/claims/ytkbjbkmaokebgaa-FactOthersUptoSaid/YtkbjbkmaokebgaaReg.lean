import Derived.Test.YtkbjbkmaokebgaaApp
import Derived.Orders
import Derived.RegionTactic
set_option linter.unusedVariables false
set_option linter.unusedSimpArgs false
namespace Go.Proofs.Ytkbjbkmaokebgaa.Gz
open Go.RowKit Go.Proofs.YtkbjbkmaokebgaaW.PrintWords
open Ki
/-! A region that draws its order, walked operation by operation under an invariant: each operation is shown once, whatever came ahead of it. -/
section
variable {P : Program} {ops : Array Oper} {Q : Exit → Act → World → Prop} {md : Region.Mode}
/-- What has come up is closed: all that it waits for has come up. -/
def Shut (md : Region.Mode) (ops : Array Oper) (f : Nat → Bool) : Prop := ∀ j o, ops[j]? = some o → f j = true → ∀ e ∈ o.after, Region.binds md e = true → f e.on = true
def mark (f : Nat → Bool) (i : Nat) : Nat → Bool := fun j => f j || j == i
theorem range_lt {f g : Nat → Bool} {n i : Nat} (hi : i < n) (hf : f i = false) (hg : ∀ j, g j = (f j || j == i)) : ((List.range n).filter fun j => !g j).length < ((List.range n).filter fun j => !f j).length := by
  have key : ∀ l : List Nat, ((l.filter fun j => !g j).length ≤ (l.filter fun j => !f j).length) ∧ (i ∈ l → (l.filter fun j => !g j).length < (l.filter fun j => !f j).length) := by
    intro l
    induction l with
    | nil => simp
    | cons a l ih =>
      have e := hg a
      rw [List.filter_cons, List.filter_cons]
      by_cases ha : a = i
      · subst ha
        rw [hf] at e
        simp only [e, hf]
        simp
        omega
      · have : (a == i) = false := by simpa using ha
        rw [this, Bool.or_false] at e
        rw [e]
        cases f a
        · simp only [Bool.not_false, if_true, List.length_cons, List.mem_cons]
          exact ⟨by omega, fun h => by have := ih.2 (h.resolve_left (Ne.symm ha)); omega⟩
        · simp only [Bool.not_true, List.mem_cons]
          exact ⟨by simpa using ih.1, fun h => by simpa using ih.2 (h.resolve_left (Ne.symm ha))⟩
  exact (key _).2 (List.mem_range.2 hi)
theorem wpAny_inv {I : (Nat → Bool) → Act → World → Prop} (hback : ∀ (i : Nat) (o : Oper), ops[i]? = some o → ∀ e ∈ o.after, e.on < i)
    (step : ∀ (f : Nat → Bool) a w i o, ops[i]? = some o → f i = false → (∀ e ∈ o.after, Region.binds md e = true → f e.on = true) → Shut md ops f → I f a w → wpOp P ops Q i (I (mark f i)) a w)
    (fin : ∀ f a w, (∀ i, i < ops.size → f i = true) → I f a w → Q .normal a w) :
    ∀ fuel (listed : Array Bool) a w, listed.size = ops.size → ((List.range ops.size).filter fun i => !listed.getD i false).length ≤ fuel → Shut md ops (fun i => listed.getD i false) → I (fun i => listed.getD i false) a w → wpAny P md ops Q fuel listed a w := by
  have full : ∀ (listed : Array Bool), listed.size = ops.size → Region.ready md ops listed = [] → ∀ i, i < ops.size → listed.getD i false = true := by
    intro listed hl hr i
    induction i using Nat.strongRecOn with
    | ind i ih =>
      intro hi
      cases hc : listed.getD i false with
      | true => rfl
      | false =>
        exfalso
        have : i ∈ Region.ready md ops listed := by
          refine mem_ready.2 ⟨?_, ops[i], Array.getElem?_eq_getElem hi, fun e he hb => ?_⟩
          · rw [← hc]
            simp only [Array.getD_eq_getD_getElem?]
            rw [Array.getElem?_eq_getElem (by omega)]
            rfl
          · have hlt := hback i _ (Array.getElem?_eq_getElem hi) e he
            exact ih e.on hlt (by omega)
        rw [hr] at this; cases this
  have notin : ∀ (listed : Array Bool) i, listed.size = ops.size → i ∈ Region.ready md ops listed → ∃ o, ops[i]? = some o ∧ i < ops.size ∧ listed.getD i false = false ∧ ∀ e ∈ o.after, Region.binds md e = true → listed.getD e.on false = true := by
    intro listed i hl hi
    obtain ⟨h1, o, ho, h2⟩ := mem_ready.1 hi
    have hlt : i < ops.size := (Array.getElem?_eq_some_iff.1 ho).1
    refine ⟨o, ho, hlt, ?_, h2⟩
    rw [← h1]
    simp only [Array.getD_eq_getD_getElem?]
    rw [Array.getElem?_eq_getElem (by omega)]
    rfl
  intro fuel
  induction fuel with
  | zero =>
    intro listed a w hl hc hs hI
    have hr : Region.ready md ops listed = [] := by
      rw [List.eq_nil_iff_forall_not_mem]
      intro i hi
      obtain ⟨o, ho, hlt, hf, _⟩ := notin listed i hl hi
      have h0 := List.eq_nil_of_length_eq_zero (Nat.le_zero.1 hc)
      have : i ∈ (List.range ops.size).filter fun i => !listed.getD i false := List.mem_filter.2 ⟨List.mem_range.2 hlt, by rw [hf]; rfl⟩
      rw [h0] at this; cases this
    exact ⟨hr, fin _ a w (full listed hl hr) hI⟩
  | succ fuel ih =>
    intro listed a w hl hc hs hI
    refine ⟨fun hr => fin _ a w (full listed hl hr) hI, fun i hi => ?_⟩
    obtain ⟨o, ho, hlt, hf, he⟩ := notin listed i hl hi
    have hset : ∀ j, (listed.setIfInBounds i true).getD j false = (listed.getD j false || j == i) := by
      intro j
      simp only [Array.getD_eq_getD_getElem?]
      by_cases e : j = i
      · subst e
        rw [Array.getElem?_setIfInBounds_self_of_lt (by omega)]
        simp
      · rw [Array.getElem?_setIfInBounds_ne (by omega)]
        have : (j == i) = false := by simpa using e
        rw [this, Bool.or_false]
    refine wpOp_mono (fun a' w' h => ?_) (step _ a w i o ho hf he hs hI)
    refine ih _ a' w' (by simpa using hl) ?_ ?_ ?_
    · have := range_lt (f := fun j => listed.getD j false) (g := fun j => (listed.setIfInBounds i true).getD j false) hlt hf hset
      exact Nat.le_of_lt_succ (Nat.lt_of_lt_of_le this hc)
    · intro j oj hoj hj e hee hb
      have hj' := (hset j).symm.trans hj
      show (listed.setIfInBounds i true).getD e.on false = true
      rw [hset]
      rcases Bool.or_eq_true_iff.1 hj' with hj | hj
      · have h3 : listed.getD e.on false = true := hs j oj hoj hj e hee hb
        rw [h3]; rfl
      · obtain rfl : j = i := by simpa using hj
        rw [ho] at hoj
        obtain rfl : o = oj := by injection hoj
        rw [he e hee hb]; rfl
    · rw [show (fun j => (listed.setIfInBounds i true).getD j false) = mark (fun j => listed.getD j false) i from funext hset]
      exact h
/-- A region that draws its order, under an invariant. -/
theorem wp_region_inv {id : Nat} {a : Act} {w : World} (hm : P.follows .mixedOrders = true) (I : (Nat → Bool) → Act → World → Prop) (hback : (ops.toList.zipIdx.all fun x => x.1.after.all fun e => decide (e.on < x.2)) = true)
    (h0 : I (fun _ => false) a w.drew)
    (step : ∀ (f : Nat → Bool) a w i o, ops[i]? = some o → f i = false → (∀ e ∈ o.after, Region.binds .any e = true → f e.on = true) → Shut .any ops f → I f a w → wpOp P ops Q i (I (mark f i)) a w)
    (fin : ∀ f a w, (∀ i, i < ops.size → f i = true) → I f a w → Q .normal a w) : (Code.region id ops true).wp P Q a w := by
  have hf : (fun i => (Array.replicate ops.size false).getD i false) = fun _ => false := by
    funext i
    simp only [Array.getD_eq_getD_getElem?, Array.getElem?_replicate]
    split <;> rfl
  refine wp_region_any hm (wpAny_inv (I := I) ?_ step fin _ _ _ _ (by simp) ?_ ?_ ?_)
  · intro i o ho e he
    have h1 := List.all_eq_true.1 hback (o, i) (by
      rw [List.mem_zipIdx_iff_getElem?]
      simpa using ho)
    have h2 := Array.all_eq_true_iff_forall_mem.1 h1 e he
    simpa using h2
  · refine Nat.le_trans (List.length_filter_le _ _) (by simp)
  · rw [hf]
    intro j o ho hj
    cases hj
  · rw [hf]
    exact h0
/-- One operation that is not guarded. -/
theorem wpOp_plain {i : Nat} {o : Oper} {K : Act → World → Prop} {a : Act} {w : World} (ho : ops[i]? = some o) (hg : o.guard = none) (h : o.wp P a w K Q) : wpOp P ops Q i K a w := by
  refine wpOp_step ho fun K' hK => ?_
  have hw : Region.wanted o (yielded ops a.tmps) = true := by simp [Region.wanted, hg]
  rw [if_pos hw]
  exact Oper.wp_mono hK h
/-- An operation that yields a value. -/
theorem Oper.wp_ok {o : Oper} {K : Act → World → Prop} {a : Act} {w w1 : World} {v : Value} (hr : (execOp a.eval o).run P w = .ok (.value v) w1) (h : K (a.put o.dst v) w1) : Oper.wp P o a w K Q := by
  unfold Oper.wp
  rw [hr]
  exact h
end
/-- A slot of a frame. -/
theorem put_same {a : Act} {d : Nat} {v : Value} (h : d < a.tmps.size) : (a.put (some d) v).tmps[d]? = some v := by
  show (a.tmps.setIfInBounds d v)[d]? = some v
  rw [Array.getElem?_setIfInBounds_self_of_lt h]
theorem put_other {a : Act} {d t : Nat} {v : Value} (h : d ≠ t) : (a.put (some d) v).tmps[t]? = a.tmps[t]? := by
  show (a.tmps.setIfInBounds d v)[t]? = _
  rw [Array.getElem?_setIfInBounds_ne h]
theorem put_size {a : Act} {d : Option Nat} {v : Value} : (a.put d v).tmps.size = a.tmps.size := by
  cases d with
  | none => rfl
  | some d => exact Array.size_setIfInBounds ..
theorem put_comm {a : Act} {i j : Nat} {u v : Value} (h : i ≠ j) : (a.put (some i) u).put (some j) v = (a.put (some j) v).put (some i) u := by
  show ({ tmps := (a.tmps.setIfInBounds i u).setIfInBounds j v, defers := a.defers } : Act) = { tmps := (a.tmps.setIfInBounds j v).setIfInBounds i u, defers := a.defers }
  rw [Array.setIfInBounds_comm _ _ h]
theorem put_put {a : Act} {i : Nat} {u v : Value} : (a.put (some i) u).put (some i) v = a.put (some i) v := by
  show ({ tmps := (a.tmps.setIfInBounds i u).setIfInBounds i v, defers := a.defers } : Act) = { tmps := a.tmps.setIfInBounds i v, defers := a.defers }
  rw [Array.setIfInBounds_setIfInBounds]
theorem put_id {a : Act} {i : Nat} {v : Value} (h : a.tmps[i]? = some v) : a.put (some i) v = a := by
  have : a.tmps.setIfInBounds i v = a.tmps := by
    refine Array.ext_getElem? fun j => ?_
    by_cases e : i = j
    · subst e
      have hl := (Array.getElem?_eq_some_iff.1 h).1
      rw [Array.getElem?_setIfInBounds_self_of_lt hl, h]
    · rw [Array.getElem?_setIfInBounds_ne e]
  show ({ tmps := a.tmps.setIfInBounds i v, defers := a.defers } : Act) = a
  rw [this]
theorem mark_ne' {f : Nat → Bool} {i j : Nat} (h : j ≠ i) : mark f i j = f j := by
  show (f j || j == i) = f j
  have : (j == i) = false := by simpa using h
  rw [this, Bool.or_false]
theorem mark_self {f : Nat → Bool} {i : Nat} : mark f i i = true := by unfold mark; simp
/-- As wp_region_inv, the invariant over the frame at the region's begin. -/
theorem wp_region_from {P : Program} {ops : Array Oper} {Q : Exit → Act → World → Prop} {id : Nat} {a : Act} {w : World} (hm : P.follows .mixedOrders = true) (I : Act → (Nat → Bool) → Act → World → Prop) (hback : (ops.toList.zipIdx.all fun x => x.1.after.all fun e => decide (e.on < x.2)) = true)
    (h0 : I a (fun _ => false) a w.drew)
    (step : ∀ (f : Nat → Bool) b w i o, ops[i]? = some o → f i = false → (∀ e ∈ o.after, Region.binds .any e = true → f e.on = true) → Shut .any ops f → I a f b w → wpOp P ops Q i (I a (mark f i)) b w)
    (fin : ∀ f b w, (∀ i, i < ops.size → f i = true) → I a f b w → Q .normal b w) : (Code.region id ops true).wp P Q a w :=
  wp_region_inv hm (I a) hback h0 step fin
end Go.Proofs.Ytkbjbkmaokebgaa.Gz

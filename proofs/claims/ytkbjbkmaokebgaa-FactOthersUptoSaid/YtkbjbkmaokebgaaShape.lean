import Derived.Test.YtkbjbkmaokebgaaFits
set_option linter.unusedVariables false
set_option linter.unusedSimpArgs false
namespace Go.Proofs.Ytkbjbkmaokebgaa.Gz
open Go.RowKit Go.Proofs.YtkbjbkmaokebgaaW.PrintWords
open Ki
/-- Which fields a type has, as the code tells it. -/
def shape (kind : Int) : Array Value :=
  if kind = 1 then #[.int .i64 4, .bool false, .bool false, .bool false, .int .i64 0, .int .i64 0, .bool false, .bool false] else
  if kind = 28 then #[.int .i64 16, .bool false, .bool false, .bool false, .int .i64 0, .int .i64 0, .bool false, .bool false] else
  if kind = 2 then #[.int .i64 0, .bool true, .bool false, .bool true, .int .i64 0, .int .i64 0, .bool false, .bool false] else
  if kind = 5 then #[.int .i64 0, .bool true, .bool false, .bool true, .int .i64 0, .int .i64 0, .bool false, .bool false] else
  if kind = 12 then #[.int .i64 0, .bool true, .bool false, .bool true, .int .i64 0, .int .i64 0, .bool false, .bool false] else
  if kind = 15 then #[.int .i64 0, .bool true, .bool false, .bool true, .int .i64 1, .int .i64 2, .bool false, .bool true] else
  if kind = 6 then #[.int .i64 0, .bool true, .bool true, .bool true, .int .i64 5, .int .i64 4, .bool false, .bool false] else
  if kind = 33 then #[.int .i64 0, .bool true, .bool false, .bool false, .int .i64 3, .int .i64 2, .bool false, .bool true] else
  if kind = 16 then #[.int .i64 0, .bool false, .bool false, .bool false, .int .i64 0, .int .i64 0, .bool true, .bool false] else
  #[.int .i64 (-1), .bool false, .bool false, .bool false, .int .i64 0, .int .i64 0, .bool false, .bool false]
set_option maxHeartbeats 4000000 in
theorem shapes_calls (kind : Int) (w : World) : Calls Try.prog 117 #[.int .i64 kind] w fun e w' => e = .returned (.agg (shape kind)) ∧ Below w.heap.size w w' := by
  by_cases h1 : kind = 1
  · subst h1
    rw [show shape 1 = #[.int .i64 4, .bool false, .bool false, .bool false, .int .i64 0, .int .i64 0, .bool false, .bool false] from rfl]
    go_enter Try.func117, Try.ntmps117
    go_wp2
    exact bodyPost_ret (v := .agg #[.int .i64 4, .bool false, .bool false, .bool false, .int .i64 0, .int .i64 0, .bool false, .bool false]) (by simp [results, Try.results117, go_sem]) rfl ⟨rfl, below_alloc (Below.refl _ _) _⟩
  by_cases h28 : kind = 28
  · subst h28
    rw [show shape 28 = #[.int .i64 16, .bool false, .bool false, .bool false, .int .i64 0, .int .i64 0, .bool false, .bool false] from rfl]
    go_enter Try.func117, Try.ntmps117
    go_wp2
    exact bodyPost_ret (v := .agg #[.int .i64 16, .bool false, .bool false, .bool false, .int .i64 0, .int .i64 0, .bool false, .bool false]) (by simp [results, Try.results117, go_sem]) rfl ⟨rfl, below_alloc (Below.refl _ _) _⟩
  by_cases h2 : kind = 2
  · subst h2
    rw [show shape 2 = #[.int .i64 0, .bool true, .bool false, .bool true, .int .i64 0, .int .i64 0, .bool false, .bool false] from rfl]
    go_enter Try.func117, Try.ntmps117
    go_wp2
    exact bodyPost_ret (v := .agg #[.int .i64 0, .bool true, .bool false, .bool true, .int .i64 0, .int .i64 0, .bool false, .bool false]) (by simp [results, Try.results117, go_sem]) rfl ⟨rfl, below_alloc (Below.refl _ _) _⟩
  by_cases h5 : kind = 5
  · subst h5
    rw [show shape 5 = #[.int .i64 0, .bool true, .bool false, .bool true, .int .i64 0, .int .i64 0, .bool false, .bool false] from rfl]
    go_enter Try.func117, Try.ntmps117
    go_wp2
    exact bodyPost_ret (v := .agg #[.int .i64 0, .bool true, .bool false, .bool true, .int .i64 0, .int .i64 0, .bool false, .bool false]) (by simp [results, Try.results117, go_sem]) rfl ⟨rfl, below_alloc (Below.refl _ _) _⟩
  by_cases h12 : kind = 12
  · subst h12
    rw [show shape 12 = #[.int .i64 0, .bool true, .bool false, .bool true, .int .i64 0, .int .i64 0, .bool false, .bool false] from rfl]
    go_enter Try.func117, Try.ntmps117
    go_wp2
    exact bodyPost_ret (v := .agg #[.int .i64 0, .bool true, .bool false, .bool true, .int .i64 0, .int .i64 0, .bool false, .bool false]) (by simp [results, Try.results117, go_sem]) rfl ⟨rfl, below_alloc (Below.refl _ _) _⟩
  by_cases h15 : kind = 15
  · subst h15
    rw [show shape 15 = #[.int .i64 0, .bool true, .bool false, .bool true, .int .i64 1, .int .i64 2, .bool false, .bool true] from rfl]
    go_enter Try.func117, Try.ntmps117
    go_wp2
    exact bodyPost_ret (v := .agg #[.int .i64 0, .bool true, .bool false, .bool true, .int .i64 1, .int .i64 2, .bool false, .bool true]) (by simp [results, Try.results117, go_sem]) rfl ⟨rfl, below_alloc (Below.refl _ _) _⟩
  by_cases h6 : kind = 6
  · subst h6
    rw [show shape 6 = #[.int .i64 0, .bool true, .bool true, .bool true, .int .i64 5, .int .i64 4, .bool false, .bool false] from rfl]
    go_enter Try.func117, Try.ntmps117
    go_wp2
    exact bodyPost_ret (v := .agg #[.int .i64 0, .bool true, .bool true, .bool true, .int .i64 5, .int .i64 4, .bool false, .bool false]) (by simp [results, Try.results117, go_sem]) rfl ⟨rfl, below_alloc (Below.refl _ _) _⟩
  by_cases h33 : kind = 33
  · subst h33
    rw [show shape 33 = #[.int .i64 0, .bool true, .bool false, .bool false, .int .i64 3, .int .i64 2, .bool false, .bool true] from rfl]
    go_enter Try.func117, Try.ntmps117
    go_wp2
    exact bodyPost_ret (v := .agg #[.int .i64 0, .bool true, .bool false, .bool false, .int .i64 3, .int .i64 2, .bool false, .bool true]) (by simp [results, Try.results117, go_sem]) rfl ⟨rfl, below_alloc (Below.refl _ _) _⟩
  by_cases h16 : kind = 16
  · subst h16
    rw [show shape 16 = #[.int .i64 0, .bool false, .bool false, .bool false, .int .i64 0, .int .i64 0, .bool true, .bool false] from rfl]
    go_enter Try.func117, Try.ntmps117
    go_wp2
    exact bodyPost_ret (v := .agg #[.int .i64 0, .bool false, .bool false, .bool false, .int .i64 0, .int .i64 0, .bool true, .bool false]) (by simp [results, Try.results117, go_sem]) rfl ⟨rfl, below_alloc (Below.refl _ _) _⟩
  have hd : shape kind = #[.int .i64 (-1), .bool false, .bool false, .bool false, .int .i64 0, .int .i64 0, .bool false, .bool false] := by unfold shape; rw [if_neg h1, if_neg h28, if_neg h2, if_neg h5, if_neg h12, if_neg h15, if_neg h6, if_neg h33, if_neg h16]
  rw [hd]
  clear hd
  have g1 : (kind == 1) = false := beq_eq_false_iff_ne.mpr h1
  have g28 : (kind == 28) = false := beq_eq_false_iff_ne.mpr h28
  have g2 : (kind == 2) = false := beq_eq_false_iff_ne.mpr h2
  have g5 : (kind == 5) = false := beq_eq_false_iff_ne.mpr h5
  have g12 : (kind == 12) = false := beq_eq_false_iff_ne.mpr h12
  have g15 : (kind == 15) = false := beq_eq_false_iff_ne.mpr h15
  have g6 : (kind == 6) = false := beq_eq_false_iff_ne.mpr h6
  have g33 : (kind == 33) = false := beq_eq_false_iff_ne.mpr h33
  have g16 : (kind == 16) = false := beq_eq_false_iff_ne.mpr h16
  clear h1 h28 h2 h5 h12 h15 h6 h33 h16
  go_enter Try.func117, Try.ntmps117
  go_wp2
  exact bodyPost_ret (v := .agg #[.int .i64 (-1), .bool false, .bool false, .bool false, .int .i64 0, .int .i64 0, .bool false, .bool false]) (by simp [results, Try.results117, go_sem]) rfl ⟨rfl, below_alloc (Below.refl _ _) _⟩
theorem shapes_1 (w : World) : Aside0 (Calls Try.prog 117 #[.int .i64 1] w fun e w' => e = .returned (.agg #[.int .i64 4, .bool false, .bool false, .bool false, .int .i64 0, .int .i64 0, .bool false, .bool false]) ∧ Below w.heap.size w w') := ⟨shapes_calls 1 w⟩
theorem shapes_28 (w : World) : Aside0 (Calls Try.prog 117 #[.int .i64 28] w fun e w' => e = .returned (.agg #[.int .i64 16, .bool false, .bool false, .bool false, .int .i64 0, .int .i64 0, .bool false, .bool false]) ∧ Below w.heap.size w w') := ⟨shapes_calls 28 w⟩
theorem shapes_2 (w : World) : Aside0 (Calls Try.prog 117 #[.int .i64 2] w fun e w' => e = .returned (.agg #[.int .i64 0, .bool true, .bool false, .bool true, .int .i64 0, .int .i64 0, .bool false, .bool false]) ∧ Below w.heap.size w w') := ⟨shapes_calls 2 w⟩
theorem shapes_5 (w : World) : Aside0 (Calls Try.prog 117 #[.int .i64 5] w fun e w' => e = .returned (.agg #[.int .i64 0, .bool true, .bool false, .bool true, .int .i64 0, .int .i64 0, .bool false, .bool false]) ∧ Below w.heap.size w w') := ⟨shapes_calls 5 w⟩
theorem shapes_12 (w : World) : Aside0 (Calls Try.prog 117 #[.int .i64 12] w fun e w' => e = .returned (.agg #[.int .i64 0, .bool true, .bool false, .bool true, .int .i64 0, .int .i64 0, .bool false, .bool false]) ∧ Below w.heap.size w w') := ⟨shapes_calls 12 w⟩
theorem shapes_15 (w : World) : Aside0 (Calls Try.prog 117 #[.int .i64 15] w fun e w' => e = .returned (.agg #[.int .i64 0, .bool true, .bool false, .bool true, .int .i64 1, .int .i64 2, .bool false, .bool true]) ∧ Below w.heap.size w w') := ⟨shapes_calls 15 w⟩
theorem shapes_6 (w : World) : Aside0 (Calls Try.prog 117 #[.int .i64 6] w fun e w' => e = .returned (.agg #[.int .i64 0, .bool true, .bool true, .bool true, .int .i64 5, .int .i64 4, .bool false, .bool false]) ∧ Below w.heap.size w w') := ⟨shapes_calls 6 w⟩
theorem shapes_33 (w : World) : Aside0 (Calls Try.prog 117 #[.int .i64 33] w fun e w' => e = .returned (.agg #[.int .i64 0, .bool true, .bool false, .bool false, .int .i64 3, .int .i64 2, .bool false, .bool true]) ∧ Below w.heap.size w w') := ⟨shapes_calls 33 w⟩
theorem shapes_16 (w : World) : Aside0 (Calls Try.prog 117 #[.int .i64 16] w fun e w' => e = .returned (.agg #[.int .i64 0, .bool false, .bool false, .bool false, .int .i64 0, .int .i64 0, .bool true, .bool false]) ∧ Below w.heap.size w w') := ⟨shapes_calls 16 w⟩
theorem shapes_D (kind : Int) (h1 : kind ≠ 1) (h28 : kind ≠ 28) (h2 : kind ≠ 2) (h5 : kind ≠ 5) (h12 : kind ≠ 12) (h15 : kind ≠ 15) (h6 : kind ≠ 6) (h33 : kind ≠ 33) (h16 : kind ≠ 16) (w : World) : Aside0 (Calls Try.prog 117 #[.int .i64 kind] w fun e w' => e = .returned (.agg #[.int .i64 (-1), .bool false, .bool false, .bool false, .int .i64 0, .int .i64 0, .bool false, .bool false]) ∧ Below w.heap.size w w') := by
  have h := shapes_calls kind w
  rw [show shape kind = #[.int .i64 (-1), .bool false, .bool false, .bool false, .int .i64 0, .int .i64 0, .bool false, .bool false] from by unfold shape; rw [if_neg h1, if_neg h28, if_neg h2, if_neg h5, if_neg h12, if_neg h15, if_neg h6, if_neg h33, if_neg h16]] at h
  exact ⟨h⟩
end Go.Proofs.Ytkbjbkmaokebgaa.Gz


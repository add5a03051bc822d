/- For every zone and every question the law ZoneKeeps returns true and leaves its arguments as they were: what is handed in is not changed, and not shared. No condition. -/
import Derived.Test.YtkbjbkmaokebgaaRows
import Derived.Test.YtkbjbkmaokebgaaZkeeps
import Derived.Test.YtkbjbkmaokebgaaOpen
import Derived.WalkKit
import Derived.ProofKit
import Derived.OpenShut
import Derived.ShutString
import Derived.ChangeOld
import Derived.Below
import Derived.SizedLaws
namespace Go.Proofs.Ytkbjbkmaokebgaa.zoneKeeps
open Go.ChangeShapes Go.WideShapes Go.ChangeAt Go.RowKit Go.Proofs.Ytkbjbkmaokebgaa.Gz
open Go.ChangeMaps (open_string shut_string)
set_option linter.unusedVariables false
theorem own : ownKnob Try.prog.godebug = none := by kernel_rfl
theorem laidOut : laidOutB Try.prog = true := by kernel_rfl
set_option maxRecDepth 100000 in
theorem lifted (os : Os) (started : os.Started) (H : Type) (enc : TypeId × Value → H) :
    ReturnsInHanded {} Try.checked os 6 .any (Rows.zoneKeepsSpec.pre6 enc Try.prog Try.f6 Rows.zoneKeepsRow.domain false) (Rows.zoneKeepsSpec.post enc Try.prog Try.f6 false true false false) := by
  refine returnsInHanded_of_change_sized (C := Try.checked) own started (by kernel_rfl) Try.func6
    (ChangeSpec.witness6 (enc := enc) (C := Try.checked) false ⟨#[], #[.agg #[.slice none 0 0, .slice none 0 0], .agg #[.slice none 0 0, .int .i64 0, .int .i64 0]], []⟩ 8 (by kernel_rfl) (by kernel_rfl) (by kernel_rfl) (by kernel_rfl)) ?_
  intro W base args ds gs before hval0 hW hcnd hsz0 _
  have hsz : (DataW.weightsEach Try.prog (Try.f6.params.toList ++ Rows.zoneKeepsSpec.plain.varTypes Try.prog) (ds ++ gs)).all (· ≤ reachBytes) = true := hsz0
  have hval : ∀ (j : Nat) t v, Try.f6.params[j]? = some t → args[j]? = some v → Value.okWide Try.prog W .any base t v := hval0
  have hW' := hW
  obtain ⟨p, q, hA0, hV, rfl, hfz, hnd⟩ := hW
  have hA : DataW.TrodAll enc Try.prog W 0 (fun _ => true) true Try.f6.params.toList args.toList ds p := hA0
  rw [Try.params6] at hA hval hsz
  obtain ⟨v0, vs0, d0, ds0, p0, q0, hargs, rfl, rfl, h0, r0⟩ := trodAll_cons hA
  obtain ⟨v1, vs1, d1, ds1, p1, q1, rfl, rfl, rfl, h1, r1⟩ := trodAll_cons r0
  obtain ⟨rfl, rfl, rfl⟩ := trodAll_nil r1
  obtain rfl : args = #[v0, v1] := by cases args; simp_all
  obtain ⟨rfl, rfl⟩ := trodVars_none hV
  obtain ⟨c0, rfl, _⟩ : ∃ cs, v0 = .agg cs ∧ True := by
    have z := (hval 0 25 v0 rfl rfl)
    unfold Value.okWide at z
    rw [Try.underlying25] at z
    obtain ⟨cs, e, _⟩ := z
    exact ⟨cs, e, trivial⟩
  have k0 := h0
  have lt0 : ∀ x ∈ p0, x.block < W.heap.size := by obtain ⟨m, hm⟩ := k0; exact DataW.trod_lt m _ _ _ hm
  obtain ⟨y0, o0⟩ := open_arg (d := kZ) opens_Z hsz (j := 0) rfl rfl h0 (fun b o h => hfz b o (by simp [h]))
  have o0' : kZ.K W (fun _ => True) y0 c0.toList := o0
  obtain ⟨c1, rfl, _⟩ : ∃ cs, v1 = .agg cs ∧ True := by
    have z := (hval 1 27 v1 rfl rfl)
    unfold Value.okWide at z
    rw [Try.underlying27] at z
    obtain ⟨cs, e, _⟩ := z
    exact ⟨cs, e, trivial⟩
  have k1 := h1
  have lt1 : ∀ x ∈ p1, x.block < W.heap.size := by obtain ⟨m, hm⟩ := k1; exact DataW.trod_lt m _ _ _ hm
  obtain ⟨y1, o1⟩ := open_arg (d := kQ) opens_Q hsz (j := 1) rfl rfl h1 (fun b o h => hfz b o (by simp [h]))
  have o1' : kQ.K W (fun _ => True) y1 c1.toList := o1
  clear hA0 hval0 hsz0 hsz
  refine Calls.mono (zonekeeps_calls y0 c0.toList y1 c1.toList W o0' o1') fun e W' ⟨he, bel⟩ => ?_
  subst he
  exact ⟨_, rfl, _, _, _, [], _, [], hW', trodAll_mk1 (shut_bool Try.underlying4 _), (trodAll_cons_mk (Below.trod laidOut (by kernel_rfl) (of_decide_eq_true (by kernel_rfl)) k0 bel lt0) (trodAll_cons_mk (Below.trod laidOut (by kernel_rfl) (of_decide_eq_true (by kernel_rfl)) k1 bel lt1) trodAll_mk0)), rfl, bel.frame _, fun h => by cases h⟩
theorem over : Rows.zoneKeepsRow.holds Try.pinned (OpenSpec.ofChange Rows.zoneKeepsSpec) :=
  OpenClaim.holds_of_wide 6 Try.f6 rfl rfl rfl rfl rfl rfl rfl ⟨rfl, rfl, rfl, rfl, rfl⟩ rfl rfl rfl rfl rfl (by kernel_rfl) Try.func6 (by kernel_rfl)
    (of_decide_eq_true (by kernel_rfl)) (by unfold Func.isWrapper; first | (rw [if_pos (by decide +kernel)]; kernel_rfl) | (rw [if_neg (by decide +kernel)]; exact ⟨rfl, rfl⟩))
    (fun os started H enc _ => lifted os started H enc)
theorem proved : Rows.ZoneKeepsSaid := over
#print axioms proved
end Go.Proofs.Ytkbjbkmaokebgaa.zoneKeeps
namespace Go.Proofs.Ytkbjbkmaokebgaa
/-- The row, under a short name, for the claim. -/
theorem zoneKeeps_holds : Rows.ZoneKeepsSaid := zoneKeeps.proved
end Go.Proofs.Ytkbjbkmaokebgaa

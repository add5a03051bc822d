import Derived.Test.YtkbjbkmaokebgaaApp
import Derived.WalkSpells
set_option linter.unusedVariables false
namespace Go.Proofs.Ytkbjbkmaokebgaa.Gz
open Go.RowKit Go.Proofs.YtkbjbkmaokebgaaW.PrintWords
open Ki

/-- A call hands back a row of its own. -/
def GivesOwn {α : Type} (d : Ki α) (t : Nat) (w : World) (xs : List α) (e : Ending) (w' : World) : Prop :=
  ∃ v, e = .returned v ∧ d.Own t w' w.heap.size (fun _ => False) v xs ∧ Below w.heap.size w w'
/-- A call hands back a slice in new memory. -/
def Gives {α : Type} (d : Ki α) (w : World) (xs : List α) (e : Ending) (w' : World) : Prop :=
  ∃ v, e = .returned v ∧ d.Rd w' (fun k => w.heap.size ≤ k) v xs ∧ Below w.heap.size w w'
theorem GivesOwn.gives {α : Type} {d : Ki α} {t : Nat} {w : World} {xs : List α} {e : Ending} {w' : World} (h : GivesOwn d t w xs e w') : Gives d w xs e w' := by
  obtain ⟨v, he, ho, hb⟩ := h
  exact ⟨v, he, ho.rd (fun _ h => h.elim) (fun _ h => h), hb⟩

theorem strip_kS {e : Nat} {w : World} {base : Nat} {ok ok' : Nat → Prop} {v : Value} {xs : List ByteArray} (h : kS.Own e w base ok v xs) : kS.Own e w base ok' v xs := by
  obtain ⟨inner, h1, h2, h3⟩ := h; exact ⟨inner, h1, h2, h3⟩
theorem rdany_kS {w : World} {v : Value} {xs : List ByteArray} {ok : Nat → Prop} (h : kS.Rd w ok v xs) : kS.Rd w (fun _ => True) v xs := h.any

theorem strip_kI {e : Nat} {w : World} {base : Nat} {ok ok' : Nat → Prop} {v : Value} {xs : List Int} (h : kI.Own e w base ok v xs) : kI.Own e w base ok' v xs := by
  obtain ⟨inner, h1, h2, h3⟩ := h; exact ⟨inner, h1, h2, h3⟩
theorem rdany_kI {w : World} {v : Value} {xs : List Int} {ok : Nat → Prop} (h : kI.Rd w ok v xs) : kI.Rd w (fun _ => True) v xs := h.any

theorem strip_kU {e : Nat} {w : World} {base : Nat} {ok ok' : Nat → Prop} {v : Value} {xs : List Int} (h : kU.Own e w base ok v xs) : kU.Own e w base ok' v xs := by
  obtain ⟨inner, h1, h2, h3⟩ := h; exact ⟨inner, h1, h2, h3⟩
theorem rdany_kU {w : World} {v : Value} {xs : List Int} {ok : Nat → Prop} (h : kU.Rd w ok v xs) : kU.Rd w (fun _ => True) v xs := h.any

theorem info_s : (Try.prog.info? 9).map (fun i => (i.zero, i.size, i.bytes)) = some (some (.string ⟨#[]⟩), kS.sz, kS.bytes) := by kernel_rfl
set_option maxHeartbeats 400000 in
theorem clone_s (v : Value) (xs : List ByteArray) (w : World) (h : kS.Rd w (fun _ => True) v xs) :
    Calls Try.prog 38 #[v] w (GivesOwn kS 9 w xs) := by
  have hroom := Aside0.mk h.room
  have HR := Aside0.mk h
  obtain ⟨A, c, rfl, hl, hr⟩ := h
  have hnil := fun (W : World) n' c' => Lib.run_eql_slice_nil (P := Try.prog) W 22 9 A xs.length c n' c' Try.underlying22
  have hr' := Aside0.mk hr
  clear hr hl
  cases A with
  | none =>
    have h0 : xs = [] := by
      rcases Nat.eq_zero_or_pos xs.length with h | h
      · exact List.eq_nil_of_length_eq_zero h
      · obtain ⟨_, _, e, _⟩ := hr'.out.2 h
        cases e
    subst h0
    clear hnil hroom HR hr'
    have hnil := fun (W : World) n' c' => Lib.run_eql_slice_nil (P := Try.prog) W 22 9 none 0 c n' c' Try.underlying22
    rw [List.length_nil]
    go_enter Try.func38, Try.ntmps38
    go_wp2
    go_ret
    exact ⟨_, rfl, Own.nil _ _ _ _ _, Below.refl _ _⟩
  | some ad =>
    have HL : Aside0 (kS.Own 9 (w.alloc (.cells #[] 9)) w.heap.size (fun _ => True) (.slice (some ⟨w.heap.size, 0, none⟩) 0 0) []) :=
      ⟨Own.lit0 _ _ _ _ _ (Nat.le_refl _)⟩
    have HR' : Aside0 (kS.Rd (w.alloc (.cells #[] 9)) (fun _ => True) (.slice (some ad) xs.length c) xs) := ⟨HR.out.below (by decide) (below_alloc (Below.refl _ _) _)⟩
    go_enter Try.func38, Try.ntmps38
    go_wp2_with (at_builtin; refine Own.append_zero kS w.heap.size rfl (.tmp 5) (.tmp 6) 22 9 (.string ⟨#[]⟩) rfl Try.underlying22 info_s rfl (by decide) (by decide) _ _ xs (fun _ => True) rfl rfl HL.out HR'.out (by simp) hroom.out ?_; intro v1 w1 ho hb)
    go_ret
    exact ⟨_, rfl, strip_kS ho, (below_alloc (Below.refl _ _) _).trans (hb.mono (by simp))⟩

theorem info_u : (Try.prog.info? 5).map (fun i => (i.zero, i.size, i.bytes)) = some (some (.int .u8 0), kU.sz, kU.bytes) := by kernel_rfl
set_option maxHeartbeats 400000 in
theorem clone_u (v : Value) (xs : List Int) (w : World) (h : kU.Rd w (fun _ => True) v xs) :
    Calls Try.prog 139 #[v] w (GivesOwn kU 5 w xs) := by
  have hroom := Aside0.mk h.room
  have HR := Aside0.mk h
  obtain ⟨A, c, rfl, hl, hr⟩ := h
  have hnil := fun (W : World) n' c' => Lib.run_eql_slice_nil (P := Try.prog) W 39 5 A xs.length c n' c' Try.underlying39
  have hr' := Aside0.mk hr
  clear hr hl
  cases A with
  | none =>
    have h0 : xs = [] := by
      rcases Nat.eq_zero_or_pos xs.length with h | h
      · exact List.eq_nil_of_length_eq_zero h
      · obtain ⟨_, _, e, _⟩ := hr'.out.2 h
        cases e
    subst h0
    clear hnil hroom HR hr'
    have hnil := fun (W : World) n' c' => Lib.run_eql_slice_nil (P := Try.prog) W 39 5 none 0 c n' c' Try.underlying39
    rw [List.length_nil]
    go_enter Try.func139, Try.ntmps139
    go_wp2
    go_ret
    exact ⟨_, rfl, Own.nil _ _ _ _ _, Below.refl _ _⟩
  | some ad =>
    have HL : Aside0 (kU.Own 5 (w.alloc (.cells #[] 5)) w.heap.size (fun _ => True) (.slice (some ⟨w.heap.size, 0, none⟩) 0 0) []) :=
      ⟨Own.lit0 _ _ _ _ _ (Nat.le_refl _)⟩
    have HR' : Aside0 (kU.Rd (w.alloc (.cells #[] 5)) (fun _ => True) (.slice (some ad) xs.length c) xs) := ⟨HR.out.below (by decide) (below_alloc (Below.refl _ _) _)⟩
    go_enter Try.func139, Try.ntmps139
    go_wp2_with (at_builtin; refine Own.append_zero kU w.heap.size rfl (.tmp 5) (.tmp 6) 39 5 (.int .u8 0) rfl Try.underlying39 info_u rfl (by decide) (by decide) _ _ xs (fun _ => True) rfl rfl HL.out HR'.out (by simp) hroom.out ?_; intro v1 w1 ho hb)
    go_ret
    exact ⟨_, rfl, strip_kU ho, (below_alloc (Below.refl _ _) _).trans (hb.mono (by simp))⟩

theorem info_i : (Try.prog.info? 3).map (fun i => (i.zero, i.size, i.bytes)) = some (some (.int .i64 0), kI.sz, kI.bytes) := by kernel_rfl
set_option maxHeartbeats 400000 in
theorem clone_i (v : Value) (xs : List Int) (w : World) (h : kI.Rd w (fun _ => True) v xs) :
    Calls Try.prog 140 #[v] w (GivesOwn kI 3 w xs) := by
  have hroom := Aside0.mk h.room
  have HR := Aside0.mk h
  obtain ⟨A, c, rfl, hl, hr⟩ := h
  have hnil := fun (W : World) n' c' => Lib.run_eql_slice_nil (P := Try.prog) W 40 3 A xs.length c n' c' Try.underlying40
  have hr' := Aside0.mk hr
  clear hr hl
  cases A with
  | none =>
    have h0 : xs = [] := by
      rcases Nat.eq_zero_or_pos xs.length with h | h
      · exact List.eq_nil_of_length_eq_zero h
      · obtain ⟨_, _, e, _⟩ := hr'.out.2 h
        cases e
    subst h0
    clear hnil hroom HR hr'
    have hnil := fun (W : World) n' c' => Lib.run_eql_slice_nil (P := Try.prog) W 40 3 none 0 c n' c' Try.underlying40
    rw [List.length_nil]
    go_enter Try.func140, Try.ntmps140
    go_wp2
    go_ret
    exact ⟨_, rfl, Own.nil _ _ _ _ _, Below.refl _ _⟩
  | some ad =>
    have HL : Aside0 (kI.Own 3 (w.alloc (.cells #[] 3)) w.heap.size (fun _ => True) (.slice (some ⟨w.heap.size, 0, none⟩) 0 0) []) :=
      ⟨Own.lit0 _ _ _ _ _ (Nat.le_refl _)⟩
    have HR' : Aside0 (kI.Rd (w.alloc (.cells #[] 3)) (fun _ => True) (.slice (some ad) xs.length c) xs) := ⟨HR.out.below (by decide) (below_alloc (Below.refl _ _) _)⟩
    go_enter Try.func140, Try.ntmps140
    go_wp2_with (at_builtin; refine Own.append_zero kI w.heap.size rfl (.tmp 5) (.tmp 6) 40 3 (.int .i64 0) rfl Try.underlying40 info_i rfl (by decide) (by decide) _ _ xs (fun _ => True) rfl rfl HL.out HR'.out (by simp) hroom.out ?_; intro v1 w1 ho hb)
    go_ret
    exact ⟨_, rfl, strip_kI ho, (below_alloc (Below.refl _ _) _).trans (hb.mono (by simp))⟩
end Go.Proofs.Ytkbjbkmaokebgaa.Gz

import Derived.Test.YtkbjbkmaokebgaaRdata
set_option linter.unusedVariables false
set_option linter.unusedSimpArgs false
namespace Go.Proofs.Ytkbjbkmaokebgaa.Gz
open Go.RowKit Go.Proofs.YtkbjbkmaokebgaaW.PrintWords
open Ki
/-- No data but those told. -/
def Emp (d : Dat) (b h m n t : Bool) : Prop := (b = true ∨ d.bytes.length = 0) ∧ (h = true ∨ d.host.length = 0) ∧ (m = true ∨ d.mail.length = 0) ∧ (n = true ∨ d.nums.length = 0) ∧ (t = true ∨ d.texts.length = 0)
instance (d : Dat) (b h m n t : Bool) : Decidable (Emp d b h m n t) := by unfold Emp; infer_instance
set_option maxHeartbeats 4000000 in
theorem empty_TFFFF (d : Dat) (cs : List Value) (w : World) (h : kD.K w (fun _ => True) d cs) :
    Calls Try.prog 101 #[.agg cs.toArray, .bool true, .bool false, .bool false, .bool false, .bool false] w fun e w' => e = .returned (.bool (decide (Emp d true false false false false))) ∧ Below w.heap.size w w' := by
  obtain ⟨vb, vh, vm, vn, vt, rfl, hb, hh, hm, hn, ht⟩ := h
  obtain ⟨Ab, cb, rfl, _, _⟩ := hb
  obtain ⟨Ah, ch, rfl, _, _⟩ := hh
  obtain ⟨Am, cm, rfl, _, _⟩ := hm
  obtain ⟨An, cn, rfl, _, _⟩ := hn
  obtain ⟨At, ct, rfl, _, _⟩ := ht
  by_cases q_host : d.host.length = 0
  rotate_left
  · have HN : Aside0 (¬ Emp d true false false false false) := ⟨fun h => by unfold Emp at h; rcases h.2.1 with z | z <;> first | exact q_host z | cases z⟩
    have f_host : ((d.host.length : Int) == 0) = false := beq_eq_false_iff_ne.mpr (by omega)
    have g_host : d.host.isEmpty = false := by
      cases hx : d.host with
      | nil => exact absurd (by rw [hx]; rfl) q_host
      | cons a b => rfl
    clear q_host
    go_enter Try.func101, Try.ntmps101
    go_wp2
    go_ret
    refine ⟨?_, below_alloc (Below.refl _ _) _⟩
    rw [decide_eq_false HN.out]; rfl
  have f_host : ((d.host.length : Int) == 0) = true := beq_iff_eq.mpr (by omega)
  have e_host := Aside0.mk q_host
  clear q_host
  by_cases q_mail : d.mail.length = 0
  rotate_left
  · have HN : Aside0 (¬ Emp d true false false false false) := ⟨fun h => by unfold Emp at h; rcases h.2.2.1 with z | z <;> first | exact q_mail z | cases z⟩
    have f_mail : ((d.mail.length : Int) == 0) = false := beq_eq_false_iff_ne.mpr (by omega)
    have g_mail : d.mail.isEmpty = false := by
      cases hx : d.mail with
      | nil => exact absurd (by rw [hx]; rfl) q_mail
      | cons a b => rfl
    clear q_mail
    go_enter Try.func101, Try.ntmps101
    go_wp2
    go_ret
    refine ⟨?_, below_alloc (Below.refl _ _) _⟩
    rw [decide_eq_false HN.out]; rfl
  have f_mail : ((d.mail.length : Int) == 0) = true := beq_iff_eq.mpr (by omega)
  have e_mail := Aside0.mk q_mail
  clear q_mail
  by_cases q_nums : d.nums.length = 0
  rotate_left
  · have HN : Aside0 (¬ Emp d true false false false false) := ⟨fun h => by unfold Emp at h; rcases h.2.2.2.1 with z | z <;> first | exact q_nums z | cases z⟩
    have f_nums : ((d.nums.length : Int) == 0) = false := beq_eq_false_iff_ne.mpr (by omega)
    have g_nums : d.nums.isEmpty = false := by
      cases hx : d.nums with
      | nil => exact absurd (by rw [hx]; rfl) q_nums
      | cons a b => rfl
    clear q_nums
    go_enter Try.func101, Try.ntmps101
    go_wp2
    go_ret
    refine ⟨?_, below_alloc (Below.refl _ _) _⟩
    rw [decide_eq_false HN.out]; rfl
  have f_nums : ((d.nums.length : Int) == 0) = true := beq_iff_eq.mpr (by omega)
  have e_nums := Aside0.mk q_nums
  clear q_nums
  by_cases q_texts : d.texts.length = 0
  rotate_left
  · have HN : Aside0 (¬ Emp d true false false false false) := ⟨fun h => by unfold Emp at h; rcases h.2.2.2.2 with z | z <;> first | exact q_texts z | cases z⟩
    have f_texts : ((d.texts.length : Int) == 0) = false := beq_eq_false_iff_ne.mpr (by omega)
    have g_texts : d.texts.isEmpty = false := by
      cases hx : d.texts with
      | nil => exact absurd (by rw [hx]; rfl) q_texts
      | cons a b => rfl
    clear q_texts
    go_enter Try.func101, Try.ntmps101
    go_wp2
    go_ret
    refine ⟨?_, below_alloc (Below.refl _ _) _⟩
    rw [decide_eq_false HN.out]; rfl
  have f_texts : ((d.texts.length : Int) == 0) = true := beq_iff_eq.mpr (by omega)
  have e_texts := Aside0.mk q_texts
  clear q_texts
  have HY : Aside0 (Emp d true false false false false) := ⟨⟨.inl rfl, .inr e_host.out, .inr e_mail.out, .inr e_nums.out, .inr e_texts.out⟩⟩
  go_enter Try.func101, Try.ntmps101
  go_wp2
  go_ret
  refine ⟨?_, below_alloc (Below.refl _ _) _⟩
  rw [decide_eq_true HY.out]; rfl
set_option maxHeartbeats 4000000 in
theorem empty_FTFFF (d : Dat) (cs : List Value) (w : World) (h : kD.K w (fun _ => True) d cs) :
    Calls Try.prog 101 #[.agg cs.toArray, .bool false, .bool true, .bool false, .bool false, .bool false] w fun e w' => e = .returned (.bool (decide (Emp d false true false false false))) ∧ Below w.heap.size w w' := by
  obtain ⟨vb, vh, vm, vn, vt, rfl, hb, hh, hm, hn, ht⟩ := h
  obtain ⟨Ab, cb, rfl, _, _⟩ := hb
  obtain ⟨Ah, ch, rfl, _, _⟩ := hh
  obtain ⟨Am, cm, rfl, _, _⟩ := hm
  obtain ⟨An, cn, rfl, _, _⟩ := hn
  obtain ⟨At, ct, rfl, _, _⟩ := ht
  by_cases q_bytes : d.bytes.length = 0
  rotate_left
  · have HN : Aside0 (¬ Emp d false true false false false) := ⟨fun h => by unfold Emp at h; rcases h.1 with z | z <;> first | exact q_bytes z | cases z⟩
    have f_bytes : ((d.bytes.length : Int) == 0) = false := beq_eq_false_iff_ne.mpr (by omega)
    have g_bytes : d.bytes.isEmpty = false := by
      cases hx : d.bytes with
      | nil => exact absurd (by rw [hx]; rfl) q_bytes
      | cons a b => rfl
    clear q_bytes
    go_enter Try.func101, Try.ntmps101
    go_wp2
    go_ret
    refine ⟨?_, below_alloc (Below.refl _ _) _⟩
    rw [decide_eq_false HN.out]; rfl
  have f_bytes : ((d.bytes.length : Int) == 0) = true := beq_iff_eq.mpr (by omega)
  have e_bytes := Aside0.mk q_bytes
  clear q_bytes
  by_cases q_mail : d.mail.length = 0
  rotate_left
  · have HN : Aside0 (¬ Emp d false true false false false) := ⟨fun h => by unfold Emp at h; rcases h.2.2.1 with z | z <;> first | exact q_mail z | cases z⟩
    have f_mail : ((d.mail.length : Int) == 0) = false := beq_eq_false_iff_ne.mpr (by omega)
    have g_mail : d.mail.isEmpty = false := by
      cases hx : d.mail with
      | nil => exact absurd (by rw [hx]; rfl) q_mail
      | cons a b => rfl
    clear q_mail
    go_enter Try.func101, Try.ntmps101
    go_wp2
    go_ret
    refine ⟨?_, below_alloc (Below.refl _ _) _⟩
    rw [decide_eq_false HN.out]; rfl
  have f_mail : ((d.mail.length : Int) == 0) = true := beq_iff_eq.mpr (by omega)
  have e_mail := Aside0.mk q_mail
  clear q_mail
  by_cases q_nums : d.nums.length = 0
  rotate_left
  · have HN : Aside0 (¬ Emp d false true false false false) := ⟨fun h => by unfold Emp at h; rcases h.2.2.2.1 with z | z <;> first | exact q_nums z | cases z⟩
    have f_nums : ((d.nums.length : Int) == 0) = false := beq_eq_false_iff_ne.mpr (by omega)
    have g_nums : d.nums.isEmpty = false := by
      cases hx : d.nums with
      | nil => exact absurd (by rw [hx]; rfl) q_nums
      | cons a b => rfl
    clear q_nums
    go_enter Try.func101, Try.ntmps101
    go_wp2
    go_ret
    refine ⟨?_, below_alloc (Below.refl _ _) _⟩
    rw [decide_eq_false HN.out]; rfl
  have f_nums : ((d.nums.length : Int) == 0) = true := beq_iff_eq.mpr (by omega)
  have e_nums := Aside0.mk q_nums
  clear q_nums
  by_cases q_texts : d.texts.length = 0
  rotate_left
  · have HN : Aside0 (¬ Emp d false true false false false) := ⟨fun h => by unfold Emp at h; rcases h.2.2.2.2 with z | z <;> first | exact q_texts z | cases z⟩
    have f_texts : ((d.texts.length : Int) == 0) = false := beq_eq_false_iff_ne.mpr (by omega)
    have g_texts : d.texts.isEmpty = false := by
      cases hx : d.texts with
      | nil => exact absurd (by rw [hx]; rfl) q_texts
      | cons a b => rfl
    clear q_texts
    go_enter Try.func101, Try.ntmps101
    go_wp2
    go_ret
    refine ⟨?_, below_alloc (Below.refl _ _) _⟩
    rw [decide_eq_false HN.out]; rfl
  have f_texts : ((d.texts.length : Int) == 0) = true := beq_iff_eq.mpr (by omega)
  have e_texts := Aside0.mk q_texts
  clear q_texts
  have HY : Aside0 (Emp d false true false false false) := ⟨⟨.inr e_bytes.out, .inl rfl, .inr e_mail.out, .inr e_nums.out, .inr e_texts.out⟩⟩
  go_enter Try.func101, Try.ntmps101
  go_wp2
  go_ret
  refine ⟨?_, below_alloc (Below.refl _ _) _⟩
  rw [decide_eq_true HY.out]; rfl
set_option maxHeartbeats 4000000 in
theorem empty_FTFTF (d : Dat) (cs : List Value) (w : World) (h : kD.K w (fun _ => True) d cs) :
    Calls Try.prog 101 #[.agg cs.toArray, .bool false, .bool true, .bool false, .bool true, .bool false] w fun e w' => e = .returned (.bool (decide (Emp d false true false true false))) ∧ Below w.heap.size w w' := by
  obtain ⟨vb, vh, vm, vn, vt, rfl, hb, hh, hm, hn, ht⟩ := h
  obtain ⟨Ab, cb, rfl, _, _⟩ := hb
  obtain ⟨Ah, ch, rfl, _, _⟩ := hh
  obtain ⟨Am, cm, rfl, _, _⟩ := hm
  obtain ⟨An, cn, rfl, _, _⟩ := hn
  obtain ⟨At, ct, rfl, _, _⟩ := ht
  by_cases q_bytes : d.bytes.length = 0
  rotate_left
  · have HN : Aside0 (¬ Emp d false true false true false) := ⟨fun h => by unfold Emp at h; rcases h.1 with z | z <;> first | exact q_bytes z | cases z⟩
    have f_bytes : ((d.bytes.length : Int) == 0) = false := beq_eq_false_iff_ne.mpr (by omega)
    have g_bytes : d.bytes.isEmpty = false := by
      cases hx : d.bytes with
      | nil => exact absurd (by rw [hx]; rfl) q_bytes
      | cons a b => rfl
    clear q_bytes
    go_enter Try.func101, Try.ntmps101
    go_wp2
    go_ret
    refine ⟨?_, below_alloc (Below.refl _ _) _⟩
    rw [decide_eq_false HN.out]; rfl
  have f_bytes : ((d.bytes.length : Int) == 0) = true := beq_iff_eq.mpr (by omega)
  have e_bytes := Aside0.mk q_bytes
  clear q_bytes
  by_cases q_mail : d.mail.length = 0
  rotate_left
  · have HN : Aside0 (¬ Emp d false true false true false) := ⟨fun h => by unfold Emp at h; rcases h.2.2.1 with z | z <;> first | exact q_mail z | cases z⟩
    have f_mail : ((d.mail.length : Int) == 0) = false := beq_eq_false_iff_ne.mpr (by omega)
    have g_mail : d.mail.isEmpty = false := by
      cases hx : d.mail with
      | nil => exact absurd (by rw [hx]; rfl) q_mail
      | cons a b => rfl
    clear q_mail
    go_enter Try.func101, Try.ntmps101
    go_wp2
    go_ret
    refine ⟨?_, below_alloc (Below.refl _ _) _⟩
    rw [decide_eq_false HN.out]; rfl
  have f_mail : ((d.mail.length : Int) == 0) = true := beq_iff_eq.mpr (by omega)
  have e_mail := Aside0.mk q_mail
  clear q_mail
  by_cases q_texts : d.texts.length = 0
  rotate_left
  · have HN : Aside0 (¬ Emp d false true false true false) := ⟨fun h => by unfold Emp at h; rcases h.2.2.2.2 with z | z <;> first | exact q_texts z | cases z⟩
    have f_texts : ((d.texts.length : Int) == 0) = false := beq_eq_false_iff_ne.mpr (by omega)
    have g_texts : d.texts.isEmpty = false := by
      cases hx : d.texts with
      | nil => exact absurd (by rw [hx]; rfl) q_texts
      | cons a b => rfl
    clear q_texts
    go_enter Try.func101, Try.ntmps101
    go_wp2
    go_ret
    refine ⟨?_, below_alloc (Below.refl _ _) _⟩
    rw [decide_eq_false HN.out]; rfl
  have f_texts : ((d.texts.length : Int) == 0) = true := beq_iff_eq.mpr (by omega)
  have e_texts := Aside0.mk q_texts
  clear q_texts
  have HY : Aside0 (Emp d false true false true false) := ⟨⟨.inr e_bytes.out, .inl rfl, .inr e_mail.out, .inl rfl, .inr e_texts.out⟩⟩
  go_enter Try.func101, Try.ntmps101
  go_wp2
  go_ret
  refine ⟨?_, below_alloc (Below.refl _ _) _⟩
  rw [decide_eq_true HY.out]; rfl
set_option maxHeartbeats 4000000 in
theorem empty_FTTTF (d : Dat) (cs : List Value) (w : World) (h : kD.K w (fun _ => True) d cs) :
    Calls Try.prog 101 #[.agg cs.toArray, .bool false, .bool true, .bool true, .bool true, .bool false] w fun e w' => e = .returned (.bool (decide (Emp d false true true true false))) ∧ Below w.heap.size w w' := by
  obtain ⟨vb, vh, vm, vn, vt, rfl, hb, hh, hm, hn, ht⟩ := h
  obtain ⟨Ab, cb, rfl, _, _⟩ := hb
  obtain ⟨Ah, ch, rfl, _, _⟩ := hh
  obtain ⟨Am, cm, rfl, _, _⟩ := hm
  obtain ⟨An, cn, rfl, _, _⟩ := hn
  obtain ⟨At, ct, rfl, _, _⟩ := ht
  by_cases q_bytes : d.bytes.length = 0
  rotate_left
  · have HN : Aside0 (¬ Emp d false true true true false) := ⟨fun h => by unfold Emp at h; rcases h.1 with z | z <;> first | exact q_bytes z | cases z⟩
    have f_bytes : ((d.bytes.length : Int) == 0) = false := beq_eq_false_iff_ne.mpr (by omega)
    have g_bytes : d.bytes.isEmpty = false := by
      cases hx : d.bytes with
      | nil => exact absurd (by rw [hx]; rfl) q_bytes
      | cons a b => rfl
    clear q_bytes
    go_enter Try.func101, Try.ntmps101
    go_wp2
    go_ret
    refine ⟨?_, below_alloc (Below.refl _ _) _⟩
    rw [decide_eq_false HN.out]; rfl
  have f_bytes : ((d.bytes.length : Int) == 0) = true := beq_iff_eq.mpr (by omega)
  have e_bytes := Aside0.mk q_bytes
  clear q_bytes
  by_cases q_texts : d.texts.length = 0
  rotate_left
  · have HN : Aside0 (¬ Emp d false true true true false) := ⟨fun h => by unfold Emp at h; rcases h.2.2.2.2 with z | z <;> first | exact q_texts z | cases z⟩
    have f_texts : ((d.texts.length : Int) == 0) = false := beq_eq_false_iff_ne.mpr (by omega)
    have g_texts : d.texts.isEmpty = false := by
      cases hx : d.texts with
      | nil => exact absurd (by rw [hx]; rfl) q_texts
      | cons a b => rfl
    clear q_texts
    go_enter Try.func101, Try.ntmps101
    go_wp2
    go_ret
    refine ⟨?_, below_alloc (Below.refl _ _) _⟩
    rw [decide_eq_false HN.out]; rfl
  have f_texts : ((d.texts.length : Int) == 0) = true := beq_iff_eq.mpr (by omega)
  have e_texts := Aside0.mk q_texts
  clear q_texts
  have HY : Aside0 (Emp d false true true true false) := ⟨⟨.inr e_bytes.out, .inl rfl, .inl rfl, .inl rfl, .inr e_texts.out⟩⟩
  go_enter Try.func101, Try.ntmps101
  go_wp2
  go_ret
  refine ⟨?_, below_alloc (Below.refl _ _) _⟩
  rw [decide_eq_true HY.out]; rfl
set_option maxHeartbeats 4000000 in
theorem empty_FFFFT (d : Dat) (cs : List Value) (w : World) (h : kD.K w (fun _ => True) d cs) :
    Calls Try.prog 101 #[.agg cs.toArray, .bool false, .bool false, .bool false, .bool false, .bool true] w fun e w' => e = .returned (.bool (decide (Emp d false false false false true))) ∧ Below w.heap.size w w' := by
  obtain ⟨vb, vh, vm, vn, vt, rfl, hb, hh, hm, hn, ht⟩ := h
  obtain ⟨Ab, cb, rfl, _, _⟩ := hb
  obtain ⟨Ah, ch, rfl, _, _⟩ := hh
  obtain ⟨Am, cm, rfl, _, _⟩ := hm
  obtain ⟨An, cn, rfl, _, _⟩ := hn
  obtain ⟨At, ct, rfl, _, _⟩ := ht
  by_cases q_bytes : d.bytes.length = 0
  rotate_left
  · have HN : Aside0 (¬ Emp d false false false false true) := ⟨fun h => by unfold Emp at h; rcases h.1 with z | z <;> first | exact q_bytes z | cases z⟩
    have f_bytes : ((d.bytes.length : Int) == 0) = false := beq_eq_false_iff_ne.mpr (by omega)
    have g_bytes : d.bytes.isEmpty = false := by
      cases hx : d.bytes with
      | nil => exact absurd (by rw [hx]; rfl) q_bytes
      | cons a b => rfl
    clear q_bytes
    go_enter Try.func101, Try.ntmps101
    go_wp2
    go_ret
    refine ⟨?_, below_alloc (Below.refl _ _) _⟩
    rw [decide_eq_false HN.out]; rfl
  have f_bytes : ((d.bytes.length : Int) == 0) = true := beq_iff_eq.mpr (by omega)
  have e_bytes := Aside0.mk q_bytes
  clear q_bytes
  by_cases q_host : d.host.length = 0
  rotate_left
  · have HN : Aside0 (¬ Emp d false false false false true) := ⟨fun h => by unfold Emp at h; rcases h.2.1 with z | z <;> first | exact q_host z | cases z⟩
    have f_host : ((d.host.length : Int) == 0) = false := beq_eq_false_iff_ne.mpr (by omega)
    have g_host : d.host.isEmpty = false := by
      cases hx : d.host with
      | nil => exact absurd (by rw [hx]; rfl) q_host
      | cons a b => rfl
    clear q_host
    go_enter Try.func101, Try.ntmps101
    go_wp2
    go_ret
    refine ⟨?_, below_alloc (Below.refl _ _) _⟩
    rw [decide_eq_false HN.out]; rfl
  have f_host : ((d.host.length : Int) == 0) = true := beq_iff_eq.mpr (by omega)
  have e_host := Aside0.mk q_host
  clear q_host
  by_cases q_mail : d.mail.length = 0
  rotate_left
  · have HN : Aside0 (¬ Emp d false false false false true) := ⟨fun h => by unfold Emp at h; rcases h.2.2.1 with z | z <;> first | exact q_mail z | cases z⟩
    have f_mail : ((d.mail.length : Int) == 0) = false := beq_eq_false_iff_ne.mpr (by omega)
    have g_mail : d.mail.isEmpty = false := by
      cases hx : d.mail with
      | nil => exact absurd (by rw [hx]; rfl) q_mail
      | cons a b => rfl
    clear q_mail
    go_enter Try.func101, Try.ntmps101
    go_wp2
    go_ret
    refine ⟨?_, below_alloc (Below.refl _ _) _⟩
    rw [decide_eq_false HN.out]; rfl
  have f_mail : ((d.mail.length : Int) == 0) = true := beq_iff_eq.mpr (by omega)
  have e_mail := Aside0.mk q_mail
  clear q_mail
  by_cases q_nums : d.nums.length = 0
  rotate_left
  · have HN : Aside0 (¬ Emp d false false false false true) := ⟨fun h => by unfold Emp at h; rcases h.2.2.2.1 with z | z <;> first | exact q_nums z | cases z⟩
    have f_nums : ((d.nums.length : Int) == 0) = false := beq_eq_false_iff_ne.mpr (by omega)
    have g_nums : d.nums.isEmpty = false := by
      cases hx : d.nums with
      | nil => exact absurd (by rw [hx]; rfl) q_nums
      | cons a b => rfl
    clear q_nums
    go_enter Try.func101, Try.ntmps101
    go_wp2
    go_ret
    refine ⟨?_, below_alloc (Below.refl _ _) _⟩
    rw [decide_eq_false HN.out]; rfl
  have f_nums : ((d.nums.length : Int) == 0) = true := beq_iff_eq.mpr (by omega)
  have e_nums := Aside0.mk q_nums
  clear q_nums
  have HY : Aside0 (Emp d false false false false true) := ⟨⟨.inr e_bytes.out, .inr e_host.out, .inr e_mail.out, .inr e_nums.out, .inl rfl⟩⟩
  go_enter Try.func101, Try.ntmps101
  go_wp2
  go_ret
  refine ⟨?_, below_alloc (Below.refl _ _) _⟩
  rw [decide_eq_true HY.out]; rfl
def fitB (l : List Int) (count size : Int) : Bool := decide ((l.length : Int) = count) && !(l.any fun n => !fits n size)
theorem rd_r64 {w : World} {ok : Nat → Prop} {v : Value} {xs : List Int} (h : kI.Rd w ok v xs) : ∀ x ∈ xs, R64 x := by
  obtain ⟨A, c, rfl, _, hr⟩ := h
  intro x hx
  obtain ⟨k, hk, rfl⟩ := List.getElem_of_mem hx
  obtain ⟨ad, cs, _, _, hK, _⟩ := hr.at_ k hk
  exact hK.2
set_option maxHeartbeats 1000000 in
theorem fit_calls (v : Value) (l : List Int) (count size : Int) (w : World) (h : kI.Rd w (fun _ => True) v l) (hs : R64 size) :
    Calls Try.prog 102 #[v, .int .i64 count, .int .i64 size] w fun e w' => e = .returned (.bool (fitB l count size)) ∧ w = w' := by
  have hR := Aside0.mk (rd_r64 h)
  have HS := Aside0.mk hs
  have hmax := h.max
  obtain ⟨A, c, rfl, hl, hr⟩ := h
  have HR := Aside0.mk hr
  clear hr hs
  by_cases hc : (l.length : Int) = count
  · have hne : ((l.length : Int) != count) = false := bne_eq_false_iff_eq.mpr hc
    have Hc := Aside0.mk hc
    clear hc
    go_enter Try.func102, Try.ntmps102
    go_wp2
    go_loop [7] (fun i => ∃ k : Nat, k ≤ l.length ∧ i = .int .i64 k ∧ Aside0 ((l.take k).any (fun n => !fits n size) = false)) (fun i => l.length - (intOf i).toNat)
    case atStart => exact ⟨0, Nat.zero_le _, rfl, ⟨rfl⟩⟩
    case round =>
      obtain ⟨k, hk, rfl, HA⟩ := hrel
      by_cases hlt : k < l.length
      · obtain ⟨ad, rfl, hcell⟩ := cell_i HR.out k hlt
        have hC := fun w => Aside0.mk (rfits_calls l[k] size w (hR.out _ (List.getElem_mem hlt)) HS.out)
        have HX : Aside0 (fits l[k] size = true → (l.take (k + 1)).any (fun n => !fits n size) = false) := ⟨fun h => by rw [List.take_succ_eq_append_getElem hlt, List.any_append, HA.out]; simp [h]⟩
        have HY : Aside0 (fits l[k] size = false → fitB l count size = false) := ⟨fun h => by
          have : (l.any fun n => !fits n size) = true := List.any_eq_true.2 ⟨_, List.getElem_mem hlt, by simp [h]⟩
          unfold fitB; rw [this]; simp⟩
        generalize l[k] = y at hcell hC HX HY
        cases hq : fits y size with
        | true =>
          rw [hq] at hC
          have HZ := Aside0.mk (HX.out hq)
          have hC := Aside0.mk hC
          clear hq HX HY
          go_wp2_with fail
          refine (hC.out _).out.mono ?_
          rintro e w1 ⟨rfl, rfl⟩
          go_wp2_with fail
          go_round
          case rel => exact ⟨k + 1, by omega, by go_num, HZ⟩
          case measure => simp [intOf]; omega
        | false =>
          rw [hq] at hC
          have HZ := Aside0.mk (HY.out hq)
          have hC := Aside0.mk hC
          clear hq HX HY
          go_wp2_with fail
          refine (hC.out _).out.mono ?_
          rintro e w1 ⟨rfl, rfl⟩
          go_wp2_with fail
          go_ret
          refine ⟨?_, rfl⟩
          rw [HZ.out]; rfl
      · have HK := Aside0.mk (show k = l.length by omega)
        go_wp2
        go_ret
        refine ⟨?_, rfl⟩
        have h1 := HA.out
        rw [HK.out, List.take_length] at h1
        unfold fitB
        rw [h1, decide_eq_true Hc.out]; rfl
  · have hne : ((l.length : Int) != count) = true := bne_iff_ne.mpr hc
    have hr : fitB l count size = false := by unfold fitB; rw [decide_eq_false hc]; rfl
    rw [hr]
    clear hr
    go_enter Try.func102, Try.ntmps102
    go_wp2
    go_ret
    exact ⟨rfl, rfl⟩
theorem rsound_calls_v (b : Bool) (v : Value) (n : List ByteArray) (w : World) (h : kS.Rd w (fun _ => True) v n) (hq : nSound n = b) :
    Calls Try.prog 21 #[v] w fun e w' => e = .returned (.bool b) ∧ w = w' := by
  subst hq; exact rsound_calls v n w h
theorem fit_calls_v (b : Bool) (v : Value) (l : List Int) (count size : Int) (w : World) (h : kI.Rd w (fun _ => True) v l) (hs : R64 size) (hq : fitB l count size = b) :
    Calls Try.prog 102 #[v, .int .i64 count, .int .i64 size] w fun e w' => e = .returned (.bool b) ∧ w = w' := by
  subst hq; exact fit_calls v l count size w h hs
theorem fitB_iff (l : List Int) (m : Nat) (size : Int) : fitB l m size = true ↔ l.length = m ∧ (l.any fun n => !fits n size) = false := by
  unfold fitB
  rw [Bool.and_eq_true, decide_eq_true_eq, Bool.not_eq_true']
  exact ⟨fun h => ⟨by omega, h.2⟩, fun h => ⟨by omega, h.2⟩⟩
theorem empty_TFFFF_v (b : Bool) (d : Dat) (cs : List Value) (w : World) (h : kD.K w (fun _ => True) d cs) (hq : decide (Emp d true false false false false) = b) :
    Calls Try.prog 101 #[.agg cs.toArray, .bool true, .bool false, .bool false, .bool false, .bool false] w fun e w' => e = .returned (.bool b) ∧ Below w.heap.size w w' := by
  subst hq; exact empty_TFFFF d cs w h
theorem empty_FTFFF_v (b : Bool) (d : Dat) (cs : List Value) (w : World) (h : kD.K w (fun _ => True) d cs) (hq : decide (Emp d false true false false false) = b) :
    Calls Try.prog 101 #[.agg cs.toArray, .bool false, .bool true, .bool false, .bool false, .bool false] w fun e w' => e = .returned (.bool b) ∧ Below w.heap.size w w' := by
  subst hq; exact empty_FTFFF d cs w h
theorem empty_FTFTF_v (b : Bool) (d : Dat) (cs : List Value) (w : World) (h : kD.K w (fun _ => True) d cs) (hq : decide (Emp d false true false true false) = b) :
    Calls Try.prog 101 #[.agg cs.toArray, .bool false, .bool true, .bool false, .bool true, .bool false] w fun e w' => e = .returned (.bool b) ∧ Below w.heap.size w w' := by
  subst hq; exact empty_FTFTF d cs w h
theorem empty_FTTTF_v (b : Bool) (d : Dat) (cs : List Value) (w : World) (h : kD.K w (fun _ => True) d cs) (hq : decide (Emp d false true true true false) = b) :
    Calls Try.prog 101 #[.agg cs.toArray, .bool false, .bool true, .bool true, .bool true, .bool false] w fun e w' => e = .returned (.bool b) ∧ Below w.heap.size w w' := by
  subst hq; exact empty_FTTTF d cs w h
theorem empty_FFFFT_v (b : Bool) (d : Dat) (cs : List Value) (w : World) (h : kD.K w (fun _ => True) d cs) (hq : decide (Emp d false false false false true) = b) :
    Calls Try.prog 101 #[.agg cs.toArray, .bool false, .bool false, .bool false, .bool false, .bool true] w fun e w' => e = .returned (.bool b) ∧ Below w.heap.size w w' := by
  subst hq; exact empty_FFFFT d cs w h
set_option maxHeartbeats 8000000 in
set_option maxRecDepth 100000 in
theorem rdata_1 (d : Dat) (cs : List Value) (w : World) (h : kD.K w (fun _ => True) d cs) :
    Calls Try.prog 63 #[.int .i64 1, .agg cs.toArray] w fun e w' => e = .returned (.bool (decide (DOk 1 d))) ∧ Below w.heap.size w w' := by
  have HD : Aside0 (DOk 1 d ↔ (d.bytes.length = 4 ∧ Emp d true false false false false)) := ⟨by
    unfold Emp
    show (_ ∧ _) ↔ _
    simp <;> (constructor <;> intro h <;> simp_all)⟩
  have RD := Aside0.mk h
  obtain ⟨vb, vh, vm, vn, vt, rfl, hb, hh, hm, hn, ht⟩ := h
  have RH := Aside0.mk hh
  have RM := Aside0.mk hm
  have RN := Aside0.mk hn
  obtain ⟨Ab, cb, rfl, _, _⟩ := hb
  obtain ⟨Ah, ch, rfl, _, _⟩ := hh
  obtain ⟨Am, cm, rfl, _, _⟩ := hm
  obtain ⟨An, cn, rfl, _, _⟩ := hn
  obtain ⟨At, ct, rfl, _, _⟩ := ht
  by_cases q_b4 : d.bytes.length = 4
  rotate_left
  · have HN : Aside0 (¬ DOk 1 d) := ⟨fun h => q_b4 (HD.out.1 h).1⟩
    have f_b4 : ((d.bytes.length : Int) == 4) = false := beq_eq_false_iff_ne.mpr (by omega)
    have e_b4 := Aside0.mk q_b4
    clear q_b4
    go_enter Try.func63, Try.ntmps63
    go_wp2_with fail
    go_ret
    refine ⟨?_, (below_alloc (Below.refl w.heap.size w) _)⟩
    rw [decide_eq_false HN.out]; rfl
  have f_b4 : ((d.bytes.length : Int) == 4) = true := beq_iff_eq.mpr (by omega)
  have e_b4 := Aside0.mk q_b4
  clear q_b4
  by_cases q_e : Emp d true false false false false
  · have HY : Aside0 (DOk 1 d) := ⟨HD.out.2 ⟨e_b4.out, q_e⟩⟩
    have HQ : Aside0 (decide (Emp d true false false false false) = true) := ⟨decide_eq_true q_e⟩
    clear q_e
    go_enter Try.func63, Try.ntmps63
    go_wp2_with fail
    refine (empty_TFFFF_v true d _ _ (K_below RD.out (below_alloc (Below.refl w.heap.size w) _)) HQ.out).mono ?_
    rintro e w2 ⟨rfl, hb2⟩
    have HB2 := Aside0.mk ((below_alloc (Below.refl w.heap.size w) _).trans (hb2.mono (by simp)))
    clear hb2
    go_wp2_with fail
    go_ret
    refine ⟨?_, HB2.out⟩
    rw [decide_eq_true HY.out]; rfl
  · have HY : Aside0 (¬ DOk 1 d) := ⟨fun h => q_e (HD.out.1 h).2⟩
    have HQ : Aside0 (decide (Emp d true false false false false) = false) := ⟨decide_eq_false q_e⟩
    clear q_e
    go_enter Try.func63, Try.ntmps63
    go_wp2_with fail
    refine (empty_TFFFF_v false d _ _ (K_below RD.out (below_alloc (Below.refl w.heap.size w) _)) HQ.out).mono ?_
    rintro e w2 ⟨rfl, hb2⟩
    have HB2 := Aside0.mk ((below_alloc (Below.refl w.heap.size w) _).trans (hb2.mono (by simp)))
    clear hb2
    go_wp2_with fail
    go_ret
    refine ⟨?_, HB2.out⟩
    rw [decide_eq_false HY.out]; rfl
set_option maxHeartbeats 8000000 in
set_option maxRecDepth 100000 in
theorem rdata_28 (d : Dat) (cs : List Value) (w : World) (h : kD.K w (fun _ => True) d cs) :
    Calls Try.prog 63 #[.int .i64 28, .agg cs.toArray] w fun e w' => e = .returned (.bool (decide (DOk 28 d))) ∧ Below w.heap.size w w' := by
  have HD : Aside0 (DOk 28 d ↔ (d.bytes.length = 16 ∧ Emp d true false false false false)) := ⟨by
    unfold Emp
    show (_ ∧ _) ↔ _
    simp <;> (constructor <;> intro h <;> simp_all)⟩
  have RD := Aside0.mk h
  obtain ⟨vb, vh, vm, vn, vt, rfl, hb, hh, hm, hn, ht⟩ := h
  have RH := Aside0.mk hh
  have RM := Aside0.mk hm
  have RN := Aside0.mk hn
  obtain ⟨Ab, cb, rfl, _, _⟩ := hb
  obtain ⟨Ah, ch, rfl, _, _⟩ := hh
  obtain ⟨Am, cm, rfl, _, _⟩ := hm
  obtain ⟨An, cn, rfl, _, _⟩ := hn
  obtain ⟨At, ct, rfl, _, _⟩ := ht
  by_cases q_b16 : d.bytes.length = 16
  rotate_left
  · have HN : Aside0 (¬ DOk 28 d) := ⟨fun h => q_b16 (HD.out.1 h).1⟩
    have f_b16 : ((d.bytes.length : Int) == 16) = false := beq_eq_false_iff_ne.mpr (by omega)
    have e_b16 := Aside0.mk q_b16
    clear q_b16
    go_enter Try.func63, Try.ntmps63
    go_wp2_with fail
    go_ret
    refine ⟨?_, (below_alloc (Below.refl w.heap.size w) _)⟩
    rw [decide_eq_false HN.out]; rfl
  have f_b16 : ((d.bytes.length : Int) == 16) = true := beq_iff_eq.mpr (by omega)
  have e_b16 := Aside0.mk q_b16
  clear q_b16
  by_cases q_e : Emp d true false false false false
  · have HY : Aside0 (DOk 28 d) := ⟨HD.out.2 ⟨e_b16.out, q_e⟩⟩
    have HQ : Aside0 (decide (Emp d true false false false false) = true) := ⟨decide_eq_true q_e⟩
    clear q_e
    go_enter Try.func63, Try.ntmps63
    go_wp2_with fail
    refine (empty_TFFFF_v true d _ _ (K_below RD.out (below_alloc (Below.refl w.heap.size w) _)) HQ.out).mono ?_
    rintro e w2 ⟨rfl, hb2⟩
    have HB2 := Aside0.mk ((below_alloc (Below.refl w.heap.size w) _).trans (hb2.mono (by simp)))
    clear hb2
    go_wp2_with fail
    go_ret
    refine ⟨?_, HB2.out⟩
    rw [decide_eq_true HY.out]; rfl
  · have HY : Aside0 (¬ DOk 28 d) := ⟨fun h => q_e (HD.out.1 h).2⟩
    have HQ : Aside0 (decide (Emp d true false false false false) = false) := ⟨decide_eq_false q_e⟩
    clear q_e
    go_enter Try.func63, Try.ntmps63
    go_wp2_with fail
    refine (empty_TFFFF_v false d _ _ (K_below RD.out (below_alloc (Below.refl w.heap.size w) _)) HQ.out).mono ?_
    rintro e w2 ⟨rfl, hb2⟩
    have HB2 := Aside0.mk ((below_alloc (Below.refl w.heap.size w) _).trans (hb2.mono (by simp)))
    clear hb2
    go_wp2_with fail
    go_ret
    refine ⟨?_, HB2.out⟩
    rw [decide_eq_false HY.out]; rfl
set_option maxHeartbeats 8000000 in
set_option maxRecDepth 100000 in
theorem rdata_2 (d : Dat) (cs : List Value) (w : World) (h : kD.K w (fun _ => True) d cs) :
    Calls Try.prog 63 #[.int .i64 2, .agg cs.toArray] w fun e w' => e = .returned (.bool (decide (DOk 2 d))) ∧ Below w.heap.size w w' := by
  have HD : Aside0 (DOk 2 d ↔ (nSound d.host = true ∧ Emp d false true false false false)) := ⟨by
    unfold Emp
    show (_ ∧ _) ↔ _
    simp <;> (constructor <;> intro h <;> simp_all)⟩
  have RD := Aside0.mk h
  obtain ⟨vb, vh, vm, vn, vt, rfl, hb, hh, hm, hn, ht⟩ := h
  have RH := Aside0.mk hh
  have RM := Aside0.mk hm
  have RN := Aside0.mk hn
  obtain ⟨Ab, cb, rfl, _, _⟩ := hb
  obtain ⟨Ah, ch, rfl, _, _⟩ := hh
  obtain ⟨Am, cm, rfl, _, _⟩ := hm
  obtain ⟨An, cn, rfl, _, _⟩ := hn
  obtain ⟨At, ct, rfl, _, _⟩ := ht
  by_cases q_host : nSound d.host = true
  rotate_left
  · have HN : Aside0 (¬ DOk 2 d) := ⟨fun h => q_host (HD.out.1 h).1⟩
    have e_host := Aside0.mk q_host
    clear q_host
    go_enter Try.func63, Try.ntmps63
    go_wp2_with fail
    refine (rsound_calls_v false _ d.host _ (RH.out.below pS (below_alloc (Below.refl w.heap.size w) _)) (eq_false_of_ne_true e_host.out)).mono ?_
    rintro e w1 ⟨rfl, rfl⟩
    go_wp2_with fail
    go_ret
    refine ⟨?_, (below_alloc (Below.refl w.heap.size w) _)⟩
    rw [decide_eq_false HN.out]; rfl
  have e_host := Aside0.mk q_host
  clear q_host
  by_cases q_e : Emp d false true false false false
  · have HY : Aside0 (DOk 2 d) := ⟨HD.out.2 ⟨e_host.out, q_e⟩⟩
    have HQ : Aside0 (decide (Emp d false true false false false) = true) := ⟨decide_eq_true q_e⟩
    clear q_e
    go_enter Try.func63, Try.ntmps63
    go_wp2_with fail
    refine (rsound_calls_v true _ d.host _ (RH.out.below pS (below_alloc (Below.refl w.heap.size w) _)) (e_host.out)).mono ?_
    rintro e w1 ⟨rfl, rfl⟩
    go_wp2_with fail
    refine (empty_FTFFF_v true d _ _ (K_below RD.out (below_alloc (Below.refl w.heap.size w) _)) HQ.out).mono ?_
    rintro e w2 ⟨rfl, hb2⟩
    have HB2 := Aside0.mk ((below_alloc (Below.refl w.heap.size w) _).trans (hb2.mono (by simp)))
    clear hb2
    go_wp2_with fail
    go_ret
    refine ⟨?_, HB2.out⟩
    rw [decide_eq_true HY.out]; rfl
  · have HY : Aside0 (¬ DOk 2 d) := ⟨fun h => q_e (HD.out.1 h).2⟩
    have HQ : Aside0 (decide (Emp d false true false false false) = false) := ⟨decide_eq_false q_e⟩
    clear q_e
    go_enter Try.func63, Try.ntmps63
    go_wp2_with fail
    refine (rsound_calls_v true _ d.host _ (RH.out.below pS (below_alloc (Below.refl w.heap.size w) _)) (e_host.out)).mono ?_
    rintro e w1 ⟨rfl, rfl⟩
    go_wp2_with fail
    refine (empty_FTFFF_v false d _ _ (K_below RD.out (below_alloc (Below.refl w.heap.size w) _)) HQ.out).mono ?_
    rintro e w2 ⟨rfl, hb2⟩
    have HB2 := Aside0.mk ((below_alloc (Below.refl w.heap.size w) _).trans (hb2.mono (by simp)))
    clear hb2
    go_wp2_with fail
    go_ret
    refine ⟨?_, HB2.out⟩
    rw [decide_eq_false HY.out]; rfl
set_option maxHeartbeats 8000000 in
set_option maxRecDepth 100000 in
theorem rdata_5 (d : Dat) (cs : List Value) (w : World) (h : kD.K w (fun _ => True) d cs) :
    Calls Try.prog 63 #[.int .i64 5, .agg cs.toArray] w fun e w' => e = .returned (.bool (decide (DOk 5 d))) ∧ Below w.heap.size w w' := by
  have HD : Aside0 (DOk 5 d ↔ (nSound d.host = true ∧ Emp d false true false false false)) := ⟨by
    unfold Emp
    show (_ ∧ _) ↔ _
    simp <;> (constructor <;> intro h <;> simp_all)⟩
  have RD := Aside0.mk h
  obtain ⟨vb, vh, vm, vn, vt, rfl, hb, hh, hm, hn, ht⟩ := h
  have RH := Aside0.mk hh
  have RM := Aside0.mk hm
  have RN := Aside0.mk hn
  obtain ⟨Ab, cb, rfl, _, _⟩ := hb
  obtain ⟨Ah, ch, rfl, _, _⟩ := hh
  obtain ⟨Am, cm, rfl, _, _⟩ := hm
  obtain ⟨An, cn, rfl, _, _⟩ := hn
  obtain ⟨At, ct, rfl, _, _⟩ := ht
  by_cases q_host : nSound d.host = true
  rotate_left
  · have HN : Aside0 (¬ DOk 5 d) := ⟨fun h => q_host (HD.out.1 h).1⟩
    have e_host := Aside0.mk q_host
    clear q_host
    go_enter Try.func63, Try.ntmps63
    go_wp2_with fail
    refine (rsound_calls_v false _ d.host _ (RH.out.below pS (below_alloc (Below.refl w.heap.size w) _)) (eq_false_of_ne_true e_host.out)).mono ?_
    rintro e w1 ⟨rfl, rfl⟩
    go_wp2_with fail
    go_ret
    refine ⟨?_, (below_alloc (Below.refl w.heap.size w) _)⟩
    rw [decide_eq_false HN.out]; rfl
  have e_host := Aside0.mk q_host
  clear q_host
  by_cases q_e : Emp d false true false false false
  · have HY : Aside0 (DOk 5 d) := ⟨HD.out.2 ⟨e_host.out, q_e⟩⟩
    have HQ : Aside0 (decide (Emp d false true false false false) = true) := ⟨decide_eq_true q_e⟩
    clear q_e
    go_enter Try.func63, Try.ntmps63
    go_wp2_with fail
    refine (rsound_calls_v true _ d.host _ (RH.out.below pS (below_alloc (Below.refl w.heap.size w) _)) (e_host.out)).mono ?_
    rintro e w1 ⟨rfl, rfl⟩
    go_wp2_with fail
    refine (empty_FTFFF_v true d _ _ (K_below RD.out (below_alloc (Below.refl w.heap.size w) _)) HQ.out).mono ?_
    rintro e w2 ⟨rfl, hb2⟩
    have HB2 := Aside0.mk ((below_alloc (Below.refl w.heap.size w) _).trans (hb2.mono (by simp)))
    clear hb2
    go_wp2_with fail
    go_ret
    refine ⟨?_, HB2.out⟩
    rw [decide_eq_true HY.out]; rfl
  · have HY : Aside0 (¬ DOk 5 d) := ⟨fun h => q_e (HD.out.1 h).2⟩
    have HQ : Aside0 (decide (Emp d false true false false false) = false) := ⟨decide_eq_false q_e⟩
    clear q_e
    go_enter Try.func63, Try.ntmps63
    go_wp2_with fail
    refine (rsound_calls_v true _ d.host _ (RH.out.below pS (below_alloc (Below.refl w.heap.size w) _)) (e_host.out)).mono ?_
    rintro e w1 ⟨rfl, rfl⟩
    go_wp2_with fail
    refine (empty_FTFFF_v false d _ _ (K_below RD.out (below_alloc (Below.refl w.heap.size w) _)) HQ.out).mono ?_
    rintro e w2 ⟨rfl, hb2⟩
    have HB2 := Aside0.mk ((below_alloc (Below.refl w.heap.size w) _).trans (hb2.mono (by simp)))
    clear hb2
    go_wp2_with fail
    go_ret
    refine ⟨?_, HB2.out⟩
    rw [decide_eq_false HY.out]; rfl
set_option maxHeartbeats 8000000 in
set_option maxRecDepth 100000 in
theorem rdata_12 (d : Dat) (cs : List Value) (w : World) (h : kD.K w (fun _ => True) d cs) :
    Calls Try.prog 63 #[.int .i64 12, .agg cs.toArray] w fun e w' => e = .returned (.bool (decide (DOk 12 d))) ∧ Below w.heap.size w w' := by
  have HD : Aside0 (DOk 12 d ↔ (nSound d.host = true ∧ Emp d false true false false false)) := ⟨by
    unfold Emp
    show (_ ∧ _) ↔ _
    simp <;> (constructor <;> intro h <;> simp_all)⟩
  have RD := Aside0.mk h
  obtain ⟨vb, vh, vm, vn, vt, rfl, hb, hh, hm, hn, ht⟩ := h
  have RH := Aside0.mk hh
  have RM := Aside0.mk hm
  have RN := Aside0.mk hn
  obtain ⟨Ab, cb, rfl, _, _⟩ := hb
  obtain ⟨Ah, ch, rfl, _, _⟩ := hh
  obtain ⟨Am, cm, rfl, _, _⟩ := hm
  obtain ⟨An, cn, rfl, _, _⟩ := hn
  obtain ⟨At, ct, rfl, _, _⟩ := ht
  by_cases q_host : nSound d.host = true
  rotate_left
  · have HN : Aside0 (¬ DOk 12 d) := ⟨fun h => q_host (HD.out.1 h).1⟩
    have e_host := Aside0.mk q_host
    clear q_host
    go_enter Try.func63, Try.ntmps63
    go_wp2_with fail
    refine (rsound_calls_v false _ d.host _ (RH.out.below pS (below_alloc (Below.refl w.heap.size w) _)) (eq_false_of_ne_true e_host.out)).mono ?_
    rintro e w1 ⟨rfl, rfl⟩
    go_wp2_with fail
    go_ret
    refine ⟨?_, (below_alloc (Below.refl w.heap.size w) _)⟩
    rw [decide_eq_false HN.out]; rfl
  have e_host := Aside0.mk q_host
  clear q_host
  by_cases q_e : Emp d false true false false false
  · have HY : Aside0 (DOk 12 d) := ⟨HD.out.2 ⟨e_host.out, q_e⟩⟩
    have HQ : Aside0 (decide (Emp d false true false false false) = true) := ⟨decide_eq_true q_e⟩
    clear q_e
    go_enter Try.func63, Try.ntmps63
    go_wp2_with fail
    refine (rsound_calls_v true _ d.host _ (RH.out.below pS (below_alloc (Below.refl w.heap.size w) _)) (e_host.out)).mono ?_
    rintro e w1 ⟨rfl, rfl⟩
    go_wp2_with fail
    refine (empty_FTFFF_v true d _ _ (K_below RD.out (below_alloc (Below.refl w.heap.size w) _)) HQ.out).mono ?_
    rintro e w2 ⟨rfl, hb2⟩
    have HB2 := Aside0.mk ((below_alloc (Below.refl w.heap.size w) _).trans (hb2.mono (by simp)))
    clear hb2
    go_wp2_with fail
    go_ret
    refine ⟨?_, HB2.out⟩
    rw [decide_eq_true HY.out]; rfl
  · have HY : Aside0 (¬ DOk 12 d) := ⟨fun h => q_e (HD.out.1 h).2⟩
    have HQ : Aside0 (decide (Emp d false true false false false) = false) := ⟨decide_eq_false q_e⟩
    clear q_e
    go_enter Try.func63, Try.ntmps63
    go_wp2_with fail
    refine (rsound_calls_v true _ d.host _ (RH.out.below pS (below_alloc (Below.refl w.heap.size w) _)) (e_host.out)).mono ?_
    rintro e w1 ⟨rfl, rfl⟩
    go_wp2_with fail
    refine (empty_FTFFF_v false d _ _ (K_below RD.out (below_alloc (Below.refl w.heap.size w) _)) HQ.out).mono ?_
    rintro e w2 ⟨rfl, hb2⟩
    have HB2 := Aside0.mk ((below_alloc (Below.refl w.heap.size w) _).trans (hb2.mono (by simp)))
    clear hb2
    go_wp2_with fail
    go_ret
    refine ⟨?_, HB2.out⟩
    rw [decide_eq_false HY.out]; rfl
set_option maxHeartbeats 8000000 in
set_option maxRecDepth 100000 in
theorem rdata_15 (d : Dat) (cs : List Value) (w : World) (h : kD.K w (fun _ => True) d cs) :
    Calls Try.prog 63 #[.int .i64 15, .agg cs.toArray] w fun e w' => e = .returned (.bool (decide (DOk 15 d))) ∧ Below w.heap.size w w' := by
  have HD : Aside0 (DOk 15 d ↔ (nSound d.host = true ∧ fitB d.nums 1 2 = true ∧ Emp d false true false true false)) := ⟨by
    unfold Emp; rw [show (1 : Int) = ((1 : Nat) : Int) from rfl, fitB_iff]
    show (_ ∧ _) ↔ _
    simp <;> (constructor <;> intro h <;> simp_all)⟩
  have RD := Aside0.mk h
  obtain ⟨vb, vh, vm, vn, vt, rfl, hb, hh, hm, hn, ht⟩ := h
  have RH := Aside0.mk hh
  have RM := Aside0.mk hm
  have RN := Aside0.mk hn
  obtain ⟨Ab, cb, rfl, _, _⟩ := hb
  obtain ⟨Ah, ch, rfl, _, _⟩ := hh
  obtain ⟨Am, cm, rfl, _, _⟩ := hm
  obtain ⟨An, cn, rfl, _, _⟩ := hn
  obtain ⟨At, ct, rfl, _, _⟩ := ht
  by_cases q_host : nSound d.host = true
  rotate_left
  · have HN : Aside0 (¬ DOk 15 d) := ⟨fun h => q_host (HD.out.1 h).1⟩
    have e_host := Aside0.mk q_host
    clear q_host
    go_enter Try.func63, Try.ntmps63
    go_wp2_with fail
    refine (rsound_calls_v false _ d.host _ (RH.out.below pS (below_alloc (Below.refl w.heap.size w) _)) (eq_false_of_ne_true e_host.out)).mono ?_
    rintro e w1 ⟨rfl, rfl⟩
    go_wp2_with fail
    go_ret
    refine ⟨?_, (below_alloc (Below.refl w.heap.size w) _)⟩
    rw [decide_eq_false HN.out]; rfl
  have e_host := Aside0.mk q_host
  clear q_host
  by_cases q_fit : fitB d.nums 1 2 = true
  rotate_left
  · have HN : Aside0 (¬ DOk 15 d) := ⟨fun h => q_fit (HD.out.1 h).2.1⟩
    have e_fit := Aside0.mk q_fit
    clear q_fit
    go_enter Try.func63, Try.ntmps63
    go_wp2_with fail
    refine (rsound_calls_v true _ d.host _ (RH.out.below pS (below_alloc (Below.refl w.heap.size w) _)) (e_host.out)).mono ?_
    rintro e w1 ⟨rfl, rfl⟩
    go_wp2_with fail
    refine (fit_calls_v false _ d.nums 1 2 _ (RN.out.below pI (below_alloc (Below.refl w.heap.size w) _)) r64_2 (eq_false_of_ne_true e_fit.out)).mono ?_
    rintro e w1 ⟨rfl, rfl⟩
    go_wp2_with fail
    go_ret
    refine ⟨?_, (below_alloc (Below.refl w.heap.size w) _)⟩
    rw [decide_eq_false HN.out]; rfl
  have e_fit := Aside0.mk q_fit
  clear q_fit
  by_cases q_e : Emp d false true false true false
  · have HY : Aside0 (DOk 15 d) := ⟨HD.out.2 ⟨e_host.out, e_fit.out, q_e⟩⟩
    have HQ : Aside0 (decide (Emp d false true false true false) = true) := ⟨decide_eq_true q_e⟩
    clear q_e
    go_enter Try.func63, Try.ntmps63
    go_wp2_with fail
    refine (rsound_calls_v true _ d.host _ (RH.out.below pS (below_alloc (Below.refl w.heap.size w) _)) (e_host.out)).mono ?_
    rintro e w1 ⟨rfl, rfl⟩
    go_wp2_with fail
    refine (fit_calls_v true _ d.nums 1 2 _ (RN.out.below pI (below_alloc (Below.refl w.heap.size w) _)) r64_2 (e_fit.out)).mono ?_
    rintro e w1 ⟨rfl, rfl⟩
    go_wp2_with fail
    refine (empty_FTFTF_v true d _ _ (K_below RD.out (below_alloc (Below.refl w.heap.size w) _)) HQ.out).mono ?_
    rintro e w2 ⟨rfl, hb2⟩
    have HB2 := Aside0.mk ((below_alloc (Below.refl w.heap.size w) _).trans (hb2.mono (by simp)))
    clear hb2
    go_wp2_with fail
    go_ret
    refine ⟨?_, HB2.out⟩
    rw [decide_eq_true HY.out]; rfl
  · have HY : Aside0 (¬ DOk 15 d) := ⟨fun h => q_e (HD.out.1 h).2.2⟩
    have HQ : Aside0 (decide (Emp d false true false true false) = false) := ⟨decide_eq_false q_e⟩
    clear q_e
    go_enter Try.func63, Try.ntmps63
    go_wp2_with fail
    refine (rsound_calls_v true _ d.host _ (RH.out.below pS (below_alloc (Below.refl w.heap.size w) _)) (e_host.out)).mono ?_
    rintro e w1 ⟨rfl, rfl⟩
    go_wp2_with fail
    refine (fit_calls_v true _ d.nums 1 2 _ (RN.out.below pI (below_alloc (Below.refl w.heap.size w) _)) r64_2 (e_fit.out)).mono ?_
    rintro e w1 ⟨rfl, rfl⟩
    go_wp2_with fail
    refine (empty_FTFTF_v false d _ _ (K_below RD.out (below_alloc (Below.refl w.heap.size w) _)) HQ.out).mono ?_
    rintro e w2 ⟨rfl, hb2⟩
    have HB2 := Aside0.mk ((below_alloc (Below.refl w.heap.size w) _).trans (hb2.mono (by simp)))
    clear hb2
    go_wp2_with fail
    go_ret
    refine ⟨?_, HB2.out⟩
    rw [decide_eq_false HY.out]; rfl
set_option maxHeartbeats 8000000 in
set_option maxRecDepth 100000 in
theorem rdata_6 (d : Dat) (cs : List Value) (w : World) (h : kD.K w (fun _ => True) d cs) :
    Calls Try.prog 63 #[.int .i64 6, .agg cs.toArray] w fun e w' => e = .returned (.bool (decide (DOk 6 d))) ∧ Below w.heap.size w w' := by
  have HD : Aside0 (DOk 6 d ↔ (nSound d.host = true ∧ nSound d.mail = true ∧ fitB d.nums 5 4 = true ∧ Emp d false true true true false)) := ⟨by
    unfold Emp; rw [show (5 : Int) = ((5 : Nat) : Int) from rfl, fitB_iff]
    show (_ ∧ _) ↔ _
    simp <;> (constructor <;> intro h <;> simp_all)⟩
  have RD := Aside0.mk h
  obtain ⟨vb, vh, vm, vn, vt, rfl, hb, hh, hm, hn, ht⟩ := h
  have RH := Aside0.mk hh
  have RM := Aside0.mk hm
  have RN := Aside0.mk hn
  obtain ⟨Ab, cb, rfl, _, _⟩ := hb
  obtain ⟨Ah, ch, rfl, _, _⟩ := hh
  obtain ⟨Am, cm, rfl, _, _⟩ := hm
  obtain ⟨An, cn, rfl, _, _⟩ := hn
  obtain ⟨At, ct, rfl, _, _⟩ := ht
  by_cases q_host : nSound d.host = true
  rotate_left
  · have HN : Aside0 (¬ DOk 6 d) := ⟨fun h => q_host (HD.out.1 h).1⟩
    have e_host := Aside0.mk q_host
    clear q_host
    go_enter Try.func63, Try.ntmps63
    go_wp2_with fail
    refine (rsound_calls_v false _ d.host _ (RH.out.below pS (below_alloc (Below.refl w.heap.size w) _)) (eq_false_of_ne_true e_host.out)).mono ?_
    rintro e w1 ⟨rfl, rfl⟩
    go_wp2_with fail
    go_ret
    refine ⟨?_, (below_alloc (Below.refl w.heap.size w) _)⟩
    rw [decide_eq_false HN.out]; rfl
  have e_host := Aside0.mk q_host
  clear q_host
  by_cases q_mail : nSound d.mail = true
  rotate_left
  · have HN : Aside0 (¬ DOk 6 d) := ⟨fun h => q_mail (HD.out.1 h).2.1⟩
    have e_mail := Aside0.mk q_mail
    clear q_mail
    go_enter Try.func63, Try.ntmps63
    go_wp2_with fail
    refine (rsound_calls_v true _ d.host _ (RH.out.below pS (below_alloc (Below.refl w.heap.size w) _)) (e_host.out)).mono ?_
    rintro e w1 ⟨rfl, rfl⟩
    go_wp2_with fail
    refine (rsound_calls_v false _ d.mail _ (RM.out.below pS (below_alloc (Below.refl w.heap.size w) _)) (eq_false_of_ne_true e_mail.out)).mono ?_
    rintro e w1 ⟨rfl, rfl⟩
    go_wp2_with fail
    go_ret
    refine ⟨?_, (below_alloc (Below.refl w.heap.size w) _)⟩
    rw [decide_eq_false HN.out]; rfl
  have e_mail := Aside0.mk q_mail
  clear q_mail
  by_cases q_fit : fitB d.nums 5 4 = true
  rotate_left
  · have HN : Aside0 (¬ DOk 6 d) := ⟨fun h => q_fit (HD.out.1 h).2.2.1⟩
    have e_fit := Aside0.mk q_fit
    clear q_fit
    go_enter Try.func63, Try.ntmps63
    go_wp2_with fail
    refine (rsound_calls_v true _ d.host _ (RH.out.below pS (below_alloc (Below.refl w.heap.size w) _)) (e_host.out)).mono ?_
    rintro e w1 ⟨rfl, rfl⟩
    go_wp2_with fail
    refine (rsound_calls_v true _ d.mail _ (RM.out.below pS (below_alloc (Below.refl w.heap.size w) _)) (e_mail.out)).mono ?_
    rintro e w1 ⟨rfl, rfl⟩
    go_wp2_with fail
    refine (fit_calls_v false _ d.nums 5 4 _ (RN.out.below pI (below_alloc (Below.refl w.heap.size w) _)) r64_4 (eq_false_of_ne_true e_fit.out)).mono ?_
    rintro e w1 ⟨rfl, rfl⟩
    go_wp2_with fail
    go_ret
    refine ⟨?_, (below_alloc (Below.refl w.heap.size w) _)⟩
    rw [decide_eq_false HN.out]; rfl
  have e_fit := Aside0.mk q_fit
  clear q_fit
  by_cases q_e : Emp d false true true true false
  · have HY : Aside0 (DOk 6 d) := ⟨HD.out.2 ⟨e_host.out, e_mail.out, e_fit.out, q_e⟩⟩
    have HQ : Aside0 (decide (Emp d false true true true false) = true) := ⟨decide_eq_true q_e⟩
    clear q_e
    go_enter Try.func63, Try.ntmps63
    go_wp2_with fail
    refine (rsound_calls_v true _ d.host _ (RH.out.below pS (below_alloc (Below.refl w.heap.size w) _)) (e_host.out)).mono ?_
    rintro e w1 ⟨rfl, rfl⟩
    go_wp2_with fail
    refine (rsound_calls_v true _ d.mail _ (RM.out.below pS (below_alloc (Below.refl w.heap.size w) _)) (e_mail.out)).mono ?_
    rintro e w1 ⟨rfl, rfl⟩
    go_wp2_with fail
    refine (fit_calls_v true _ d.nums 5 4 _ (RN.out.below pI (below_alloc (Below.refl w.heap.size w) _)) r64_4 (e_fit.out)).mono ?_
    rintro e w1 ⟨rfl, rfl⟩
    go_wp2_with fail
    refine (empty_FTTTF_v true d _ _ (K_below RD.out (below_alloc (Below.refl w.heap.size w) _)) HQ.out).mono ?_
    rintro e w2 ⟨rfl, hb2⟩
    have HB2 := Aside0.mk ((below_alloc (Below.refl w.heap.size w) _).trans (hb2.mono (by simp)))
    clear hb2
    go_wp2_with fail
    go_ret
    refine ⟨?_, HB2.out⟩
    rw [decide_eq_true HY.out]; rfl
  · have HY : Aside0 (¬ DOk 6 d) := ⟨fun h => q_e (HD.out.1 h).2.2.2⟩
    have HQ : Aside0 (decide (Emp d false true true true false) = false) := ⟨decide_eq_false q_e⟩
    clear q_e
    go_enter Try.func63, Try.ntmps63
    go_wp2_with fail
    refine (rsound_calls_v true _ d.host _ (RH.out.below pS (below_alloc (Below.refl w.heap.size w) _)) (e_host.out)).mono ?_
    rintro e w1 ⟨rfl, rfl⟩
    go_wp2_with fail
    refine (rsound_calls_v true _ d.mail _ (RM.out.below pS (below_alloc (Below.refl w.heap.size w) _)) (e_mail.out)).mono ?_
    rintro e w1 ⟨rfl, rfl⟩
    go_wp2_with fail
    refine (fit_calls_v true _ d.nums 5 4 _ (RN.out.below pI (below_alloc (Below.refl w.heap.size w) _)) r64_4 (e_fit.out)).mono ?_
    rintro e w1 ⟨rfl, rfl⟩
    go_wp2_with fail
    refine (empty_FTTTF_v false d _ _ (K_below RD.out (below_alloc (Below.refl w.heap.size w) _)) HQ.out).mono ?_
    rintro e w2 ⟨rfl, hb2⟩
    have HB2 := Aside0.mk ((below_alloc (Below.refl w.heap.size w) _).trans (hb2.mono (by simp)))
    clear hb2
    go_wp2_with fail
    go_ret
    refine ⟨?_, HB2.out⟩
    rw [decide_eq_false HY.out]; rfl
set_option maxHeartbeats 8000000 in
set_option maxRecDepth 100000 in
theorem rdata_33 (d : Dat) (cs : List Value) (w : World) (h : kD.K w (fun _ => True) d cs) :
    Calls Try.prog 63 #[.int .i64 33, .agg cs.toArray] w fun e w' => e = .returned (.bool (decide (DOk 33 d))) ∧ Below w.heap.size w w' := by
  have HD : Aside0 (DOk 33 d ↔ (nSound d.host = true ∧ fitB d.nums 3 2 = true ∧ Emp d false true false true false)) := ⟨by
    unfold Emp; rw [show (3 : Int) = ((3 : Nat) : Int) from rfl, fitB_iff]
    show (_ ∧ _) ↔ _
    simp <;> (constructor <;> intro h <;> simp_all)⟩
  have RD := Aside0.mk h
  obtain ⟨vb, vh, vm, vn, vt, rfl, hb, hh, hm, hn, ht⟩ := h
  have RH := Aside0.mk hh
  have RM := Aside0.mk hm
  have RN := Aside0.mk hn
  obtain ⟨Ab, cb, rfl, _, _⟩ := hb
  obtain ⟨Ah, ch, rfl, _, _⟩ := hh
  obtain ⟨Am, cm, rfl, _, _⟩ := hm
  obtain ⟨An, cn, rfl, _, _⟩ := hn
  obtain ⟨At, ct, rfl, _, _⟩ := ht
  by_cases q_host : nSound d.host = true
  rotate_left
  · have HN : Aside0 (¬ DOk 33 d) := ⟨fun h => q_host (HD.out.1 h).1⟩
    have e_host := Aside0.mk q_host
    clear q_host
    go_enter Try.func63, Try.ntmps63
    go_wp2_with fail
    refine (rsound_calls_v false _ d.host _ (RH.out.below pS (below_alloc (Below.refl w.heap.size w) _)) (eq_false_of_ne_true e_host.out)).mono ?_
    rintro e w1 ⟨rfl, rfl⟩
    go_wp2_with fail
    go_ret
    refine ⟨?_, (below_alloc (Below.refl w.heap.size w) _)⟩
    rw [decide_eq_false HN.out]; rfl
  have e_host := Aside0.mk q_host
  clear q_host
  by_cases q_fit : fitB d.nums 3 2 = true
  rotate_left
  · have HN : Aside0 (¬ DOk 33 d) := ⟨fun h => q_fit (HD.out.1 h).2.1⟩
    have e_fit := Aside0.mk q_fit
    clear q_fit
    go_enter Try.func63, Try.ntmps63
    go_wp2_with fail
    refine (rsound_calls_v true _ d.host _ (RH.out.below pS (below_alloc (Below.refl w.heap.size w) _)) (e_host.out)).mono ?_
    rintro e w1 ⟨rfl, rfl⟩
    go_wp2_with fail
    refine (fit_calls_v false _ d.nums 3 2 _ (RN.out.below pI (below_alloc (Below.refl w.heap.size w) _)) r64_2 (eq_false_of_ne_true e_fit.out)).mono ?_
    rintro e w1 ⟨rfl, rfl⟩
    go_wp2_with fail
    go_ret
    refine ⟨?_, (below_alloc (Below.refl w.heap.size w) _)⟩
    rw [decide_eq_false HN.out]; rfl
  have e_fit := Aside0.mk q_fit
  clear q_fit
  by_cases q_e : Emp d false true false true false
  · have HY : Aside0 (DOk 33 d) := ⟨HD.out.2 ⟨e_host.out, e_fit.out, q_e⟩⟩
    have HQ : Aside0 (decide (Emp d false true false true false) = true) := ⟨decide_eq_true q_e⟩
    clear q_e
    go_enter Try.func63, Try.ntmps63
    go_wp2_with fail
    refine (rsound_calls_v true _ d.host _ (RH.out.below pS (below_alloc (Below.refl w.heap.size w) _)) (e_host.out)).mono ?_
    rintro e w1 ⟨rfl, rfl⟩
    go_wp2_with fail
    refine (fit_calls_v true _ d.nums 3 2 _ (RN.out.below pI (below_alloc (Below.refl w.heap.size w) _)) r64_2 (e_fit.out)).mono ?_
    rintro e w1 ⟨rfl, rfl⟩
    go_wp2_with fail
    refine (empty_FTFTF_v true d _ _ (K_below RD.out (below_alloc (Below.refl w.heap.size w) _)) HQ.out).mono ?_
    rintro e w2 ⟨rfl, hb2⟩
    have HB2 := Aside0.mk ((below_alloc (Below.refl w.heap.size w) _).trans (hb2.mono (by simp)))
    clear hb2
    go_wp2_with fail
    go_ret
    refine ⟨?_, HB2.out⟩
    rw [decide_eq_true HY.out]; rfl
  · have HY : Aside0 (¬ DOk 33 d) := ⟨fun h => q_e (HD.out.1 h).2.2⟩
    have HQ : Aside0 (decide (Emp d false true false true false) = false) := ⟨decide_eq_false q_e⟩
    clear q_e
    go_enter Try.func63, Try.ntmps63
    go_wp2_with fail
    refine (rsound_calls_v true _ d.host _ (RH.out.below pS (below_alloc (Below.refl w.heap.size w) _)) (e_host.out)).mono ?_
    rintro e w1 ⟨rfl, rfl⟩
    go_wp2_with fail
    refine (fit_calls_v true _ d.nums 3 2 _ (RN.out.below pI (below_alloc (Below.refl w.heap.size w) _)) r64_2 (e_fit.out)).mono ?_
    rintro e w1 ⟨rfl, rfl⟩
    go_wp2_with fail
    refine (empty_FTFTF_v false d _ _ (K_below RD.out (below_alloc (Below.refl w.heap.size w) _)) HQ.out).mono ?_
    rintro e w2 ⟨rfl, hb2⟩
    have HB2 := Aside0.mk ((below_alloc (Below.refl w.heap.size w) _).trans (hb2.mono (by simp)))
    clear hb2
    go_wp2_with fail
    go_ret
    refine ⟨?_, HB2.out⟩
    rw [decide_eq_false HY.out]; rfl
set_option maxHeartbeats 8000000 in
set_option maxRecDepth 100000 in
theorem rdata_D (kind : Int) (h1 : kind ≠ 1) (h28 : kind ≠ 28) (h2 : kind ≠ 2) (h5 : kind ≠ 5) (h12 : kind ≠ 12) (h15 : kind ≠ 15) (h6 : kind ≠ 6) (h33 : kind ≠ 33) (h16 : kind ≠ 16) (hlo : 1 ≤ kind) (hhi : kind ≤ 65535) (d : Dat) (cs : List Value) (w : World) (h : kD.K w (fun _ => True) d cs) :
    Calls Try.prog 63 #[.int .i64 kind, .agg cs.toArray] w fun e w' => e = .returned (.bool (decide (DOk kind d))) ∧ Below w.heap.size w w' := by
  have HD : Aside0 (DOk kind d ↔ (d.bytes.length ≤ 65535 ∧ Emp d true false false false false)) := ⟨by
    unfold DOk Emp; rw [if_neg h1, if_neg h28, if_neg (by omega), if_neg h15, if_neg h6, if_neg h33, if_neg h16]
    simp; intros; omega⟩
  have g1 : (kind == 1) = false := beq_eq_false_iff_ne.mpr h1
  have g28 : (kind == 28) = false := beq_eq_false_iff_ne.mpr h28
  have g2 : (kind == 2) = false := beq_eq_false_iff_ne.mpr h2
  have g5 : (kind == 5) = false := beq_eq_false_iff_ne.mpr h5
  have g12 : (kind == 12) = false := beq_eq_false_iff_ne.mpr h12
  have g15 : (kind == 15) = false := beq_eq_false_iff_ne.mpr h15
  have g6 : (kind == 6) = false := beq_eq_false_iff_ne.mpr h6
  have g33 : (kind == 33) = false := beq_eq_false_iff_ne.mpr h33
  have g16 : (kind == 16) = false := beq_eq_false_iff_ne.mpr h16
  clear h1 h28 h2 h5 h12 h15 h6 h33 h16
  have RD := Aside0.mk h
  obtain ⟨vb, vh, vm, vn, vt, rfl, hb, hh, hm, hn, ht⟩ := h
  have RH := Aside0.mk hh
  have RM := Aside0.mk hm
  have RN := Aside0.mk hn
  obtain ⟨Ab, cb, rfl, _, _⟩ := hb
  obtain ⟨Ah, ch, rfl, _, _⟩ := hh
  obtain ⟨Am, cm, rfl, _, _⟩ := hm
  obtain ⟨An, cn, rfl, _, _⟩ := hn
  obtain ⟨At, ct, rfl, _, _⟩ := ht
  by_cases q_bm : d.bytes.length ≤ 65535
  rotate_left
  · have HN : Aside0 (¬ DOk kind d) := ⟨fun h => q_bm (HD.out.1 h).1⟩
    have f_bm : ¬ d.bytes.length ≤ 65535 := q_bm
    have e_bm := Aside0.mk q_bm
    clear q_bm
    go_enter Try.func63, Try.ntmps63
    go_wp2_with fail
    go_ret
    refine ⟨?_, (below_alloc (Below.refl w.heap.size w) _)⟩
    rw [decide_eq_false HN.out]; rfl
  have f_bm : d.bytes.length ≤ 65535 := q_bm
  have e_bm := Aside0.mk q_bm
  clear q_bm
  by_cases q_e : Emp d true false false false false
  · have HY : Aside0 (DOk kind d) := ⟨HD.out.2 ⟨e_bm.out, q_e⟩⟩
    have HQ : Aside0 (decide (Emp d true false false false false) = true) := ⟨decide_eq_true q_e⟩
    clear q_e
    go_enter Try.func63, Try.ntmps63
    go_wp2_with fail
    refine (empty_TFFFF_v true d _ _ (K_below RD.out (below_alloc (Below.refl w.heap.size w) _)) HQ.out).mono ?_
    rintro e w2 ⟨rfl, hb2⟩
    have HB2 := Aside0.mk ((below_alloc (Below.refl w.heap.size w) _).trans (hb2.mono (by simp)))
    clear hb2
    go_wp2_with fail
    go_ret
    refine ⟨?_, HB2.out⟩
    rw [decide_eq_true HY.out]; rfl
  · have HY : Aside0 (¬ DOk kind d) := ⟨fun h => q_e (HD.out.1 h).2⟩
    have HQ : Aside0 (decide (Emp d true false false false false) = false) := ⟨decide_eq_false q_e⟩
    clear q_e
    go_enter Try.func63, Try.ntmps63
    go_wp2_with fail
    refine (empty_TFFFF_v false d _ _ (K_below RD.out (below_alloc (Below.refl w.heap.size w) _)) HQ.out).mono ?_
    rintro e w2 ⟨rfl, hb2⟩
    have HB2 := Aside0.mk ((below_alloc (Below.refl w.heap.size w) _).trans (hb2.mono (by simp)))
    clear hb2
    go_wp2_with fail
    go_ret
    refine ⟨?_, HB2.out⟩
    rw [decide_eq_false HY.out]; rfl
end Go.Proofs.Ytkbjbkmaokebgaa.Gz

import Derived.Test.YtkbjbkmaokebgaaShape
set_option linter.unusedVariables false
set_option linter.unusedSimpArgs false
namespace Go.Proofs.Ytkbjbkmaokebgaa.Gz
open Go.RowKit Go.Proofs.YtkbjbkmaokebgaaW.PrintWords
open Ki
/-- What is behind a block that was there: as it was. -/
theorem bcell {W w1 : World} (hb : Below W.heap.size W w1) : (∀ b o, b < W.heap.size → w1.cell? ⟨b, o, none⟩ = W.cell? ⟨b, o, none⟩) ∧ (∀ b o, b < W.heap.size → w1.frozen? ⟨b, o, none⟩ = W.frozen? ⟨b, o, none⟩) :=
  ⟨fun b o h => hb.cell (p := ⟨b, o, none⟩) h, fun b o h => hb.frozen (p := ⟨b, o, none⟩) h⟩
/-- May a type say so? -/
def DOk (kind : Int) (d : Dat) : Prop :=
  if kind = 1 then d.bytes.length = 4 ∧ d.host.length = 0 ∧ d.mail.length = 0 ∧ d.nums.length = 0 ∧ d.texts.length = 0
  else if kind = 28 then d.bytes.length = 16 ∧ d.host.length = 0 ∧ d.mail.length = 0 ∧ d.nums.length = 0 ∧ d.texts.length = 0
  else if kind = 2 ∨ kind = 5 ∨ kind = 12 then d.bytes.length = 0 ∧ nSound d.host = true ∧ d.mail.length = 0 ∧ d.nums.length = 0 ∧ d.texts.length = 0
  else if kind = 15 then d.bytes.length = 0 ∧ nSound d.host = true ∧ d.mail.length = 0 ∧ d.nums.length = 1 ∧ (d.nums.any fun n => !fits n 2) = false ∧ d.texts.length = 0
  else if kind = 6 then d.bytes.length = 0 ∧ nSound d.host = true ∧ nSound d.mail = true ∧ d.nums.length = 5 ∧ (d.nums.any fun n => !fits n 4) = false ∧ d.texts.length = 0
  else if kind = 33 then d.bytes.length = 0 ∧ nSound d.host = true ∧ d.mail.length = 0 ∧ d.nums.length = 3 ∧ (d.nums.any fun n => !fits n 2) = false ∧ d.texts.length = 0
  else if kind = 16 then d.bytes.length = 0 ∧ d.host.length = 0 ∧ d.mail.length = 0 ∧ d.nums.length = 0 ∧ 1 ≤ d.texts.length ∧ d.texts.length ≤ 64 ∧ (d.texts.any fun t => decide (255 < t.size)) = false
  else (1 ≤ kind ∧ kind ≤ 65535) ∧ d.bytes.length ≤ 65535 ∧ d.host.length = 0 ∧ d.mail.length = 0 ∧ d.nums.length = 0 ∧ d.texts.length = 0
instance (kind : Int) (d : Dat) : Decidable (DOk kind d) := by unfold DOk; infer_instance

theorem sound_d1 (n : Int) (B : Nat) (size : Int) (w : World) (hn : R64 n) (hs : R64 size) (hc : w.cell? ⟨B, 5, none⟩ = some (.int .i64 size)) :
    Calls Try.prog 119 #[.int .i64 n, .pointer (some ⟨B, 0, none⟩)] w fun e w' => e = .returned (.bool (!fits n size)) ∧ w = w' := by
  have hC := Aside0.mk (fits_calls n size w hn hs)
  go_enter Try.func119, Try.ntmps119
  go_wp2_with fail
  refine hC.out.mono ?_
  rintro e w1 ⟨rfl, rfl⟩
  go_wp2_with fail
  go_ret
  exact ⟨rfl, rfl⟩
theorem sound_d2 (t : ByteArray) (w : World) (h : Sz t) :
    Calls Try.prog 120 #[.string t] w fun e w' => e = .returned (.bool (decide (255 < t.size))) ∧ w = w' := by
  have hb := h.le
  rw [show decide (255 < t.size) = decide ((255 : Int) < (t.size : Int)) from decide_eq_decide.2 (by omega)]
  go_enter Try.func120, Try.ntmps120
  go_wp2
  go_ret
  exact ⟨rfl, rfl⟩
theorem pays_d1 (w : World) (xs : List Int) (B : Nat) (size : Int) (hs : R64 size) (hB : B < w.heap.size) (hc : w.cell? ⟨B, 5, none⟩ = some (.int .i64 size)) :
    Pays kI val1 119 #[.pointer (some ⟨B, 0, none⟩)] w xs (fun n => !fits n size) := by
  intro W x cs hx hb hK
  obtain ⟨rfl, hr⟩ := hK
  exact (sound_d1 x B size W hr hs ((hb.cell (p := ⟨B, 5, none⟩) hB).trans hc)).mono (by rintro e w' ⟨rfl, rfl⟩; exact ⟨rfl, Below.refl _ _⟩)
theorem pays_d2 (w : World) (xs : List ByteArray) : Pays kS val1 120 #[] w xs (fun t => decide (255 < t.size)) := by
  intro W x cs hx hb hK
  obtain ⟨rfl, hs⟩ := hK
  exact (sound_d2 x W hs).mono (by rintro e w' ⟨rfl, rfl⟩; exact ⟨rfl, Below.refl _ _⟩)

theorem r64_0 : R64 0 := by unfold R64; omega
theorem r64_2 : R64 2 := by unfold R64; omega
theorem r64_4 : R64 4 := by unfold R64; omega
theorem eq_false_of_ne_true' {b : Bool} (h : ¬ b = true) : b = false := by simpa using h
theorem any_nil {p : Int → Bool} {l : List Int} (h : l.length = 0) : l.any p = false := by rw [List.eq_nil_of_length_eq_zero h]; rfl
set_option maxHeartbeats 8000000 in
set_option maxRecDepth 100000 in
theorem dsound_1 (d : Dat) (cs : List Value) (w : World) (h : kD.K w (fun _ => True) d cs) :
    Calls Try.prog 91 #[.int .i64 1, .agg cs.toArray] w fun e w' => e = .returned (.bool (decide (DOk 1 d))) ∧ Below w.heap.size w w' := by
  have HD : Aside0 (DOk 1 d ↔ DOk 1 d) := ⟨Iff.rfl⟩
  have sh := Aside0.mk (fun w => shapes_1 w)
  obtain ⟨vb, vh, vm, vn, vt, rfl, hb, hh, hm, hn, ht⟩ := h
  have RH := Aside0.mk hh
  have RM := Aside0.mk hm
  have RN := Aside0.mk hn
  have RT := Aside0.mk ht
  obtain ⟨Ab, cb, rfl, _, _⟩ := hb
  obtain ⟨Ah, ch, rfl, _, _⟩ := hh
  obtain ⟨Am, cm, rfl, _, _⟩ := hm
  obtain ⟨An, cn, rfl, _, _⟩ := hn
  obtain ⟨At, ct, rfl, _, _⟩ := ht
  have eg1 : ∀ args w, (callFunc 119 args).run Try.prog w = .ok (.enter 119 args) w := enters Try.func119 (by kernel_rfl) rfl
  have eg2 : ∀ args w, (callFunc 120 args).run Try.prog w = .ok (.enter 120 args) w := enters Try.func120 (by kernel_rfl) rfl
  by_cases q_by : d.bytes.length = 4
  rotate_left
  · have HN : Aside0 (¬ DOk 1 d) := ⟨fun h => by obtain ⟨g_by, g_host, g_mail, g_nu, g_tx⟩ := HD.out.1 h; exact q_by g_by⟩
    have f_byw : ((d.bytes.length : Int) != 4) = true := bne_iff_ne.mpr (by omega)
    have e_by := Aside0.mk q_by
    clear q_by
    go_enter Try.func91, Try.ntmps91
    go_wp2_with fail
    refine (sh.out _).out.mono ?_
    rintro e w1 ⟨rfl, hb1⟩
    have HB1 := Aside0.mk ((below_alloc (Below.refl w.heap.size w) _).trans (hb1.mono (by simp)))
    obtain ⟨bc, bf⟩ := bcell hb1
    have hz : w.heap.size < w1.heap.size := by have := hb1.size; simp at this; omega
    have hz' : ¬ (w.heap.size = w1.heap.size) := by omega
    clear hb1
    go_wp2_with fail
    go_ret
    refine ⟨?_, (below_alloc HB1.out _)⟩
    rw [decide_eq_false HN.out]; rfl
  have f_byw : ((d.bytes.length : Int) != 4) = false := bne_eq_false_iff_eq.mpr (by omega)
  have f_byx : ¬ 65535 < d.bytes.length := by omega
  have e_by := Aside0.mk q_by
  clear q_by
  by_cases q_nu : d.nums.length = 0
  rotate_left
  · have HN : Aside0 (¬ DOk 1 d) := ⟨fun h => by obtain ⟨g_by, g_host, g_mail, g_nu, g_tx⟩ := HD.out.1 h; exact q_nu g_nu⟩
    have f_nuw : ((d.nums.length : Int) != 0) = true := bne_iff_ne.mpr (by omega)
    have e_nu := Aside0.mk q_nu
    clear q_nu
    go_enter Try.func91, Try.ntmps91
    go_wp2_with fail
    refine (sh.out _).out.mono ?_
    rintro e w1 ⟨rfl, hb1⟩
    have HB1 := Aside0.mk ((below_alloc (Below.refl w.heap.size w) _).trans (hb1.mono (by simp)))
    obtain ⟨bc, bf⟩ := bcell hb1
    have hz : w.heap.size < w1.heap.size := by have := hb1.size; simp at this; omega
    have hz' : ¬ (w.heap.size = w1.heap.size) := by omega
    clear hb1
    go_wp2_with fail
    go_ret
    refine ⟨?_, (below_alloc HB1.out _)⟩
    rw [decide_eq_false HN.out]; rfl
  have f_nuw : ((d.nums.length : Int) != 0) = false := bne_eq_false_iff_eq.mpr (by omega)
  have e_nu := Aside0.mk q_nu
  clear q_nu
  by_cases q_host : d.host.length = 0
  rotate_left
  · have HN : Aside0 (¬ DOk 1 d) := ⟨fun h => by obtain ⟨g_by, g_host, g_mail, g_nu, g_tx⟩ := HD.out.1 h; exact q_host g_host⟩
    have f_hostw : 0 < d.host.length := by omega
    have e_host := Aside0.mk q_host
    clear q_host
    go_enter Try.func91, Try.ntmps91
    go_wp2_with fail
    refine (sh.out _).out.mono ?_
    rintro e w1 ⟨rfl, hb1⟩
    have HB1 := Aside0.mk ((below_alloc (Below.refl w.heap.size w) _).trans (hb1.mono (by simp)))
    obtain ⟨bc, bf⟩ := bcell hb1
    have hz : w.heap.size < w1.heap.size := by have := hb1.size; simp at this; omega
    have hz' : ¬ (w.heap.size = w1.heap.size) := by omega
    clear hb1
    go_wp2_with fail
    go_ret
    refine ⟨?_, (below_alloc HB1.out _)⟩
    rw [decide_eq_false HN.out]; rfl
  have f_hostw : ¬ 0 < d.host.length := by omega
  have e_host := Aside0.mk q_host
  clear q_host
  by_cases q_mail : d.mail.length = 0
  rotate_left
  · have HN : Aside0 (¬ DOk 1 d) := ⟨fun h => by obtain ⟨g_by, g_host, g_mail, g_nu, g_tx⟩ := HD.out.1 h; exact q_mail g_mail⟩
    have f_mailw : 0 < d.mail.length := by omega
    have e_mail := Aside0.mk q_mail
    clear q_mail
    go_enter Try.func91, Try.ntmps91
    go_wp2_with fail
    refine (sh.out _).out.mono ?_
    rintro e w1 ⟨rfl, hb1⟩
    have HB1 := Aside0.mk ((below_alloc (Below.refl w.heap.size w) _).trans (hb1.mono (by simp)))
    obtain ⟨bc, bf⟩ := bcell hb1
    have hz : w.heap.size < w1.heap.size := by have := hb1.size; simp at this; omega
    have hz' : ¬ (w.heap.size = w1.heap.size) := by omega
    clear hb1
    go_wp2_with fail
    go_ret
    refine ⟨?_, (below_alloc HB1.out _)⟩
    rw [decide_eq_false HN.out]; rfl
  have f_mailw : ¬ 0 < d.mail.length := by omega
  have e_mail := Aside0.mk q_mail
  clear q_mail
  have e_any : Aside0 ((d.nums.any fun n => !fits n 0) = false) := ⟨any_nil e_nu.out⟩
  by_cases q_tx : d.texts.length = 0
  rotate_left
  · have HN : Aside0 (¬ DOk 1 d) := ⟨fun h => by obtain ⟨g_by, g_host, g_mail, g_nu, g_tx⟩ := HD.out.1 h; exact q_tx g_tx⟩
    have f_txw : ((d.texts.length : Int) == 0) = false := beq_eq_false_iff_ne.mpr (by omega)
    have e_tx := Aside0.mk q_tx
    clear q_tx
    go_enter Try.func91, Try.ntmps91
    go_wp2_with fail
    refine (sh.out _).out.mono ?_
    rintro e w1 ⟨rfl, hb1⟩
    have HB1 := Aside0.mk ((below_alloc (Below.refl w.heap.size w) _).trans (hb1.mono (by simp)))
    obtain ⟨bc, bf⟩ := bcell hb1
    have hz : w.heap.size < w1.heap.size := by have := hb1.size; simp at this; omega
    have hz' : ¬ (w.heap.size = w1.heap.size) := by omega
    clear hb1
    go_wp2_with fail
    refine (contains_i_v false _ d.nums _ ?_ 119 #[.pointer (some ⟨w1.heap.size, 0, none⟩)] (fun n => !fits n 0) eg1 ?_ (e_any.out)).mono ?_
    · exact RN.out.below pI (below_alloc HB1.out _)
    · exact pays_d1 _ d.nums w1.heap.size 0 r64_0 (by simp [*]) (by simp [*])
    rintro e w2 ⟨rfl, hb2⟩
    have HB2 := Aside0.mk ((below_alloc HB1.out _).trans (hb2.mono (by have := HB1.out.size; simp; omega)))
    have hbx := Aside0.mk hb2
    obtain ⟨bd, bg⟩ := bcell hb2
    have hz2 : w1.heap.size < w2.heap.size := by have := hb2.size; simp at this; omega
    have hz3 : w.heap.size < w2.heap.size := by omega
    clear hb2
    go_wp2_with fail
    go_ret
    refine ⟨?_, HB2.out⟩
    rw [decide_eq_false HN.out]; rfl
  have f_txw : ((d.texts.length : Int) == 0) = true := beq_iff_eq.mpr (by omega)
  have e_tx := Aside0.mk q_tx
  clear q_tx
  have HY : Aside0 (DOk 1 d) := ⟨HD.out.2 ⟨e_by.out, e_host.out, e_mail.out, e_nu.out, e_tx.out⟩⟩
  go_enter Try.func91, Try.ntmps91
  go_wp2_with fail
  refine (sh.out _).out.mono ?_
  rintro e w1 ⟨rfl, hb1⟩
  have HB1 := Aside0.mk ((below_alloc (Below.refl w.heap.size w) _).trans (hb1.mono (by simp)))
  obtain ⟨bc, bf⟩ := bcell hb1
  have hz : w.heap.size < w1.heap.size := by have := hb1.size; simp at this; omega
  have hz' : ¬ (w.heap.size = w1.heap.size) := by omega
  clear hb1
  go_wp2_with fail
  refine (contains_i_v false _ d.nums _ ?_ 119 #[.pointer (some ⟨w1.heap.size, 0, none⟩)] (fun n => !fits n 0) eg1 ?_ (e_any.out)).mono ?_
  · exact RN.out.below pI (below_alloc HB1.out _)
  · exact pays_d1 _ d.nums w1.heap.size 0 r64_0 (by simp [*]) (by simp [*])
  rintro e w2 ⟨rfl, hb2⟩
  have HB2 := Aside0.mk ((below_alloc HB1.out _).trans (hb2.mono (by have := HB1.out.size; simp; omega)))
  have hbx := Aside0.mk hb2
  obtain ⟨bd, bg⟩ := bcell hb2
  have hz2 : w1.heap.size < w2.heap.size := by have := hb2.size; simp at this; omega
  have hz3 : w.heap.size < w2.heap.size := by omega
  clear hb2
  go_wp2_with fail
  go_ret
  refine ⟨?_, HB2.out⟩
  rw [decide_eq_true HY.out]; rfl
set_option maxHeartbeats 8000000 in
set_option maxRecDepth 100000 in
theorem dsound_28 (d : Dat) (cs : List Value) (w : World) (h : kD.K w (fun _ => True) d cs) :
    Calls Try.prog 91 #[.int .i64 28, .agg cs.toArray] w fun e w' => e = .returned (.bool (decide (DOk 28 d))) ∧ Below w.heap.size w w' := by
  have HD : Aside0 (DOk 28 d ↔ DOk 28 d) := ⟨Iff.rfl⟩
  have sh := Aside0.mk (fun w => shapes_28 w)
  obtain ⟨vb, vh, vm, vn, vt, rfl, hb, hh, hm, hn, ht⟩ := h
  have RH := Aside0.mk hh
  have RM := Aside0.mk hm
  have RN := Aside0.mk hn
  have RT := Aside0.mk ht
  obtain ⟨Ab, cb, rfl, _, _⟩ := hb
  obtain ⟨Ah, ch, rfl, _, _⟩ := hh
  obtain ⟨Am, cm, rfl, _, _⟩ := hm
  obtain ⟨An, cn, rfl, _, _⟩ := hn
  obtain ⟨At, ct, rfl, _, _⟩ := ht
  have eg1 : ∀ args w, (callFunc 119 args).run Try.prog w = .ok (.enter 119 args) w := enters Try.func119 (by kernel_rfl) rfl
  have eg2 : ∀ args w, (callFunc 120 args).run Try.prog w = .ok (.enter 120 args) w := enters Try.func120 (by kernel_rfl) rfl
  by_cases q_by : d.bytes.length = 16
  rotate_left
  · have HN : Aside0 (¬ DOk 28 d) := ⟨fun h => by obtain ⟨g_by, g_host, g_mail, g_nu, g_tx⟩ := HD.out.1 h; exact q_by g_by⟩
    have f_byw : ((d.bytes.length : Int) != 16) = true := bne_iff_ne.mpr (by omega)
    have e_by := Aside0.mk q_by
    clear q_by
    go_enter Try.func91, Try.ntmps91
    go_wp2_with fail
    refine (sh.out _).out.mono ?_
    rintro e w1 ⟨rfl, hb1⟩
    have HB1 := Aside0.mk ((below_alloc (Below.refl w.heap.size w) _).trans (hb1.mono (by simp)))
    obtain ⟨bc, bf⟩ := bcell hb1
    have hz : w.heap.size < w1.heap.size := by have := hb1.size; simp at this; omega
    have hz' : ¬ (w.heap.size = w1.heap.size) := by omega
    clear hb1
    go_wp2_with fail
    go_ret
    refine ⟨?_, (below_alloc HB1.out _)⟩
    rw [decide_eq_false HN.out]; rfl
  have f_byw : ((d.bytes.length : Int) != 16) = false := bne_eq_false_iff_eq.mpr (by omega)
  have f_byx : ¬ 65535 < d.bytes.length := by omega
  have e_by := Aside0.mk q_by
  clear q_by
  by_cases q_nu : d.nums.length = 0
  rotate_left
  · have HN : Aside0 (¬ DOk 28 d) := ⟨fun h => by obtain ⟨g_by, g_host, g_mail, g_nu, g_tx⟩ := HD.out.1 h; exact q_nu g_nu⟩
    have f_nuw : ((d.nums.length : Int) != 0) = true := bne_iff_ne.mpr (by omega)
    have e_nu := Aside0.mk q_nu
    clear q_nu
    go_enter Try.func91, Try.ntmps91
    go_wp2_with fail
    refine (sh.out _).out.mono ?_
    rintro e w1 ⟨rfl, hb1⟩
    have HB1 := Aside0.mk ((below_alloc (Below.refl w.heap.size w) _).trans (hb1.mono (by simp)))
    obtain ⟨bc, bf⟩ := bcell hb1
    have hz : w.heap.size < w1.heap.size := by have := hb1.size; simp at this; omega
    have hz' : ¬ (w.heap.size = w1.heap.size) := by omega
    clear hb1
    go_wp2_with fail
    go_ret
    refine ⟨?_, (below_alloc HB1.out _)⟩
    rw [decide_eq_false HN.out]; rfl
  have f_nuw : ((d.nums.length : Int) != 0) = false := bne_eq_false_iff_eq.mpr (by omega)
  have e_nu := Aside0.mk q_nu
  clear q_nu
  by_cases q_host : d.host.length = 0
  rotate_left
  · have HN : Aside0 (¬ DOk 28 d) := ⟨fun h => by obtain ⟨g_by, g_host, g_mail, g_nu, g_tx⟩ := HD.out.1 h; exact q_host g_host⟩
    have f_hostw : 0 < d.host.length := by omega
    have e_host := Aside0.mk q_host
    clear q_host
    go_enter Try.func91, Try.ntmps91
    go_wp2_with fail
    refine (sh.out _).out.mono ?_
    rintro e w1 ⟨rfl, hb1⟩
    have HB1 := Aside0.mk ((below_alloc (Below.refl w.heap.size w) _).trans (hb1.mono (by simp)))
    obtain ⟨bc, bf⟩ := bcell hb1
    have hz : w.heap.size < w1.heap.size := by have := hb1.size; simp at this; omega
    have hz' : ¬ (w.heap.size = w1.heap.size) := by omega
    clear hb1
    go_wp2_with fail
    go_ret
    refine ⟨?_, (below_alloc HB1.out _)⟩
    rw [decide_eq_false HN.out]; rfl
  have f_hostw : ¬ 0 < d.host.length := by omega
  have e_host := Aside0.mk q_host
  clear q_host
  by_cases q_mail : d.mail.length = 0
  rotate_left
  · have HN : Aside0 (¬ DOk 28 d) := ⟨fun h => by obtain ⟨g_by, g_host, g_mail, g_nu, g_tx⟩ := HD.out.1 h; exact q_mail g_mail⟩
    have f_mailw : 0 < d.mail.length := by omega
    have e_mail := Aside0.mk q_mail
    clear q_mail
    go_enter Try.func91, Try.ntmps91
    go_wp2_with fail
    refine (sh.out _).out.mono ?_
    rintro e w1 ⟨rfl, hb1⟩
    have HB1 := Aside0.mk ((below_alloc (Below.refl w.heap.size w) _).trans (hb1.mono (by simp)))
    obtain ⟨bc, bf⟩ := bcell hb1
    have hz : w.heap.size < w1.heap.size := by have := hb1.size; simp at this; omega
    have hz' : ¬ (w.heap.size = w1.heap.size) := by omega
    clear hb1
    go_wp2_with fail
    go_ret
    refine ⟨?_, (below_alloc HB1.out _)⟩
    rw [decide_eq_false HN.out]; rfl
  have f_mailw : ¬ 0 < d.mail.length := by omega
  have e_mail := Aside0.mk q_mail
  clear q_mail
  have e_any : Aside0 ((d.nums.any fun n => !fits n 0) = false) := ⟨any_nil e_nu.out⟩
  by_cases q_tx : d.texts.length = 0
  rotate_left
  · have HN : Aside0 (¬ DOk 28 d) := ⟨fun h => by obtain ⟨g_by, g_host, g_mail, g_nu, g_tx⟩ := HD.out.1 h; exact q_tx g_tx⟩
    have f_txw : ((d.texts.length : Int) == 0) = false := beq_eq_false_iff_ne.mpr (by omega)
    have e_tx := Aside0.mk q_tx
    clear q_tx
    go_enter Try.func91, Try.ntmps91
    go_wp2_with fail
    refine (sh.out _).out.mono ?_
    rintro e w1 ⟨rfl, hb1⟩
    have HB1 := Aside0.mk ((below_alloc (Below.refl w.heap.size w) _).trans (hb1.mono (by simp)))
    obtain ⟨bc, bf⟩ := bcell hb1
    have hz : w.heap.size < w1.heap.size := by have := hb1.size; simp at this; omega
    have hz' : ¬ (w.heap.size = w1.heap.size) := by omega
    clear hb1
    go_wp2_with fail
    refine (contains_i_v false _ d.nums _ ?_ 119 #[.pointer (some ⟨w1.heap.size, 0, none⟩)] (fun n => !fits n 0) eg1 ?_ (e_any.out)).mono ?_
    · exact RN.out.below pI (below_alloc HB1.out _)
    · exact pays_d1 _ d.nums w1.heap.size 0 r64_0 (by simp [*]) (by simp [*])
    rintro e w2 ⟨rfl, hb2⟩
    have HB2 := Aside0.mk ((below_alloc HB1.out _).trans (hb2.mono (by have := HB1.out.size; simp; omega)))
    have hbx := Aside0.mk hb2
    obtain ⟨bd, bg⟩ := bcell hb2
    have hz2 : w1.heap.size < w2.heap.size := by have := hb2.size; simp at this; omega
    have hz3 : w.heap.size < w2.heap.size := by omega
    clear hb2
    go_wp2_with fail
    go_ret
    refine ⟨?_, HB2.out⟩
    rw [decide_eq_false HN.out]; rfl
  have f_txw : ((d.texts.length : Int) == 0) = true := beq_iff_eq.mpr (by omega)
  have e_tx := Aside0.mk q_tx
  clear q_tx
  have HY : Aside0 (DOk 28 d) := ⟨HD.out.2 ⟨e_by.out, e_host.out, e_mail.out, e_nu.out, e_tx.out⟩⟩
  go_enter Try.func91, Try.ntmps91
  go_wp2_with fail
  refine (sh.out _).out.mono ?_
  rintro e w1 ⟨rfl, hb1⟩
  have HB1 := Aside0.mk ((below_alloc (Below.refl w.heap.size w) _).trans (hb1.mono (by simp)))
  obtain ⟨bc, bf⟩ := bcell hb1
  have hz : w.heap.size < w1.heap.size := by have := hb1.size; simp at this; omega
  have hz' : ¬ (w.heap.size = w1.heap.size) := by omega
  clear hb1
  go_wp2_with fail
  refine (contains_i_v false _ d.nums _ ?_ 119 #[.pointer (some ⟨w1.heap.size, 0, none⟩)] (fun n => !fits n 0) eg1 ?_ (e_any.out)).mono ?_
  · exact RN.out.below pI (below_alloc HB1.out _)
  · exact pays_d1 _ d.nums w1.heap.size 0 r64_0 (by simp [*]) (by simp [*])
  rintro e w2 ⟨rfl, hb2⟩
  have HB2 := Aside0.mk ((below_alloc HB1.out _).trans (hb2.mono (by have := HB1.out.size; simp; omega)))
  have hbx := Aside0.mk hb2
  obtain ⟨bd, bg⟩ := bcell hb2
  have hz2 : w1.heap.size < w2.heap.size := by have := hb2.size; simp at this; omega
  have hz3 : w.heap.size < w2.heap.size := by omega
  clear hb2
  go_wp2_with fail
  go_ret
  refine ⟨?_, HB2.out⟩
  rw [decide_eq_true HY.out]; rfl
set_option maxHeartbeats 8000000 in
set_option maxRecDepth 100000 in
theorem dsound_2 (d : Dat) (cs : List Value) (w : World) (h : kD.K w (fun _ => True) d cs) :
    Calls Try.prog 91 #[.int .i64 2, .agg cs.toArray] w fun e w' => e = .returned (.bool (decide (DOk 2 d))) ∧ Below w.heap.size w w' := by
  have HD : Aside0 (DOk 2 d ↔ DOk 2 d) := ⟨Iff.rfl⟩
  have sh := Aside0.mk (fun w => shapes_2 w)
  obtain ⟨vb, vh, vm, vn, vt, rfl, hb, hh, hm, hn, ht⟩ := h
  have RH := Aside0.mk hh
  have RM := Aside0.mk hm
  have RN := Aside0.mk hn
  have RT := Aside0.mk ht
  obtain ⟨Ab, cb, rfl, _, _⟩ := hb
  obtain ⟨Ah, ch, rfl, _, _⟩ := hh
  obtain ⟨Am, cm, rfl, _, _⟩ := hm
  obtain ⟨An, cn, rfl, _, _⟩ := hn
  obtain ⟨At, ct, rfl, _, _⟩ := ht
  have eg1 : ∀ args w, (callFunc 119 args).run Try.prog w = .ok (.enter 119 args) w := enters Try.func119 (by kernel_rfl) rfl
  have eg2 : ∀ args w, (callFunc 120 args).run Try.prog w = .ok (.enter 120 args) w := enters Try.func120 (by kernel_rfl) rfl
  by_cases q_by : d.bytes.length = 0
  rotate_left
  · have HN : Aside0 (¬ DOk 2 d) := ⟨fun h => by obtain ⟨g_by, g_host, g_mail, g_nu, g_tx⟩ := HD.out.1 h; exact q_by g_by⟩
    have f_byw : ((d.bytes.length : Int) != 0) = true := bne_iff_ne.mpr (by omega)
    have e_by := Aside0.mk q_by
    clear q_by
    go_enter Try.func91, Try.ntmps91
    go_wp2_with fail
    refine (sh.out _).out.mono ?_
    rintro e w1 ⟨rfl, hb1⟩
    have HB1 := Aside0.mk ((below_alloc (Below.refl w.heap.size w) _).trans (hb1.mono (by simp)))
    obtain ⟨bc, bf⟩ := bcell hb1
    have hz : w.heap.size < w1.heap.size := by have := hb1.size; simp at this; omega
    have hz' : ¬ (w.heap.size = w1.heap.size) := by omega
    clear hb1
    go_wp2_with fail
    go_ret
    refine ⟨?_, (below_alloc HB1.out _)⟩
    rw [decide_eq_false HN.out]; rfl
  have f_byw : ((d.bytes.length : Int) != 0) = false := bne_eq_false_iff_eq.mpr (by omega)
  have f_byx : ¬ 65535 < d.bytes.length := by omega
  have e_by := Aside0.mk q_by
  clear q_by
  by_cases q_nu : d.nums.length = 0
  rotate_left
  · have HN : Aside0 (¬ DOk 2 d) := ⟨fun h => by obtain ⟨g_by, g_host, g_mail, g_nu, g_tx⟩ := HD.out.1 h; exact q_nu g_nu⟩
    have f_nuw : ((d.nums.length : Int) != 0) = true := bne_iff_ne.mpr (by omega)
    have e_nu := Aside0.mk q_nu
    clear q_nu
    go_enter Try.func91, Try.ntmps91
    go_wp2_with fail
    refine (sh.out _).out.mono ?_
    rintro e w1 ⟨rfl, hb1⟩
    have HB1 := Aside0.mk ((below_alloc (Below.refl w.heap.size w) _).trans (hb1.mono (by simp)))
    obtain ⟨bc, bf⟩ := bcell hb1
    have hz : w.heap.size < w1.heap.size := by have := hb1.size; simp at this; omega
    have hz' : ¬ (w.heap.size = w1.heap.size) := by omega
    clear hb1
    go_wp2_with fail
    go_ret
    refine ⟨?_, (below_alloc HB1.out _)⟩
    rw [decide_eq_false HN.out]; rfl
  have f_nuw : ((d.nums.length : Int) != 0) = false := bne_eq_false_iff_eq.mpr (by omega)
  have e_nu := Aside0.mk q_nu
  clear q_nu
  by_cases q_host : nSound d.host = true
  rotate_left
  · have HN : Aside0 (¬ DOk 2 d) := ⟨fun h => by obtain ⟨g_by, g_host, g_mail, g_nu, g_tx⟩ := HD.out.1 h; exact q_host g_host⟩
    have e_host := Aside0.mk q_host
    clear q_host
    go_enter Try.func91, Try.ntmps91
    go_wp2_with fail
    refine (sh.out _).out.mono ?_
    rintro e w1 ⟨rfl, hb1⟩
    have HB1 := Aside0.mk ((below_alloc (Below.refl w.heap.size w) _).trans (hb1.mono (by simp)))
    obtain ⟨bc, bf⟩ := bcell hb1
    have hz : w.heap.size < w1.heap.size := by have := hb1.size; simp at this; omega
    have hz' : ¬ (w.heap.size = w1.heap.size) := by omega
    clear hb1
    go_wp2_with fail
    refine (sound_calls_v false _ d.host _ ?_ (eq_false_of_ne_true e_host.out)).mono ?_
    · exact RH.out.below pS (below_alloc HB1.out _)
    rintro e w2 ⟨rfl, hb2⟩
    have HB2 := Aside0.mk ((below_alloc HB1.out _).trans (hb2.mono (by have := HB1.out.size; simp; omega)))
    have hbx := Aside0.mk hb2
    obtain ⟨bd, bg⟩ := bcell hb2
    have hz2 : w1.heap.size < w2.heap.size := by have := hb2.size; simp at this; omega
    have hz3 : w.heap.size < w2.heap.size := by omega
    clear hb2
    go_wp2_with fail
    go_ret
    refine ⟨?_, HB2.out⟩
    rw [decide_eq_false HN.out]; rfl
  have e_host := Aside0.mk q_host
  clear q_host
  by_cases q_mail : d.mail.length = 0
  rotate_left
  · have HN : Aside0 (¬ DOk 2 d) := ⟨fun h => by obtain ⟨g_by, g_host, g_mail, g_nu, g_tx⟩ := HD.out.1 h; exact q_mail g_mail⟩
    have f_mailw : 0 < d.mail.length := by omega
    have e_mail := Aside0.mk q_mail
    clear q_mail
    go_enter Try.func91, Try.ntmps91
    go_wp2_with fail
    refine (sh.out _).out.mono ?_
    rintro e w1 ⟨rfl, hb1⟩
    have HB1 := Aside0.mk ((below_alloc (Below.refl w.heap.size w) _).trans (hb1.mono (by simp)))
    obtain ⟨bc, bf⟩ := bcell hb1
    have hz : w.heap.size < w1.heap.size := by have := hb1.size; simp at this; omega
    have hz' : ¬ (w.heap.size = w1.heap.size) := by omega
    clear hb1
    go_wp2_with fail
    refine (sound_calls_v true _ d.host _ ?_ (e_host.out)).mono ?_
    · exact RH.out.below pS (below_alloc HB1.out _)
    rintro e w2 ⟨rfl, hb2⟩
    have HB2 := Aside0.mk ((below_alloc HB1.out _).trans (hb2.mono (by have := HB1.out.size; simp; omega)))
    have hbx := Aside0.mk hb2
    obtain ⟨bd, bg⟩ := bcell hb2
    have hz2 : w1.heap.size < w2.heap.size := by have := hb2.size; simp at this; omega
    have hz3 : w.heap.size < w2.heap.size := by omega
    clear hb2
    go_wp2_with fail
    go_ret
    refine ⟨?_, HB2.out⟩
    rw [decide_eq_false HN.out]; rfl
  have f_mailw : ¬ 0 < d.mail.length := by omega
  have e_mail := Aside0.mk q_mail
  clear q_mail
  have e_any : Aside0 ((d.nums.any fun n => !fits n 0) = false) := ⟨any_nil e_nu.out⟩
  by_cases q_tx : d.texts.length = 0
  rotate_left
  · have HN : Aside0 (¬ DOk 2 d) := ⟨fun h => by obtain ⟨g_by, g_host, g_mail, g_nu, g_tx⟩ := HD.out.1 h; exact q_tx g_tx⟩
    have f_txw : ((d.texts.length : Int) == 0) = false := beq_eq_false_iff_ne.mpr (by omega)
    have e_tx := Aside0.mk q_tx
    clear q_tx
    go_enter Try.func91, Try.ntmps91
    go_wp2_with fail
    refine (sh.out _).out.mono ?_
    rintro e w1 ⟨rfl, hb1⟩
    have HB1 := Aside0.mk ((below_alloc (Below.refl w.heap.size w) _).trans (hb1.mono (by simp)))
    obtain ⟨bc, bf⟩ := bcell hb1
    have hz : w.heap.size < w1.heap.size := by have := hb1.size; simp at this; omega
    have hz' : ¬ (w.heap.size = w1.heap.size) := by omega
    clear hb1
    go_wp2_with fail
    refine (sound_calls_v true _ d.host _ ?_ (e_host.out)).mono ?_
    · exact RH.out.below pS (below_alloc HB1.out _)
    rintro e w2 ⟨rfl, hb2⟩
    have HB2 := Aside0.mk ((below_alloc HB1.out _).trans (hb2.mono (by have := HB1.out.size; simp; omega)))
    have hbx := Aside0.mk hb2
    obtain ⟨bd, bg⟩ := bcell hb2
    have hz2 : w1.heap.size < w2.heap.size := by have := hb2.size; simp at this; omega
    have hz3 : w.heap.size < w2.heap.size := by omega
    clear hb2
    go_wp2_with fail
    refine (contains_i_v false _ d.nums _ ?_ 119 #[.pointer (some ⟨w1.heap.size, 0, none⟩)] (fun n => !fits n 0) eg1 ?_ (e_any.out)).mono ?_
    · exact RN.out.below pI HB2.out
    · exact pays_d1 _ d.nums w1.heap.size 0 r64_0 (by simp [*]) (by simp [*])
    rintro e w3 ⟨rfl, hb3⟩
    have HB3 := Aside0.mk (HB2.out.trans (hb3.mono (HB2.out.size)))
    obtain ⟨bd3, bg3⟩ := bcell hb3
    have hz32 : w1.heap.size < w3.heap.size := by have := hb3.size; omega
    have hz33 : w.heap.size < w3.heap.size := by omega
    clear hb3
    go_wp2_with fail
    go_ret
    refine ⟨?_, HB3.out⟩
    rw [decide_eq_false HN.out]; rfl
  have f_txw : ((d.texts.length : Int) == 0) = true := beq_iff_eq.mpr (by omega)
  have e_tx := Aside0.mk q_tx
  clear q_tx
  have HY : Aside0 (DOk 2 d) := ⟨HD.out.2 ⟨e_by.out, e_host.out, e_mail.out, e_nu.out, e_tx.out⟩⟩
  go_enter Try.func91, Try.ntmps91
  go_wp2_with fail
  refine (sh.out _).out.mono ?_
  rintro e w1 ⟨rfl, hb1⟩
  have HB1 := Aside0.mk ((below_alloc (Below.refl w.heap.size w) _).trans (hb1.mono (by simp)))
  obtain ⟨bc, bf⟩ := bcell hb1
  have hz : w.heap.size < w1.heap.size := by have := hb1.size; simp at this; omega
  have hz' : ¬ (w.heap.size = w1.heap.size) := by omega
  clear hb1
  go_wp2_with fail
  refine (sound_calls_v true _ d.host _ ?_ (e_host.out)).mono ?_
  · exact RH.out.below pS (below_alloc HB1.out _)
  rintro e w2 ⟨rfl, hb2⟩
  have HB2 := Aside0.mk ((below_alloc HB1.out _).trans (hb2.mono (by have := HB1.out.size; simp; omega)))
  have hbx := Aside0.mk hb2
  obtain ⟨bd, bg⟩ := bcell hb2
  have hz2 : w1.heap.size < w2.heap.size := by have := hb2.size; simp at this; omega
  have hz3 : w.heap.size < w2.heap.size := by omega
  clear hb2
  go_wp2_with fail
  refine (contains_i_v false _ d.nums _ ?_ 119 #[.pointer (some ⟨w1.heap.size, 0, none⟩)] (fun n => !fits n 0) eg1 ?_ (e_any.out)).mono ?_
  · exact RN.out.below pI HB2.out
  · exact pays_d1 _ d.nums w1.heap.size 0 r64_0 (by simp [*]) (by simp [*])
  rintro e w3 ⟨rfl, hb3⟩
  have HB3 := Aside0.mk (HB2.out.trans (hb3.mono (HB2.out.size)))
  obtain ⟨bd3, bg3⟩ := bcell hb3
  have hz32 : w1.heap.size < w3.heap.size := by have := hb3.size; omega
  have hz33 : w.heap.size < w3.heap.size := by omega
  clear hb3
  go_wp2_with fail
  go_ret
  refine ⟨?_, HB3.out⟩
  rw [decide_eq_true HY.out]; rfl
set_option maxHeartbeats 8000000 in
set_option maxRecDepth 100000 in
theorem dsound_5 (d : Dat) (cs : List Value) (w : World) (h : kD.K w (fun _ => True) d cs) :
    Calls Try.prog 91 #[.int .i64 5, .agg cs.toArray] w fun e w' => e = .returned (.bool (decide (DOk 5 d))) ∧ Below w.heap.size w w' := by
  have HD : Aside0 (DOk 5 d ↔ DOk 5 d) := ⟨Iff.rfl⟩
  have sh := Aside0.mk (fun w => shapes_5 w)
  obtain ⟨vb, vh, vm, vn, vt, rfl, hb, hh, hm, hn, ht⟩ := h
  have RH := Aside0.mk hh
  have RM := Aside0.mk hm
  have RN := Aside0.mk hn
  have RT := Aside0.mk ht
  obtain ⟨Ab, cb, rfl, _, _⟩ := hb
  obtain ⟨Ah, ch, rfl, _, _⟩ := hh
  obtain ⟨Am, cm, rfl, _, _⟩ := hm
  obtain ⟨An, cn, rfl, _, _⟩ := hn
  obtain ⟨At, ct, rfl, _, _⟩ := ht
  have eg1 : ∀ args w, (callFunc 119 args).run Try.prog w = .ok (.enter 119 args) w := enters Try.func119 (by kernel_rfl) rfl
  have eg2 : ∀ args w, (callFunc 120 args).run Try.prog w = .ok (.enter 120 args) w := enters Try.func120 (by kernel_rfl) rfl
  by_cases q_by : d.bytes.length = 0
  rotate_left
  · have HN : Aside0 (¬ DOk 5 d) := ⟨fun h => by obtain ⟨g_by, g_host, g_mail, g_nu, g_tx⟩ := HD.out.1 h; exact q_by g_by⟩
    have f_byw : ((d.bytes.length : Int) != 0) = true := bne_iff_ne.mpr (by omega)
    have e_by := Aside0.mk q_by
    clear q_by
    go_enter Try.func91, Try.ntmps91
    go_wp2_with fail
    refine (sh.out _).out.mono ?_
    rintro e w1 ⟨rfl, hb1⟩
    have HB1 := Aside0.mk ((below_alloc (Below.refl w.heap.size w) _).trans (hb1.mono (by simp)))
    obtain ⟨bc, bf⟩ := bcell hb1
    have hz : w.heap.size < w1.heap.size := by have := hb1.size; simp at this; omega
    have hz' : ¬ (w.heap.size = w1.heap.size) := by omega
    clear hb1
    go_wp2_with fail
    go_ret
    refine ⟨?_, (below_alloc HB1.out _)⟩
    rw [decide_eq_false HN.out]; rfl
  have f_byw : ((d.bytes.length : Int) != 0) = false := bne_eq_false_iff_eq.mpr (by omega)
  have f_byx : ¬ 65535 < d.bytes.length := by omega
  have e_by := Aside0.mk q_by
  clear q_by
  by_cases q_nu : d.nums.length = 0
  rotate_left
  · have HN : Aside0 (¬ DOk 5 d) := ⟨fun h => by obtain ⟨g_by, g_host, g_mail, g_nu, g_tx⟩ := HD.out.1 h; exact q_nu g_nu⟩
    have f_nuw : ((d.nums.length : Int) != 0) = true := bne_iff_ne.mpr (by omega)
    have e_nu := Aside0.mk q_nu
    clear q_nu
    go_enter Try.func91, Try.ntmps91
    go_wp2_with fail
    refine (sh.out _).out.mono ?_
    rintro e w1 ⟨rfl, hb1⟩
    have HB1 := Aside0.mk ((below_alloc (Below.refl w.heap.size w) _).trans (hb1.mono (by simp)))
    obtain ⟨bc, bf⟩ := bcell hb1
    have hz : w.heap.size < w1.heap.size := by have := hb1.size; simp at this; omega
    have hz' : ¬ (w.heap.size = w1.heap.size) := by omega
    clear hb1
    go_wp2_with fail
    go_ret
    refine ⟨?_, (below_alloc HB1.out _)⟩
    rw [decide_eq_false HN.out]; rfl
  have f_nuw : ((d.nums.length : Int) != 0) = false := bne_eq_false_iff_eq.mpr (by omega)
  have e_nu := Aside0.mk q_nu
  clear q_nu
  by_cases q_host : nSound d.host = true
  rotate_left
  · have HN : Aside0 (¬ DOk 5 d) := ⟨fun h => by obtain ⟨g_by, g_host, g_mail, g_nu, g_tx⟩ := HD.out.1 h; exact q_host g_host⟩
    have e_host := Aside0.mk q_host
    clear q_host
    go_enter Try.func91, Try.ntmps91
    go_wp2_with fail
    refine (sh.out _).out.mono ?_
    rintro e w1 ⟨rfl, hb1⟩
    have HB1 := Aside0.mk ((below_alloc (Below.refl w.heap.size w) _).trans (hb1.mono (by simp)))
    obtain ⟨bc, bf⟩ := bcell hb1
    have hz : w.heap.size < w1.heap.size := by have := hb1.size; simp at this; omega
    have hz' : ¬ (w.heap.size = w1.heap.size) := by omega
    clear hb1
    go_wp2_with fail
    refine (sound_calls_v false _ d.host _ ?_ (eq_false_of_ne_true e_host.out)).mono ?_
    · exact RH.out.below pS (below_alloc HB1.out _)
    rintro e w2 ⟨rfl, hb2⟩
    have HB2 := Aside0.mk ((below_alloc HB1.out _).trans (hb2.mono (by have := HB1.out.size; simp; omega)))
    have hbx := Aside0.mk hb2
    obtain ⟨bd, bg⟩ := bcell hb2
    have hz2 : w1.heap.size < w2.heap.size := by have := hb2.size; simp at this; omega
    have hz3 : w.heap.size < w2.heap.size := by omega
    clear hb2
    go_wp2_with fail
    go_ret
    refine ⟨?_, HB2.out⟩
    rw [decide_eq_false HN.out]; rfl
  have e_host := Aside0.mk q_host
  clear q_host
  by_cases q_mail : d.mail.length = 0
  rotate_left
  · have HN : Aside0 (¬ DOk 5 d) := ⟨fun h => by obtain ⟨g_by, g_host, g_mail, g_nu, g_tx⟩ := HD.out.1 h; exact q_mail g_mail⟩
    have f_mailw : 0 < d.mail.length := by omega
    have e_mail := Aside0.mk q_mail
    clear q_mail
    go_enter Try.func91, Try.ntmps91
    go_wp2_with fail
    refine (sh.out _).out.mono ?_
    rintro e w1 ⟨rfl, hb1⟩
    have HB1 := Aside0.mk ((below_alloc (Below.refl w.heap.size w) _).trans (hb1.mono (by simp)))
    obtain ⟨bc, bf⟩ := bcell hb1
    have hz : w.heap.size < w1.heap.size := by have := hb1.size; simp at this; omega
    have hz' : ¬ (w.heap.size = w1.heap.size) := by omega
    clear hb1
    go_wp2_with fail
    refine (sound_calls_v true _ d.host _ ?_ (e_host.out)).mono ?_
    · exact RH.out.below pS (below_alloc HB1.out _)
    rintro e w2 ⟨rfl, hb2⟩
    have HB2 := Aside0.mk ((below_alloc HB1.out _).trans (hb2.mono (by have := HB1.out.size; simp; omega)))
    have hbx := Aside0.mk hb2
    obtain ⟨bd, bg⟩ := bcell hb2
    have hz2 : w1.heap.size < w2.heap.size := by have := hb2.size; simp at this; omega
    have hz3 : w.heap.size < w2.heap.size := by omega
    clear hb2
    go_wp2_with fail
    go_ret
    refine ⟨?_, HB2.out⟩
    rw [decide_eq_false HN.out]; rfl
  have f_mailw : ¬ 0 < d.mail.length := by omega
  have e_mail := Aside0.mk q_mail
  clear q_mail
  have e_any : Aside0 ((d.nums.any fun n => !fits n 0) = false) := ⟨any_nil e_nu.out⟩
  by_cases q_tx : d.texts.length = 0
  rotate_left
  · have HN : Aside0 (¬ DOk 5 d) := ⟨fun h => by obtain ⟨g_by, g_host, g_mail, g_nu, g_tx⟩ := HD.out.1 h; exact q_tx g_tx⟩
    have f_txw : ((d.texts.length : Int) == 0) = false := beq_eq_false_iff_ne.mpr (by omega)
    have e_tx := Aside0.mk q_tx
    clear q_tx
    go_enter Try.func91, Try.ntmps91
    go_wp2_with fail
    refine (sh.out _).out.mono ?_
    rintro e w1 ⟨rfl, hb1⟩
    have HB1 := Aside0.mk ((below_alloc (Below.refl w.heap.size w) _).trans (hb1.mono (by simp)))
    obtain ⟨bc, bf⟩ := bcell hb1
    have hz : w.heap.size < w1.heap.size := by have := hb1.size; simp at this; omega
    have hz' : ¬ (w.heap.size = w1.heap.size) := by omega
    clear hb1
    go_wp2_with fail
    refine (sound_calls_v true _ d.host _ ?_ (e_host.out)).mono ?_
    · exact RH.out.below pS (below_alloc HB1.out _)
    rintro e w2 ⟨rfl, hb2⟩
    have HB2 := Aside0.mk ((below_alloc HB1.out _).trans (hb2.mono (by have := HB1.out.size; simp; omega)))
    have hbx := Aside0.mk hb2
    obtain ⟨bd, bg⟩ := bcell hb2
    have hz2 : w1.heap.size < w2.heap.size := by have := hb2.size; simp at this; omega
    have hz3 : w.heap.size < w2.heap.size := by omega
    clear hb2
    go_wp2_with fail
    refine (contains_i_v false _ d.nums _ ?_ 119 #[.pointer (some ⟨w1.heap.size, 0, none⟩)] (fun n => !fits n 0) eg1 ?_ (e_any.out)).mono ?_
    · exact RN.out.below pI HB2.out
    · exact pays_d1 _ d.nums w1.heap.size 0 r64_0 (by simp [*]) (by simp [*])
    rintro e w3 ⟨rfl, hb3⟩
    have HB3 := Aside0.mk (HB2.out.trans (hb3.mono (HB2.out.size)))
    obtain ⟨bd3, bg3⟩ := bcell hb3
    have hz32 : w1.heap.size < w3.heap.size := by have := hb3.size; omega
    have hz33 : w.heap.size < w3.heap.size := by omega
    clear hb3
    go_wp2_with fail
    go_ret
    refine ⟨?_, HB3.out⟩
    rw [decide_eq_false HN.out]; rfl
  have f_txw : ((d.texts.length : Int) == 0) = true := beq_iff_eq.mpr (by omega)
  have e_tx := Aside0.mk q_tx
  clear q_tx
  have HY : Aside0 (DOk 5 d) := ⟨HD.out.2 ⟨e_by.out, e_host.out, e_mail.out, e_nu.out, e_tx.out⟩⟩
  go_enter Try.func91, Try.ntmps91
  go_wp2_with fail
  refine (sh.out _).out.mono ?_
  rintro e w1 ⟨rfl, hb1⟩
  have HB1 := Aside0.mk ((below_alloc (Below.refl w.heap.size w) _).trans (hb1.mono (by simp)))
  obtain ⟨bc, bf⟩ := bcell hb1
  have hz : w.heap.size < w1.heap.size := by have := hb1.size; simp at this; omega
  have hz' : ¬ (w.heap.size = w1.heap.size) := by omega
  clear hb1
  go_wp2_with fail
  refine (sound_calls_v true _ d.host _ ?_ (e_host.out)).mono ?_
  · exact RH.out.below pS (below_alloc HB1.out _)
  rintro e w2 ⟨rfl, hb2⟩
  have HB2 := Aside0.mk ((below_alloc HB1.out _).trans (hb2.mono (by have := HB1.out.size; simp; omega)))
  have hbx := Aside0.mk hb2
  obtain ⟨bd, bg⟩ := bcell hb2
  have hz2 : w1.heap.size < w2.heap.size := by have := hb2.size; simp at this; omega
  have hz3 : w.heap.size < w2.heap.size := by omega
  clear hb2
  go_wp2_with fail
  refine (contains_i_v false _ d.nums _ ?_ 119 #[.pointer (some ⟨w1.heap.size, 0, none⟩)] (fun n => !fits n 0) eg1 ?_ (e_any.out)).mono ?_
  · exact RN.out.below pI HB2.out
  · exact pays_d1 _ d.nums w1.heap.size 0 r64_0 (by simp [*]) (by simp [*])
  rintro e w3 ⟨rfl, hb3⟩
  have HB3 := Aside0.mk (HB2.out.trans (hb3.mono (HB2.out.size)))
  obtain ⟨bd3, bg3⟩ := bcell hb3
  have hz32 : w1.heap.size < w3.heap.size := by have := hb3.size; omega
  have hz33 : w.heap.size < w3.heap.size := by omega
  clear hb3
  go_wp2_with fail
  go_ret
  refine ⟨?_, HB3.out⟩
  rw [decide_eq_true HY.out]; rfl
set_option maxHeartbeats 8000000 in
set_option maxRecDepth 100000 in
theorem dsound_12 (d : Dat) (cs : List Value) (w : World) (h : kD.K w (fun _ => True) d cs) :
    Calls Try.prog 91 #[.int .i64 12, .agg cs.toArray] w fun e w' => e = .returned (.bool (decide (DOk 12 d))) ∧ Below w.heap.size w w' := by
  have HD : Aside0 (DOk 12 d ↔ DOk 12 d) := ⟨Iff.rfl⟩
  have sh := Aside0.mk (fun w => shapes_12 w)
  obtain ⟨vb, vh, vm, vn, vt, rfl, hb, hh, hm, hn, ht⟩ := h
  have RH := Aside0.mk hh
  have RM := Aside0.mk hm
  have RN := Aside0.mk hn
  have RT := Aside0.mk ht
  obtain ⟨Ab, cb, rfl, _, _⟩ := hb
  obtain ⟨Ah, ch, rfl, _, _⟩ := hh
  obtain ⟨Am, cm, rfl, _, _⟩ := hm
  obtain ⟨An, cn, rfl, _, _⟩ := hn
  obtain ⟨At, ct, rfl, _, _⟩ := ht
  have eg1 : ∀ args w, (callFunc 119 args).run Try.prog w = .ok (.enter 119 args) w := enters Try.func119 (by kernel_rfl) rfl
  have eg2 : ∀ args w, (callFunc 120 args).run Try.prog w = .ok (.enter 120 args) w := enters Try.func120 (by kernel_rfl) rfl
  by_cases q_by : d.bytes.length = 0
  rotate_left
  · have HN : Aside0 (¬ DOk 12 d) := ⟨fun h => by obtain ⟨g_by, g_host, g_mail, g_nu, g_tx⟩ := HD.out.1 h; exact q_by g_by⟩
    have f_byw : ((d.bytes.length : Int) != 0) = true := bne_iff_ne.mpr (by omega)
    have e_by := Aside0.mk q_by
    clear q_by
    go_enter Try.func91, Try.ntmps91
    go_wp2_with fail
    refine (sh.out _).out.mono ?_
    rintro e w1 ⟨rfl, hb1⟩
    have HB1 := Aside0.mk ((below_alloc (Below.refl w.heap.size w) _).trans (hb1.mono (by simp)))
    obtain ⟨bc, bf⟩ := bcell hb1
    have hz : w.heap.size < w1.heap.size := by have := hb1.size; simp at this; omega
    have hz' : ¬ (w.heap.size = w1.heap.size) := by omega
    clear hb1
    go_wp2_with fail
    go_ret
    refine ⟨?_, (below_alloc HB1.out _)⟩
    rw [decide_eq_false HN.out]; rfl
  have f_byw : ((d.bytes.length : Int) != 0) = false := bne_eq_false_iff_eq.mpr (by omega)
  have f_byx : ¬ 65535 < d.bytes.length := by omega
  have e_by := Aside0.mk q_by
  clear q_by
  by_cases q_nu : d.nums.length = 0
  rotate_left
  · have HN : Aside0 (¬ DOk 12 d) := ⟨fun h => by obtain ⟨g_by, g_host, g_mail, g_nu, g_tx⟩ := HD.out.1 h; exact q_nu g_nu⟩
    have f_nuw : ((d.nums.length : Int) != 0) = true := bne_iff_ne.mpr (by omega)
    have e_nu := Aside0.mk q_nu
    clear q_nu
    go_enter Try.func91, Try.ntmps91
    go_wp2_with fail
    refine (sh.out _).out.mono ?_
    rintro e w1 ⟨rfl, hb1⟩
    have HB1 := Aside0.mk ((below_alloc (Below.refl w.heap.size w) _).trans (hb1.mono (by simp)))
    obtain ⟨bc, bf⟩ := bcell hb1
    have hz : w.heap.size < w1.heap.size := by have := hb1.size; simp at this; omega
    have hz' : ¬ (w.heap.size = w1.heap.size) := by omega
    clear hb1
    go_wp2_with fail
    go_ret
    refine ⟨?_, (below_alloc HB1.out _)⟩
    rw [decide_eq_false HN.out]; rfl
  have f_nuw : ((d.nums.length : Int) != 0) = false := bne_eq_false_iff_eq.mpr (by omega)
  have e_nu := Aside0.mk q_nu
  clear q_nu
  by_cases q_host : nSound d.host = true
  rotate_left
  · have HN : Aside0 (¬ DOk 12 d) := ⟨fun h => by obtain ⟨g_by, g_host, g_mail, g_nu, g_tx⟩ := HD.out.1 h; exact q_host g_host⟩
    have e_host := Aside0.mk q_host
    clear q_host
    go_enter Try.func91, Try.ntmps91
    go_wp2_with fail
    refine (sh.out _).out.mono ?_
    rintro e w1 ⟨rfl, hb1⟩
    have HB1 := Aside0.mk ((below_alloc (Below.refl w.heap.size w) _).trans (hb1.mono (by simp)))
    obtain ⟨bc, bf⟩ := bcell hb1
    have hz : w.heap.size < w1.heap.size := by have := hb1.size; simp at this; omega
    have hz' : ¬ (w.heap.size = w1.heap.size) := by omega
    clear hb1
    go_wp2_with fail
    refine (sound_calls_v false _ d.host _ ?_ (eq_false_of_ne_true e_host.out)).mono ?_
    · exact RH.out.below pS (below_alloc HB1.out _)
    rintro e w2 ⟨rfl, hb2⟩
    have HB2 := Aside0.mk ((below_alloc HB1.out _).trans (hb2.mono (by have := HB1.out.size; simp; omega)))
    have hbx := Aside0.mk hb2
    obtain ⟨bd, bg⟩ := bcell hb2
    have hz2 : w1.heap.size < w2.heap.size := by have := hb2.size; simp at this; omega
    have hz3 : w.heap.size < w2.heap.size := by omega
    clear hb2
    go_wp2_with fail
    go_ret
    refine ⟨?_, HB2.out⟩
    rw [decide_eq_false HN.out]; rfl
  have e_host := Aside0.mk q_host
  clear q_host
  by_cases q_mail : d.mail.length = 0
  rotate_left
  · have HN : Aside0 (¬ DOk 12 d) := ⟨fun h => by obtain ⟨g_by, g_host, g_mail, g_nu, g_tx⟩ := HD.out.1 h; exact q_mail g_mail⟩
    have f_mailw : 0 < d.mail.length := by omega
    have e_mail := Aside0.mk q_mail
    clear q_mail
    go_enter Try.func91, Try.ntmps91
    go_wp2_with fail
    refine (sh.out _).out.mono ?_
    rintro e w1 ⟨rfl, hb1⟩
    have HB1 := Aside0.mk ((below_alloc (Below.refl w.heap.size w) _).trans (hb1.mono (by simp)))
    obtain ⟨bc, bf⟩ := bcell hb1
    have hz : w.heap.size < w1.heap.size := by have := hb1.size; simp at this; omega
    have hz' : ¬ (w.heap.size = w1.heap.size) := by omega
    clear hb1
    go_wp2_with fail
    refine (sound_calls_v true _ d.host _ ?_ (e_host.out)).mono ?_
    · exact RH.out.below pS (below_alloc HB1.out _)
    rintro e w2 ⟨rfl, hb2⟩
    have HB2 := Aside0.mk ((below_alloc HB1.out _).trans (hb2.mono (by have := HB1.out.size; simp; omega)))
    have hbx := Aside0.mk hb2
    obtain ⟨bd, bg⟩ := bcell hb2
    have hz2 : w1.heap.size < w2.heap.size := by have := hb2.size; simp at this; omega
    have hz3 : w.heap.size < w2.heap.size := by omega
    clear hb2
    go_wp2_with fail
    go_ret
    refine ⟨?_, HB2.out⟩
    rw [decide_eq_false HN.out]; rfl
  have f_mailw : ¬ 0 < d.mail.length := by omega
  have e_mail := Aside0.mk q_mail
  clear q_mail
  have e_any : Aside0 ((d.nums.any fun n => !fits n 0) = false) := ⟨any_nil e_nu.out⟩
  by_cases q_tx : d.texts.length = 0
  rotate_left
  · have HN : Aside0 (¬ DOk 12 d) := ⟨fun h => by obtain ⟨g_by, g_host, g_mail, g_nu, g_tx⟩ := HD.out.1 h; exact q_tx g_tx⟩
    have f_txw : ((d.texts.length : Int) == 0) = false := beq_eq_false_iff_ne.mpr (by omega)
    have e_tx := Aside0.mk q_tx
    clear q_tx
    go_enter Try.func91, Try.ntmps91
    go_wp2_with fail
    refine (sh.out _).out.mono ?_
    rintro e w1 ⟨rfl, hb1⟩
    have HB1 := Aside0.mk ((below_alloc (Below.refl w.heap.size w) _).trans (hb1.mono (by simp)))
    obtain ⟨bc, bf⟩ := bcell hb1
    have hz : w.heap.size < w1.heap.size := by have := hb1.size; simp at this; omega
    have hz' : ¬ (w.heap.size = w1.heap.size) := by omega
    clear hb1
    go_wp2_with fail
    refine (sound_calls_v true _ d.host _ ?_ (e_host.out)).mono ?_
    · exact RH.out.below pS (below_alloc HB1.out _)
    rintro e w2 ⟨rfl, hb2⟩
    have HB2 := Aside0.mk ((below_alloc HB1.out _).trans (hb2.mono (by have := HB1.out.size; simp; omega)))
    have hbx := Aside0.mk hb2
    obtain ⟨bd, bg⟩ := bcell hb2
    have hz2 : w1.heap.size < w2.heap.size := by have := hb2.size; simp at this; omega
    have hz3 : w.heap.size < w2.heap.size := by omega
    clear hb2
    go_wp2_with fail
    refine (contains_i_v false _ d.nums _ ?_ 119 #[.pointer (some ⟨w1.heap.size, 0, none⟩)] (fun n => !fits n 0) eg1 ?_ (e_any.out)).mono ?_
    · exact RN.out.below pI HB2.out
    · exact pays_d1 _ d.nums w1.heap.size 0 r64_0 (by simp [*]) (by simp [*])
    rintro e w3 ⟨rfl, hb3⟩
    have HB3 := Aside0.mk (HB2.out.trans (hb3.mono (HB2.out.size)))
    obtain ⟨bd3, bg3⟩ := bcell hb3
    have hz32 : w1.heap.size < w3.heap.size := by have := hb3.size; omega
    have hz33 : w.heap.size < w3.heap.size := by omega
    clear hb3
    go_wp2_with fail
    go_ret
    refine ⟨?_, HB3.out⟩
    rw [decide_eq_false HN.out]; rfl
  have f_txw : ((d.texts.length : Int) == 0) = true := beq_iff_eq.mpr (by omega)
  have e_tx := Aside0.mk q_tx
  clear q_tx
  have HY : Aside0 (DOk 12 d) := ⟨HD.out.2 ⟨e_by.out, e_host.out, e_mail.out, e_nu.out, e_tx.out⟩⟩
  go_enter Try.func91, Try.ntmps91
  go_wp2_with fail
  refine (sh.out _).out.mono ?_
  rintro e w1 ⟨rfl, hb1⟩
  have HB1 := Aside0.mk ((below_alloc (Below.refl w.heap.size w) _).trans (hb1.mono (by simp)))
  obtain ⟨bc, bf⟩ := bcell hb1
  have hz : w.heap.size < w1.heap.size := by have := hb1.size; simp at this; omega
  have hz' : ¬ (w.heap.size = w1.heap.size) := by omega
  clear hb1
  go_wp2_with fail
  refine (sound_calls_v true _ d.host _ ?_ (e_host.out)).mono ?_
  · exact RH.out.below pS (below_alloc HB1.out _)
  rintro e w2 ⟨rfl, hb2⟩
  have HB2 := Aside0.mk ((below_alloc HB1.out _).trans (hb2.mono (by have := HB1.out.size; simp; omega)))
  have hbx := Aside0.mk hb2
  obtain ⟨bd, bg⟩ := bcell hb2
  have hz2 : w1.heap.size < w2.heap.size := by have := hb2.size; simp at this; omega
  have hz3 : w.heap.size < w2.heap.size := by omega
  clear hb2
  go_wp2_with fail
  refine (contains_i_v false _ d.nums _ ?_ 119 #[.pointer (some ⟨w1.heap.size, 0, none⟩)] (fun n => !fits n 0) eg1 ?_ (e_any.out)).mono ?_
  · exact RN.out.below pI HB2.out
  · exact pays_d1 _ d.nums w1.heap.size 0 r64_0 (by simp [*]) (by simp [*])
  rintro e w3 ⟨rfl, hb3⟩
  have HB3 := Aside0.mk (HB2.out.trans (hb3.mono (HB2.out.size)))
  obtain ⟨bd3, bg3⟩ := bcell hb3
  have hz32 : w1.heap.size < w3.heap.size := by have := hb3.size; omega
  have hz33 : w.heap.size < w3.heap.size := by omega
  clear hb3
  go_wp2_with fail
  go_ret
  refine ⟨?_, HB3.out⟩
  rw [decide_eq_true HY.out]; rfl
set_option maxHeartbeats 8000000 in
set_option maxRecDepth 100000 in
theorem dsound_15 (d : Dat) (cs : List Value) (w : World) (h : kD.K w (fun _ => True) d cs) :
    Calls Try.prog 91 #[.int .i64 15, .agg cs.toArray] w fun e w' => e = .returned (.bool (decide (DOk 15 d))) ∧ Below w.heap.size w w' := by
  have HD : Aside0 (DOk 15 d ↔ DOk 15 d) := ⟨Iff.rfl⟩
  have sh := Aside0.mk (fun w => shapes_15 w)
  obtain ⟨vb, vh, vm, vn, vt, rfl, hb, hh, hm, hn, ht⟩ := h
  have RH := Aside0.mk hh
  have RM := Aside0.mk hm
  have RN := Aside0.mk hn
  have RT := Aside0.mk ht
  obtain ⟨Ab, cb, rfl, _, _⟩ := hb
  obtain ⟨Ah, ch, rfl, _, _⟩ := hh
  obtain ⟨Am, cm, rfl, _, _⟩ := hm
  obtain ⟨An, cn, rfl, _, _⟩ := hn
  obtain ⟨At, ct, rfl, _, _⟩ := ht
  have eg1 : ∀ args w, (callFunc 119 args).run Try.prog w = .ok (.enter 119 args) w := enters Try.func119 (by kernel_rfl) rfl
  have eg2 : ∀ args w, (callFunc 120 args).run Try.prog w = .ok (.enter 120 args) w := enters Try.func120 (by kernel_rfl) rfl
  by_cases q_by : d.bytes.length = 0
  rotate_left
  · have HN : Aside0 (¬ DOk 15 d) := ⟨fun h => by obtain ⟨g_by, g_host, g_mail, g_nu, g_any, g_tx⟩ := HD.out.1 h; exact q_by g_by⟩
    have f_byw : ((d.bytes.length : Int) != 0) = true := bne_iff_ne.mpr (by omega)
    have e_by := Aside0.mk q_by
    clear q_by
    go_enter Try.func91, Try.ntmps91
    go_wp2_with fail
    refine (sh.out _).out.mono ?_
    rintro e w1 ⟨rfl, hb1⟩
    have HB1 := Aside0.mk ((below_alloc (Below.refl w.heap.size w) _).trans (hb1.mono (by simp)))
    obtain ⟨bc, bf⟩ := bcell hb1
    have hz : w.heap.size < w1.heap.size := by have := hb1.size; simp at this; omega
    have hz' : ¬ (w.heap.size = w1.heap.size) := by omega
    clear hb1
    go_wp2_with fail
    go_ret
    refine ⟨?_, (below_alloc HB1.out _)⟩
    rw [decide_eq_false HN.out]; rfl
  have f_byw : ((d.bytes.length : Int) != 0) = false := bne_eq_false_iff_eq.mpr (by omega)
  have f_byx : ¬ 65535 < d.bytes.length := by omega
  have e_by := Aside0.mk q_by
  clear q_by
  by_cases q_nu : d.nums.length = 1
  rotate_left
  · have HN : Aside0 (¬ DOk 15 d) := ⟨fun h => by obtain ⟨g_by, g_host, g_mail, g_nu, g_any, g_tx⟩ := HD.out.1 h; exact q_nu g_nu⟩
    have f_nuw : ((d.nums.length : Int) != 1) = true := bne_iff_ne.mpr (by omega)
    have e_nu := Aside0.mk q_nu
    clear q_nu
    go_enter Try.func91, Try.ntmps91
    go_wp2_with fail
    refine (sh.out _).out.mono ?_
    rintro e w1 ⟨rfl, hb1⟩
    have HB1 := Aside0.mk ((below_alloc (Below.refl w.heap.size w) _).trans (hb1.mono (by simp)))
    obtain ⟨bc, bf⟩ := bcell hb1
    have hz : w.heap.size < w1.heap.size := by have := hb1.size; simp at this; omega
    have hz' : ¬ (w.heap.size = w1.heap.size) := by omega
    clear hb1
    go_wp2_with fail
    go_ret
    refine ⟨?_, (below_alloc HB1.out _)⟩
    rw [decide_eq_false HN.out]; rfl
  have f_nuw : ((d.nums.length : Int) != 1) = false := bne_eq_false_iff_eq.mpr (by omega)
  have e_nu := Aside0.mk q_nu
  clear q_nu
  by_cases q_host : nSound d.host = true
  rotate_left
  · have HN : Aside0 (¬ DOk 15 d) := ⟨fun h => by obtain ⟨g_by, g_host, g_mail, g_nu, g_any, g_tx⟩ := HD.out.1 h; exact q_host g_host⟩
    have e_host := Aside0.mk q_host
    clear q_host
    go_enter Try.func91, Try.ntmps91
    go_wp2_with fail
    refine (sh.out _).out.mono ?_
    rintro e w1 ⟨rfl, hb1⟩
    have HB1 := Aside0.mk ((below_alloc (Below.refl w.heap.size w) _).trans (hb1.mono (by simp)))
    obtain ⟨bc, bf⟩ := bcell hb1
    have hz : w.heap.size < w1.heap.size := by have := hb1.size; simp at this; omega
    have hz' : ¬ (w.heap.size = w1.heap.size) := by omega
    clear hb1
    go_wp2_with fail
    refine (sound_calls_v false _ d.host _ ?_ (eq_false_of_ne_true e_host.out)).mono ?_
    · exact RH.out.below pS (below_alloc HB1.out _)
    rintro e w2 ⟨rfl, hb2⟩
    have HB2 := Aside0.mk ((below_alloc HB1.out _).trans (hb2.mono (by have := HB1.out.size; simp; omega)))
    have hbx := Aside0.mk hb2
    obtain ⟨bd, bg⟩ := bcell hb2
    have hz2 : w1.heap.size < w2.heap.size := by have := hb2.size; simp at this; omega
    have hz3 : w.heap.size < w2.heap.size := by omega
    clear hb2
    go_wp2_with fail
    go_ret
    refine ⟨?_, HB2.out⟩
    rw [decide_eq_false HN.out]; rfl
  have e_host := Aside0.mk q_host
  clear q_host
  by_cases q_mail : d.mail.length = 0
  rotate_left
  · have HN : Aside0 (¬ DOk 15 d) := ⟨fun h => by obtain ⟨g_by, g_host, g_mail, g_nu, g_any, g_tx⟩ := HD.out.1 h; exact q_mail g_mail⟩
    have f_mailw : 0 < d.mail.length := by omega
    have e_mail := Aside0.mk q_mail
    clear q_mail
    go_enter Try.func91, Try.ntmps91
    go_wp2_with fail
    refine (sh.out _).out.mono ?_
    rintro e w1 ⟨rfl, hb1⟩
    have HB1 := Aside0.mk ((below_alloc (Below.refl w.heap.size w) _).trans (hb1.mono (by simp)))
    obtain ⟨bc, bf⟩ := bcell hb1
    have hz : w.heap.size < w1.heap.size := by have := hb1.size; simp at this; omega
    have hz' : ¬ (w.heap.size = w1.heap.size) := by omega
    clear hb1
    go_wp2_with fail
    refine (sound_calls_v true _ d.host _ ?_ (e_host.out)).mono ?_
    · exact RH.out.below pS (below_alloc HB1.out _)
    rintro e w2 ⟨rfl, hb2⟩
    have HB2 := Aside0.mk ((below_alloc HB1.out _).trans (hb2.mono (by have := HB1.out.size; simp; omega)))
    have hbx := Aside0.mk hb2
    obtain ⟨bd, bg⟩ := bcell hb2
    have hz2 : w1.heap.size < w2.heap.size := by have := hb2.size; simp at this; omega
    have hz3 : w.heap.size < w2.heap.size := by omega
    clear hb2
    go_wp2_with fail
    go_ret
    refine ⟨?_, HB2.out⟩
    rw [decide_eq_false HN.out]; rfl
  have f_mailw : ¬ 0 < d.mail.length := by omega
  have e_mail := Aside0.mk q_mail
  clear q_mail
  by_cases q_any : (d.nums.any fun n => !fits n 2) = false
  rotate_left
  · have HN : Aside0 (¬ DOk 15 d) := ⟨fun h => by obtain ⟨g_by, g_host, g_mail, g_nu, g_any, g_tx⟩ := HD.out.1 h; exact q_any g_any⟩
    have e_any := Aside0.mk q_any
    clear q_any
    go_enter Try.func91, Try.ntmps91
    go_wp2_with fail
    refine (sh.out _).out.mono ?_
    rintro e w1 ⟨rfl, hb1⟩
    have HB1 := Aside0.mk ((below_alloc (Below.refl w.heap.size w) _).trans (hb1.mono (by simp)))
    obtain ⟨bc, bf⟩ := bcell hb1
    have hz : w.heap.size < w1.heap.size := by have := hb1.size; simp at this; omega
    have hz' : ¬ (w.heap.size = w1.heap.size) := by omega
    clear hb1
    go_wp2_with fail
    refine (sound_calls_v true _ d.host _ ?_ (e_host.out)).mono ?_
    · exact RH.out.below pS (below_alloc HB1.out _)
    rintro e w2 ⟨rfl, hb2⟩
    have HB2 := Aside0.mk ((below_alloc HB1.out _).trans (hb2.mono (by have := HB1.out.size; simp; omega)))
    have hbx := Aside0.mk hb2
    obtain ⟨bd, bg⟩ := bcell hb2
    have hz2 : w1.heap.size < w2.heap.size := by have := hb2.size; simp at this; omega
    have hz3 : w.heap.size < w2.heap.size := by omega
    clear hb2
    go_wp2_with fail
    refine (contains_i_v true _ d.nums _ ?_ 119 #[.pointer (some ⟨w1.heap.size, 0, none⟩)] (fun n => !fits n 2) eg1 ?_ (eq_true_of_ne_false e_any.out)).mono ?_
    · exact RN.out.below pI HB2.out
    · exact pays_d1 _ d.nums w1.heap.size 2 r64_2 (by simp [*]) (by simp [*])
    rintro e w3 ⟨rfl, hb3⟩
    have HB3 := Aside0.mk (HB2.out.trans (hb3.mono (HB2.out.size)))
    obtain ⟨bd3, bg3⟩ := bcell hb3
    have hz32 : w1.heap.size < w3.heap.size := by have := hb3.size; omega
    have hz33 : w.heap.size < w3.heap.size := by omega
    clear hb3
    go_wp2_with fail
    go_ret
    refine ⟨?_, HB3.out⟩
    rw [decide_eq_false HN.out]; rfl
  have e_any := Aside0.mk q_any
  clear q_any
  by_cases q_tx : d.texts.length = 0
  rotate_left
  · have HN : Aside0 (¬ DOk 15 d) := ⟨fun h => by obtain ⟨g_by, g_host, g_mail, g_nu, g_any, g_tx⟩ := HD.out.1 h; exact q_tx g_tx⟩
    have f_txw : ((d.texts.length : Int) == 0) = false := beq_eq_false_iff_ne.mpr (by omega)
    have e_tx := Aside0.mk q_tx
    clear q_tx
    go_enter Try.func91, Try.ntmps91
    go_wp2_with fail
    refine (sh.out _).out.mono ?_
    rintro e w1 ⟨rfl, hb1⟩
    have HB1 := Aside0.mk ((below_alloc (Below.refl w.heap.size w) _).trans (hb1.mono (by simp)))
    obtain ⟨bc, bf⟩ := bcell hb1
    have hz : w.heap.size < w1.heap.size := by have := hb1.size; simp at this; omega
    have hz' : ¬ (w.heap.size = w1.heap.size) := by omega
    clear hb1
    go_wp2_with fail
    refine (sound_calls_v true _ d.host _ ?_ (e_host.out)).mono ?_
    · exact RH.out.below pS (below_alloc HB1.out _)
    rintro e w2 ⟨rfl, hb2⟩
    have HB2 := Aside0.mk ((below_alloc HB1.out _).trans (hb2.mono (by have := HB1.out.size; simp; omega)))
    have hbx := Aside0.mk hb2
    obtain ⟨bd, bg⟩ := bcell hb2
    have hz2 : w1.heap.size < w2.heap.size := by have := hb2.size; simp at this; omega
    have hz3 : w.heap.size < w2.heap.size := by omega
    clear hb2
    go_wp2_with fail
    refine (contains_i_v false _ d.nums _ ?_ 119 #[.pointer (some ⟨w1.heap.size, 0, none⟩)] (fun n => !fits n 2) eg1 ?_ (e_any.out)).mono ?_
    · exact RN.out.below pI HB2.out
    · exact pays_d1 _ d.nums w1.heap.size 2 r64_2 (by simp [*]) (by simp [*])
    rintro e w3 ⟨rfl, hb3⟩
    have HB3 := Aside0.mk (HB2.out.trans (hb3.mono (HB2.out.size)))
    obtain ⟨bd3, bg3⟩ := bcell hb3
    have hz32 : w1.heap.size < w3.heap.size := by have := hb3.size; omega
    have hz33 : w.heap.size < w3.heap.size := by omega
    clear hb3
    go_wp2_with fail
    go_ret
    refine ⟨?_, HB3.out⟩
    rw [decide_eq_false HN.out]; rfl
  have f_txw : ((d.texts.length : Int) == 0) = true := beq_iff_eq.mpr (by omega)
  have e_tx := Aside0.mk q_tx
  clear q_tx
  have HY : Aside0 (DOk 15 d) := ⟨HD.out.2 ⟨e_by.out, e_host.out, e_mail.out, e_nu.out, e_any.out, e_tx.out⟩⟩
  go_enter Try.func91, Try.ntmps91
  go_wp2_with fail
  refine (sh.out _).out.mono ?_
  rintro e w1 ⟨rfl, hb1⟩
  have HB1 := Aside0.mk ((below_alloc (Below.refl w.heap.size w) _).trans (hb1.mono (by simp)))
  obtain ⟨bc, bf⟩ := bcell hb1
  have hz : w.heap.size < w1.heap.size := by have := hb1.size; simp at this; omega
  have hz' : ¬ (w.heap.size = w1.heap.size) := by omega
  clear hb1
  go_wp2_with fail
  refine (sound_calls_v true _ d.host _ ?_ (e_host.out)).mono ?_
  · exact RH.out.below pS (below_alloc HB1.out _)
  rintro e w2 ⟨rfl, hb2⟩
  have HB2 := Aside0.mk ((below_alloc HB1.out _).trans (hb2.mono (by have := HB1.out.size; simp; omega)))
  have hbx := Aside0.mk hb2
  obtain ⟨bd, bg⟩ := bcell hb2
  have hz2 : w1.heap.size < w2.heap.size := by have := hb2.size; simp at this; omega
  have hz3 : w.heap.size < w2.heap.size := by omega
  clear hb2
  go_wp2_with fail
  refine (contains_i_v false _ d.nums _ ?_ 119 #[.pointer (some ⟨w1.heap.size, 0, none⟩)] (fun n => !fits n 2) eg1 ?_ (e_any.out)).mono ?_
  · exact RN.out.below pI HB2.out
  · exact pays_d1 _ d.nums w1.heap.size 2 r64_2 (by simp [*]) (by simp [*])
  rintro e w3 ⟨rfl, hb3⟩
  have HB3 := Aside0.mk (HB2.out.trans (hb3.mono (HB2.out.size)))
  obtain ⟨bd3, bg3⟩ := bcell hb3
  have hz32 : w1.heap.size < w3.heap.size := by have := hb3.size; omega
  have hz33 : w.heap.size < w3.heap.size := by omega
  clear hb3
  go_wp2_with fail
  go_ret
  refine ⟨?_, HB3.out⟩
  rw [decide_eq_true HY.out]; rfl
set_option maxHeartbeats 8000000 in
set_option maxRecDepth 100000 in
theorem dsound_6 (d : Dat) (cs : List Value) (w : World) (h : kD.K w (fun _ => True) d cs) :
    Calls Try.prog 91 #[.int .i64 6, .agg cs.toArray] w fun e w' => e = .returned (.bool (decide (DOk 6 d))) ∧ Below w.heap.size w w' := by
  have HD : Aside0 (DOk 6 d ↔ DOk 6 d) := ⟨Iff.rfl⟩
  have sh := Aside0.mk (fun w => shapes_6 w)
  obtain ⟨vb, vh, vm, vn, vt, rfl, hb, hh, hm, hn, ht⟩ := h
  have RH := Aside0.mk hh
  have RM := Aside0.mk hm
  have RN := Aside0.mk hn
  have RT := Aside0.mk ht
  obtain ⟨Ab, cb, rfl, _, _⟩ := hb
  obtain ⟨Ah, ch, rfl, _, _⟩ := hh
  obtain ⟨Am, cm, rfl, _, _⟩ := hm
  obtain ⟨An, cn, rfl, _, _⟩ := hn
  obtain ⟨At, ct, rfl, _, _⟩ := ht
  have eg1 : ∀ args w, (callFunc 119 args).run Try.prog w = .ok (.enter 119 args) w := enters Try.func119 (by kernel_rfl) rfl
  have eg2 : ∀ args w, (callFunc 120 args).run Try.prog w = .ok (.enter 120 args) w := enters Try.func120 (by kernel_rfl) rfl
  by_cases q_by : d.bytes.length = 0
  rotate_left
  · have HN : Aside0 (¬ DOk 6 d) := ⟨fun h => by obtain ⟨g_by, g_host, g_mail, g_nu, g_any, g_tx⟩ := HD.out.1 h; exact q_by g_by⟩
    have f_byw : ((d.bytes.length : Int) != 0) = true := bne_iff_ne.mpr (by omega)
    have e_by := Aside0.mk q_by
    clear q_by
    go_enter Try.func91, Try.ntmps91
    go_wp2_with fail
    refine (sh.out _).out.mono ?_
    rintro e w1 ⟨rfl, hb1⟩
    have HB1 := Aside0.mk ((below_alloc (Below.refl w.heap.size w) _).trans (hb1.mono (by simp)))
    obtain ⟨bc, bf⟩ := bcell hb1
    have hz : w.heap.size < w1.heap.size := by have := hb1.size; simp at this; omega
    have hz' : ¬ (w.heap.size = w1.heap.size) := by omega
    clear hb1
    go_wp2_with fail
    go_ret
    refine ⟨?_, (below_alloc HB1.out _)⟩
    rw [decide_eq_false HN.out]; rfl
  have f_byw : ((d.bytes.length : Int) != 0) = false := bne_eq_false_iff_eq.mpr (by omega)
  have f_byx : ¬ 65535 < d.bytes.length := by omega
  have e_by := Aside0.mk q_by
  clear q_by
  by_cases q_nu : d.nums.length = 5
  rotate_left
  · have HN : Aside0 (¬ DOk 6 d) := ⟨fun h => by obtain ⟨g_by, g_host, g_mail, g_nu, g_any, g_tx⟩ := HD.out.1 h; exact q_nu g_nu⟩
    have f_nuw : ((d.nums.length : Int) != 5) = true := bne_iff_ne.mpr (by omega)
    have e_nu := Aside0.mk q_nu
    clear q_nu
    go_enter Try.func91, Try.ntmps91
    go_wp2_with fail
    refine (sh.out _).out.mono ?_
    rintro e w1 ⟨rfl, hb1⟩
    have HB1 := Aside0.mk ((below_alloc (Below.refl w.heap.size w) _).trans (hb1.mono (by simp)))
    obtain ⟨bc, bf⟩ := bcell hb1
    have hz : w.heap.size < w1.heap.size := by have := hb1.size; simp at this; omega
    have hz' : ¬ (w.heap.size = w1.heap.size) := by omega
    clear hb1
    go_wp2_with fail
    go_ret
    refine ⟨?_, (below_alloc HB1.out _)⟩
    rw [decide_eq_false HN.out]; rfl
  have f_nuw : ((d.nums.length : Int) != 5) = false := bne_eq_false_iff_eq.mpr (by omega)
  have e_nu := Aside0.mk q_nu
  clear q_nu
  by_cases q_host : nSound d.host = true
  rotate_left
  · have HN : Aside0 (¬ DOk 6 d) := ⟨fun h => by obtain ⟨g_by, g_host, g_mail, g_nu, g_any, g_tx⟩ := HD.out.1 h; exact q_host g_host⟩
    have e_host := Aside0.mk q_host
    clear q_host
    go_enter Try.func91, Try.ntmps91
    go_wp2_with fail
    refine (sh.out _).out.mono ?_
    rintro e w1 ⟨rfl, hb1⟩
    have HB1 := Aside0.mk ((below_alloc (Below.refl w.heap.size w) _).trans (hb1.mono (by simp)))
    obtain ⟨bc, bf⟩ := bcell hb1
    have hz : w.heap.size < w1.heap.size := by have := hb1.size; simp at this; omega
    have hz' : ¬ (w.heap.size = w1.heap.size) := by omega
    clear hb1
    go_wp2_with fail
    refine (sound_calls_v false _ d.host _ ?_ (eq_false_of_ne_true e_host.out)).mono ?_
    · exact RH.out.below pS (below_alloc HB1.out _)
    rintro e w2 ⟨rfl, hb2⟩
    have HB2 := Aside0.mk ((below_alloc HB1.out _).trans (hb2.mono (by have := HB1.out.size; simp; omega)))
    have hbx := Aside0.mk hb2
    obtain ⟨bd, bg⟩ := bcell hb2
    have hz2 : w1.heap.size < w2.heap.size := by have := hb2.size; simp at this; omega
    have hz3 : w.heap.size < w2.heap.size := by omega
    clear hb2
    go_wp2_with fail
    go_ret
    refine ⟨?_, HB2.out⟩
    rw [decide_eq_false HN.out]; rfl
  have e_host := Aside0.mk q_host
  clear q_host
  by_cases q_mail : nSound d.mail = true
  rotate_left
  · have HN : Aside0 (¬ DOk 6 d) := ⟨fun h => by obtain ⟨g_by, g_host, g_mail, g_nu, g_any, g_tx⟩ := HD.out.1 h; exact q_mail g_mail⟩
    have e_mail := Aside0.mk q_mail
    clear q_mail
    go_enter Try.func91, Try.ntmps91
    go_wp2_with fail
    refine (sh.out _).out.mono ?_
    rintro e w1 ⟨rfl, hb1⟩
    have HB1 := Aside0.mk ((below_alloc (Below.refl w.heap.size w) _).trans (hb1.mono (by simp)))
    obtain ⟨bc, bf⟩ := bcell hb1
    have hz : w.heap.size < w1.heap.size := by have := hb1.size; simp at this; omega
    have hz' : ¬ (w.heap.size = w1.heap.size) := by omega
    clear hb1
    go_wp2_with fail
    refine (sound_calls_v true _ d.host _ ?_ (e_host.out)).mono ?_
    · exact RH.out.below pS (below_alloc HB1.out _)
    rintro e w2 ⟨rfl, hb2⟩
    have HB2 := Aside0.mk ((below_alloc HB1.out _).trans (hb2.mono (by have := HB1.out.size; simp; omega)))
    have hbx := Aside0.mk hb2
    obtain ⟨bd, bg⟩ := bcell hb2
    have hz2 : w1.heap.size < w2.heap.size := by have := hb2.size; simp at this; omega
    have hz3 : w.heap.size < w2.heap.size := by omega
    clear hb2
    go_wp2_with fail
    refine (sound_calls_v false _ d.mail _ ?_ (eq_false_of_ne_true e_mail.out)).mono ?_
    · exact RM.out.below pS HB2.out
    rintro e w3 ⟨rfl, hb3⟩
    have HB3 := Aside0.mk (HB2.out.trans (hb3.mono (HB2.out.size)))
    obtain ⟨bd3, bg3⟩ := bcell hb3
    have hz32 : w1.heap.size < w3.heap.size := by have := hb3.size; omega
    have hz33 : w.heap.size < w3.heap.size := by omega
    clear hb3
    go_wp2_with fail
    go_ret
    refine ⟨?_, HB3.out⟩
    rw [decide_eq_false HN.out]; rfl
  have e_mail := Aside0.mk q_mail
  clear q_mail
  by_cases q_any : (d.nums.any fun n => !fits n 4) = false
  rotate_left
  · have HN : Aside0 (¬ DOk 6 d) := ⟨fun h => by obtain ⟨g_by, g_host, g_mail, g_nu, g_any, g_tx⟩ := HD.out.1 h; exact q_any g_any⟩
    have e_any := Aside0.mk q_any
    clear q_any
    go_enter Try.func91, Try.ntmps91
    go_wp2_with fail
    refine (sh.out _).out.mono ?_
    rintro e w1 ⟨rfl, hb1⟩
    have HB1 := Aside0.mk ((below_alloc (Below.refl w.heap.size w) _).trans (hb1.mono (by simp)))
    obtain ⟨bc, bf⟩ := bcell hb1
    have hz : w.heap.size < w1.heap.size := by have := hb1.size; simp at this; omega
    have hz' : ¬ (w.heap.size = w1.heap.size) := by omega
    clear hb1
    go_wp2_with fail
    refine (sound_calls_v true _ d.host _ ?_ (e_host.out)).mono ?_
    · exact RH.out.below pS (below_alloc HB1.out _)
    rintro e w2 ⟨rfl, hb2⟩
    have HB2 := Aside0.mk ((below_alloc HB1.out _).trans (hb2.mono (by have := HB1.out.size; simp; omega)))
    have hbx := Aside0.mk hb2
    obtain ⟨bd, bg⟩ := bcell hb2
    have hz2 : w1.heap.size < w2.heap.size := by have := hb2.size; simp at this; omega
    have hz3 : w.heap.size < w2.heap.size := by omega
    clear hb2
    go_wp2_with fail
    refine (sound_calls_v true _ d.mail _ ?_ (e_mail.out)).mono ?_
    · exact RM.out.below pS HB2.out
    rintro e w3 ⟨rfl, hb3⟩
    have HB3 := Aside0.mk (HB2.out.trans (hb3.mono (HB2.out.size)))
    obtain ⟨bd3, bg3⟩ := bcell hb3
    have hz32 : w1.heap.size < w3.heap.size := by have := hb3.size; omega
    have hz33 : w.heap.size < w3.heap.size := by omega
    clear hb3
    go_wp2_with fail
    refine (contains_i_v true _ d.nums _ ?_ 119 #[.pointer (some ⟨w1.heap.size, 0, none⟩)] (fun n => !fits n 4) eg1 ?_ (eq_true_of_ne_false e_any.out)).mono ?_
    · exact RN.out.below pI HB3.out
    · exact pays_d1 _ d.nums w1.heap.size 4 r64_4 (by simp [*]) (by simp [*])
    rintro e w4 ⟨rfl, hb4⟩
    have HB4 := Aside0.mk (HB3.out.trans (hb4.mono (HB3.out.size)))
    obtain ⟨bd4, bg4⟩ := bcell hb4
    have hz42 : w1.heap.size < w4.heap.size := by have := hb4.size; omega
    have hz43 : w.heap.size < w4.heap.size := by omega
    clear hb4
    go_wp2_with fail
    go_ret
    refine ⟨?_, HB4.out⟩
    rw [decide_eq_false HN.out]; rfl
  have e_any := Aside0.mk q_any
  clear q_any
  by_cases q_tx : d.texts.length = 0
  rotate_left
  · have HN : Aside0 (¬ DOk 6 d) := ⟨fun h => by obtain ⟨g_by, g_host, g_mail, g_nu, g_any, g_tx⟩ := HD.out.1 h; exact q_tx g_tx⟩
    have f_txw : ((d.texts.length : Int) == 0) = false := beq_eq_false_iff_ne.mpr (by omega)
    have e_tx := Aside0.mk q_tx
    clear q_tx
    go_enter Try.func91, Try.ntmps91
    go_wp2_with fail
    refine (sh.out _).out.mono ?_
    rintro e w1 ⟨rfl, hb1⟩
    have HB1 := Aside0.mk ((below_alloc (Below.refl w.heap.size w) _).trans (hb1.mono (by simp)))
    obtain ⟨bc, bf⟩ := bcell hb1
    have hz : w.heap.size < w1.heap.size := by have := hb1.size; simp at this; omega
    have hz' : ¬ (w.heap.size = w1.heap.size) := by omega
    clear hb1
    go_wp2_with fail
    refine (sound_calls_v true _ d.host _ ?_ (e_host.out)).mono ?_
    · exact RH.out.below pS (below_alloc HB1.out _)
    rintro e w2 ⟨rfl, hb2⟩
    have HB2 := Aside0.mk ((below_alloc HB1.out _).trans (hb2.mono (by have := HB1.out.size; simp; omega)))
    have hbx := Aside0.mk hb2
    obtain ⟨bd, bg⟩ := bcell hb2
    have hz2 : w1.heap.size < w2.heap.size := by have := hb2.size; simp at this; omega
    have hz3 : w.heap.size < w2.heap.size := by omega
    clear hb2
    go_wp2_with fail
    refine (sound_calls_v true _ d.mail _ ?_ (e_mail.out)).mono ?_
    · exact RM.out.below pS HB2.out
    rintro e w3 ⟨rfl, hb3⟩
    have HB3 := Aside0.mk (HB2.out.trans (hb3.mono (HB2.out.size)))
    obtain ⟨bd3, bg3⟩ := bcell hb3
    have hz32 : w1.heap.size < w3.heap.size := by have := hb3.size; omega
    have hz33 : w.heap.size < w3.heap.size := by omega
    clear hb3
    go_wp2_with fail
    refine (contains_i_v false _ d.nums _ ?_ 119 #[.pointer (some ⟨w1.heap.size, 0, none⟩)] (fun n => !fits n 4) eg1 ?_ (e_any.out)).mono ?_
    · exact RN.out.below pI HB3.out
    · exact pays_d1 _ d.nums w1.heap.size 4 r64_4 (by simp [*]) (by simp [*])
    rintro e w4 ⟨rfl, hb4⟩
    have HB4 := Aside0.mk (HB3.out.trans (hb4.mono (HB3.out.size)))
    obtain ⟨bd4, bg4⟩ := bcell hb4
    have hz42 : w1.heap.size < w4.heap.size := by have := hb4.size; omega
    have hz43 : w.heap.size < w4.heap.size := by omega
    clear hb4
    go_wp2_with fail
    go_ret
    refine ⟨?_, HB4.out⟩
    rw [decide_eq_false HN.out]; rfl
  have f_txw : ((d.texts.length : Int) == 0) = true := beq_iff_eq.mpr (by omega)
  have e_tx := Aside0.mk q_tx
  clear q_tx
  have HY : Aside0 (DOk 6 d) := ⟨HD.out.2 ⟨e_by.out, e_host.out, e_mail.out, e_nu.out, e_any.out, e_tx.out⟩⟩
  go_enter Try.func91, Try.ntmps91
  go_wp2_with fail
  refine (sh.out _).out.mono ?_
  rintro e w1 ⟨rfl, hb1⟩
  have HB1 := Aside0.mk ((below_alloc (Below.refl w.heap.size w) _).trans (hb1.mono (by simp)))
  obtain ⟨bc, bf⟩ := bcell hb1
  have hz : w.heap.size < w1.heap.size := by have := hb1.size; simp at this; omega
  have hz' : ¬ (w.heap.size = w1.heap.size) := by omega
  clear hb1
  go_wp2_with fail
  refine (sound_calls_v true _ d.host _ ?_ (e_host.out)).mono ?_
  · exact RH.out.below pS (below_alloc HB1.out _)
  rintro e w2 ⟨rfl, hb2⟩
  have HB2 := Aside0.mk ((below_alloc HB1.out _).trans (hb2.mono (by have := HB1.out.size; simp; omega)))
  have hbx := Aside0.mk hb2
  obtain ⟨bd, bg⟩ := bcell hb2
  have hz2 : w1.heap.size < w2.heap.size := by have := hb2.size; simp at this; omega
  have hz3 : w.heap.size < w2.heap.size := by omega
  clear hb2
  go_wp2_with fail
  refine (sound_calls_v true _ d.mail _ ?_ (e_mail.out)).mono ?_
  · exact RM.out.below pS HB2.out
  rintro e w3 ⟨rfl, hb3⟩
  have HB3 := Aside0.mk (HB2.out.trans (hb3.mono (HB2.out.size)))
  obtain ⟨bd3, bg3⟩ := bcell hb3
  have hz32 : w1.heap.size < w3.heap.size := by have := hb3.size; omega
  have hz33 : w.heap.size < w3.heap.size := by omega
  clear hb3
  go_wp2_with fail
  refine (contains_i_v false _ d.nums _ ?_ 119 #[.pointer (some ⟨w1.heap.size, 0, none⟩)] (fun n => !fits n 4) eg1 ?_ (e_any.out)).mono ?_
  · exact RN.out.below pI HB3.out
  · exact pays_d1 _ d.nums w1.heap.size 4 r64_4 (by simp [*]) (by simp [*])
  rintro e w4 ⟨rfl, hb4⟩
  have HB4 := Aside0.mk (HB3.out.trans (hb4.mono (HB3.out.size)))
  obtain ⟨bd4, bg4⟩ := bcell hb4
  have hz42 : w1.heap.size < w4.heap.size := by have := hb4.size; omega
  have hz43 : w.heap.size < w4.heap.size := by omega
  clear hb4
  go_wp2_with fail
  go_ret
  refine ⟨?_, HB4.out⟩
  rw [decide_eq_true HY.out]; rfl
set_option maxHeartbeats 8000000 in
set_option maxRecDepth 100000 in
theorem dsound_33 (d : Dat) (cs : List Value) (w : World) (h : kD.K w (fun _ => True) d cs) :
    Calls Try.prog 91 #[.int .i64 33, .agg cs.toArray] w fun e w' => e = .returned (.bool (decide (DOk 33 d))) ∧ Below w.heap.size w w' := by
  have HD : Aside0 (DOk 33 d ↔ DOk 33 d) := ⟨Iff.rfl⟩
  have sh := Aside0.mk (fun w => shapes_33 w)
  obtain ⟨vb, vh, vm, vn, vt, rfl, hb, hh, hm, hn, ht⟩ := h
  have RH := Aside0.mk hh
  have RM := Aside0.mk hm
  have RN := Aside0.mk hn
  have RT := Aside0.mk ht
  obtain ⟨Ab, cb, rfl, _, _⟩ := hb
  obtain ⟨Ah, ch, rfl, _, _⟩ := hh
  obtain ⟨Am, cm, rfl, _, _⟩ := hm
  obtain ⟨An, cn, rfl, _, _⟩ := hn
  obtain ⟨At, ct, rfl, _, _⟩ := ht
  have eg1 : ∀ args w, (callFunc 119 args).run Try.prog w = .ok (.enter 119 args) w := enters Try.func119 (by kernel_rfl) rfl
  have eg2 : ∀ args w, (callFunc 120 args).run Try.prog w = .ok (.enter 120 args) w := enters Try.func120 (by kernel_rfl) rfl
  by_cases q_by : d.bytes.length = 0
  rotate_left
  · have HN : Aside0 (¬ DOk 33 d) := ⟨fun h => by obtain ⟨g_by, g_host, g_mail, g_nu, g_any, g_tx⟩ := HD.out.1 h; exact q_by g_by⟩
    have f_byw : ((d.bytes.length : Int) != 0) = true := bne_iff_ne.mpr (by omega)
    have e_by := Aside0.mk q_by
    clear q_by
    go_enter Try.func91, Try.ntmps91
    go_wp2_with fail
    refine (sh.out _).out.mono ?_
    rintro e w1 ⟨rfl, hb1⟩
    have HB1 := Aside0.mk ((below_alloc (Below.refl w.heap.size w) _).trans (hb1.mono (by simp)))
    obtain ⟨bc, bf⟩ := bcell hb1
    have hz : w.heap.size < w1.heap.size := by have := hb1.size; simp at this; omega
    have hz' : ¬ (w.heap.size = w1.heap.size) := by omega
    clear hb1
    go_wp2_with fail
    go_ret
    refine ⟨?_, (below_alloc HB1.out _)⟩
    rw [decide_eq_false HN.out]; rfl
  have f_byw : ((d.bytes.length : Int) != 0) = false := bne_eq_false_iff_eq.mpr (by omega)
  have f_byx : ¬ 65535 < d.bytes.length := by omega
  have e_by := Aside0.mk q_by
  clear q_by
  by_cases q_nu : d.nums.length = 3
  rotate_left
  · have HN : Aside0 (¬ DOk 33 d) := ⟨fun h => by obtain ⟨g_by, g_host, g_mail, g_nu, g_any, g_tx⟩ := HD.out.1 h; exact q_nu g_nu⟩
    have f_nuw : ((d.nums.length : Int) != 3) = true := bne_iff_ne.mpr (by omega)
    have e_nu := Aside0.mk q_nu
    clear q_nu
    go_enter Try.func91, Try.ntmps91
    go_wp2_with fail
    refine (sh.out _).out.mono ?_
    rintro e w1 ⟨rfl, hb1⟩
    have HB1 := Aside0.mk ((below_alloc (Below.refl w.heap.size w) _).trans (hb1.mono (by simp)))
    obtain ⟨bc, bf⟩ := bcell hb1
    have hz : w.heap.size < w1.heap.size := by have := hb1.size; simp at this; omega
    have hz' : ¬ (w.heap.size = w1.heap.size) := by omega
    clear hb1
    go_wp2_with fail
    go_ret
    refine ⟨?_, (below_alloc HB1.out _)⟩
    rw [decide_eq_false HN.out]; rfl
  have f_nuw : ((d.nums.length : Int) != 3) = false := bne_eq_false_iff_eq.mpr (by omega)
  have e_nu := Aside0.mk q_nu
  clear q_nu
  by_cases q_host : nSound d.host = true
  rotate_left
  · have HN : Aside0 (¬ DOk 33 d) := ⟨fun h => by obtain ⟨g_by, g_host, g_mail, g_nu, g_any, g_tx⟩ := HD.out.1 h; exact q_host g_host⟩
    have e_host := Aside0.mk q_host
    clear q_host
    go_enter Try.func91, Try.ntmps91
    go_wp2_with fail
    refine (sh.out _).out.mono ?_
    rintro e w1 ⟨rfl, hb1⟩
    have HB1 := Aside0.mk ((below_alloc (Below.refl w.heap.size w) _).trans (hb1.mono (by simp)))
    obtain ⟨bc, bf⟩ := bcell hb1
    have hz : w.heap.size < w1.heap.size := by have := hb1.size; simp at this; omega
    have hz' : ¬ (w.heap.size = w1.heap.size) := by omega
    clear hb1
    go_wp2_with fail
    refine (sound_calls_v false _ d.host _ ?_ (eq_false_of_ne_true e_host.out)).mono ?_
    · exact RH.out.below pS (below_alloc HB1.out _)
    rintro e w2 ⟨rfl, hb2⟩
    have HB2 := Aside0.mk ((below_alloc HB1.out _).trans (hb2.mono (by have := HB1.out.size; simp; omega)))
    have hbx := Aside0.mk hb2
    obtain ⟨bd, bg⟩ := bcell hb2
    have hz2 : w1.heap.size < w2.heap.size := by have := hb2.size; simp at this; omega
    have hz3 : w.heap.size < w2.heap.size := by omega
    clear hb2
    go_wp2_with fail
    go_ret
    refine ⟨?_, HB2.out⟩
    rw [decide_eq_false HN.out]; rfl
  have e_host := Aside0.mk q_host
  clear q_host
  by_cases q_mail : d.mail.length = 0
  rotate_left
  · have HN : Aside0 (¬ DOk 33 d) := ⟨fun h => by obtain ⟨g_by, g_host, g_mail, g_nu, g_any, g_tx⟩ := HD.out.1 h; exact q_mail g_mail⟩
    have f_mailw : 0 < d.mail.length := by omega
    have e_mail := Aside0.mk q_mail
    clear q_mail
    go_enter Try.func91, Try.ntmps91
    go_wp2_with fail
    refine (sh.out _).out.mono ?_
    rintro e w1 ⟨rfl, hb1⟩
    have HB1 := Aside0.mk ((below_alloc (Below.refl w.heap.size w) _).trans (hb1.mono (by simp)))
    obtain ⟨bc, bf⟩ := bcell hb1
    have hz : w.heap.size < w1.heap.size := by have := hb1.size; simp at this; omega
    have hz' : ¬ (w.heap.size = w1.heap.size) := by omega
    clear hb1
    go_wp2_with fail
    refine (sound_calls_v true _ d.host _ ?_ (e_host.out)).mono ?_
    · exact RH.out.below pS (below_alloc HB1.out _)
    rintro e w2 ⟨rfl, hb2⟩
    have HB2 := Aside0.mk ((below_alloc HB1.out _).trans (hb2.mono (by have := HB1.out.size; simp; omega)))
    have hbx := Aside0.mk hb2
    obtain ⟨bd, bg⟩ := bcell hb2
    have hz2 : w1.heap.size < w2.heap.size := by have := hb2.size; simp at this; omega
    have hz3 : w.heap.size < w2.heap.size := by omega
    clear hb2
    go_wp2_with fail
    go_ret
    refine ⟨?_, HB2.out⟩
    rw [decide_eq_false HN.out]; rfl
  have f_mailw : ¬ 0 < d.mail.length := by omega
  have e_mail := Aside0.mk q_mail
  clear q_mail
  by_cases q_any : (d.nums.any fun n => !fits n 2) = false
  rotate_left
  · have HN : Aside0 (¬ DOk 33 d) := ⟨fun h => by obtain ⟨g_by, g_host, g_mail, g_nu, g_any, g_tx⟩ := HD.out.1 h; exact q_any g_any⟩
    have e_any := Aside0.mk q_any
    clear q_any
    go_enter Try.func91, Try.ntmps91
    go_wp2_with fail
    refine (sh.out _).out.mono ?_
    rintro e w1 ⟨rfl, hb1⟩
    have HB1 := Aside0.mk ((below_alloc (Below.refl w.heap.size w) _).trans (hb1.mono (by simp)))
    obtain ⟨bc, bf⟩ := bcell hb1
    have hz : w.heap.size < w1.heap.size := by have := hb1.size; simp at this; omega
    have hz' : ¬ (w.heap.size = w1.heap.size) := by omega
    clear hb1
    go_wp2_with fail
    refine (sound_calls_v true _ d.host _ ?_ (e_host.out)).mono ?_
    · exact RH.out.below pS (below_alloc HB1.out _)
    rintro e w2 ⟨rfl, hb2⟩
    have HB2 := Aside0.mk ((below_alloc HB1.out _).trans (hb2.mono (by have := HB1.out.size; simp; omega)))
    have hbx := Aside0.mk hb2
    obtain ⟨bd, bg⟩ := bcell hb2
    have hz2 : w1.heap.size < w2.heap.size := by have := hb2.size; simp at this; omega
    have hz3 : w.heap.size < w2.heap.size := by omega
    clear hb2
    go_wp2_with fail
    refine (contains_i_v true _ d.nums _ ?_ 119 #[.pointer (some ⟨w1.heap.size, 0, none⟩)] (fun n => !fits n 2) eg1 ?_ (eq_true_of_ne_false e_any.out)).mono ?_
    · exact RN.out.below pI HB2.out
    · exact pays_d1 _ d.nums w1.heap.size 2 r64_2 (by simp [*]) (by simp [*])
    rintro e w3 ⟨rfl, hb3⟩
    have HB3 := Aside0.mk (HB2.out.trans (hb3.mono (HB2.out.size)))
    obtain ⟨bd3, bg3⟩ := bcell hb3
    have hz32 : w1.heap.size < w3.heap.size := by have := hb3.size; omega
    have hz33 : w.heap.size < w3.heap.size := by omega
    clear hb3
    go_wp2_with fail
    go_ret
    refine ⟨?_, HB3.out⟩
    rw [decide_eq_false HN.out]; rfl
  have e_any := Aside0.mk q_any
  clear q_any
  by_cases q_tx : d.texts.length = 0
  rotate_left
  · have HN : Aside0 (¬ DOk 33 d) := ⟨fun h => by obtain ⟨g_by, g_host, g_mail, g_nu, g_any, g_tx⟩ := HD.out.1 h; exact q_tx g_tx⟩
    have f_txw : ((d.texts.length : Int) == 0) = false := beq_eq_false_iff_ne.mpr (by omega)
    have e_tx := Aside0.mk q_tx
    clear q_tx
    go_enter Try.func91, Try.ntmps91
    go_wp2_with fail
    refine (sh.out _).out.mono ?_
    rintro e w1 ⟨rfl, hb1⟩
    have HB1 := Aside0.mk ((below_alloc (Below.refl w.heap.size w) _).trans (hb1.mono (by simp)))
    obtain ⟨bc, bf⟩ := bcell hb1
    have hz : w.heap.size < w1.heap.size := by have := hb1.size; simp at this; omega
    have hz' : ¬ (w.heap.size = w1.heap.size) := by omega
    clear hb1
    go_wp2_with fail
    refine (sound_calls_v true _ d.host _ ?_ (e_host.out)).mono ?_
    · exact RH.out.below pS (below_alloc HB1.out _)
    rintro e w2 ⟨rfl, hb2⟩
    have HB2 := Aside0.mk ((below_alloc HB1.out _).trans (hb2.mono (by have := HB1.out.size; simp; omega)))
    have hbx := Aside0.mk hb2
    obtain ⟨bd, bg⟩ := bcell hb2
    have hz2 : w1.heap.size < w2.heap.size := by have := hb2.size; simp at this; omega
    have hz3 : w.heap.size < w2.heap.size := by omega
    clear hb2
    go_wp2_with fail
    refine (contains_i_v false _ d.nums _ ?_ 119 #[.pointer (some ⟨w1.heap.size, 0, none⟩)] (fun n => !fits n 2) eg1 ?_ (e_any.out)).mono ?_
    · exact RN.out.below pI HB2.out
    · exact pays_d1 _ d.nums w1.heap.size 2 r64_2 (by simp [*]) (by simp [*])
    rintro e w3 ⟨rfl, hb3⟩
    have HB3 := Aside0.mk (HB2.out.trans (hb3.mono (HB2.out.size)))
    obtain ⟨bd3, bg3⟩ := bcell hb3
    have hz32 : w1.heap.size < w3.heap.size := by have := hb3.size; omega
    have hz33 : w.heap.size < w3.heap.size := by omega
    clear hb3
    go_wp2_with fail
    go_ret
    refine ⟨?_, HB3.out⟩
    rw [decide_eq_false HN.out]; rfl
  have f_txw : ((d.texts.length : Int) == 0) = true := beq_iff_eq.mpr (by omega)
  have e_tx := Aside0.mk q_tx
  clear q_tx
  have HY : Aside0 (DOk 33 d) := ⟨HD.out.2 ⟨e_by.out, e_host.out, e_mail.out, e_nu.out, e_any.out, e_tx.out⟩⟩
  go_enter Try.func91, Try.ntmps91
  go_wp2_with fail
  refine (sh.out _).out.mono ?_
  rintro e w1 ⟨rfl, hb1⟩
  have HB1 := Aside0.mk ((below_alloc (Below.refl w.heap.size w) _).trans (hb1.mono (by simp)))
  obtain ⟨bc, bf⟩ := bcell hb1
  have hz : w.heap.size < w1.heap.size := by have := hb1.size; simp at this; omega
  have hz' : ¬ (w.heap.size = w1.heap.size) := by omega
  clear hb1
  go_wp2_with fail
  refine (sound_calls_v true _ d.host _ ?_ (e_host.out)).mono ?_
  · exact RH.out.below pS (below_alloc HB1.out _)
  rintro e w2 ⟨rfl, hb2⟩
  have HB2 := Aside0.mk ((below_alloc HB1.out _).trans (hb2.mono (by have := HB1.out.size; simp; omega)))
  have hbx := Aside0.mk hb2
  obtain ⟨bd, bg⟩ := bcell hb2
  have hz2 : w1.heap.size < w2.heap.size := by have := hb2.size; simp at this; omega
  have hz3 : w.heap.size < w2.heap.size := by omega
  clear hb2
  go_wp2_with fail
  refine (contains_i_v false _ d.nums _ ?_ 119 #[.pointer (some ⟨w1.heap.size, 0, none⟩)] (fun n => !fits n 2) eg1 ?_ (e_any.out)).mono ?_
  · exact RN.out.below pI HB2.out
  · exact pays_d1 _ d.nums w1.heap.size 2 r64_2 (by simp [*]) (by simp [*])
  rintro e w3 ⟨rfl, hb3⟩
  have HB3 := Aside0.mk (HB2.out.trans (hb3.mono (HB2.out.size)))
  obtain ⟨bd3, bg3⟩ := bcell hb3
  have hz32 : w1.heap.size < w3.heap.size := by have := hb3.size; omega
  have hz33 : w.heap.size < w3.heap.size := by omega
  clear hb3
  go_wp2_with fail
  go_ret
  refine ⟨?_, HB3.out⟩
  rw [decide_eq_true HY.out]; rfl
set_option maxHeartbeats 8000000 in
set_option maxRecDepth 100000 in
theorem dsound_16 (d : Dat) (cs : List Value) (w : World) (h : kD.K w (fun _ => True) d cs) :
    Calls Try.prog 91 #[.int .i64 16, .agg cs.toArray] w fun e w' => e = .returned (.bool (decide (DOk 16 d))) ∧ Below w.heap.size w w' := by
  have HD : Aside0 (DOk 16 d ↔ DOk 16 d) := ⟨Iff.rfl⟩
  have sh := Aside0.mk (fun w => shapes_16 w)
  obtain ⟨vb, vh, vm, vn, vt, rfl, hb, hh, hm, hn, ht⟩ := h
  have RH := Aside0.mk hh
  have RM := Aside0.mk hm
  have RN := Aside0.mk hn
  have RT := Aside0.mk ht
  obtain ⟨Ab, cb, rfl, _, _⟩ := hb
  obtain ⟨Ah, ch, rfl, _, _⟩ := hh
  obtain ⟨Am, cm, rfl, _, _⟩ := hm
  obtain ⟨An, cn, rfl, _, _⟩ := hn
  obtain ⟨At, ct, rfl, _, _⟩ := ht
  have eg1 : ∀ args w, (callFunc 119 args).run Try.prog w = .ok (.enter 119 args) w := enters Try.func119 (by kernel_rfl) rfl
  have eg2 : ∀ args w, (callFunc 120 args).run Try.prog w = .ok (.enter 120 args) w := enters Try.func120 (by kernel_rfl) rfl
  by_cases q_by : d.bytes.length = 0
  rotate_left
  · have HN : Aside0 (¬ DOk 16 d) := ⟨fun h => by obtain ⟨g_by, g_host, g_mail, g_nu, g_t1, g_t2, g_tx⟩ := HD.out.1 h; exact q_by g_by⟩
    have f_byw : ((d.bytes.length : Int) != 0) = true := bne_iff_ne.mpr (by omega)
    have e_by := Aside0.mk q_by
    clear q_by
    go_enter Try.func91, Try.ntmps91
    go_wp2_with fail
    refine (sh.out _).out.mono ?_
    rintro e w1 ⟨rfl, hb1⟩
    have HB1 := Aside0.mk ((below_alloc (Below.refl w.heap.size w) _).trans (hb1.mono (by simp)))
    obtain ⟨bc, bf⟩ := bcell hb1
    have hz : w.heap.size < w1.heap.size := by have := hb1.size; simp at this; omega
    have hz' : ¬ (w.heap.size = w1.heap.size) := by omega
    clear hb1
    go_wp2_with fail
    go_ret
    refine ⟨?_, (below_alloc HB1.out _)⟩
    rw [decide_eq_false HN.out]; rfl
  have f_byw : ((d.bytes.length : Int) != 0) = false := bne_eq_false_iff_eq.mpr (by omega)
  have f_byx : ¬ 65535 < d.bytes.length := by omega
  have e_by := Aside0.mk q_by
  clear q_by
  by_cases q_nu : d.nums.length = 0
  rotate_left
  · have HN : Aside0 (¬ DOk 16 d) := ⟨fun h => by obtain ⟨g_by, g_host, g_mail, g_nu, g_t1, g_t2, g_tx⟩ := HD.out.1 h; exact q_nu g_nu⟩
    have f_nuw : ((d.nums.length : Int) != 0) = true := bne_iff_ne.mpr (by omega)
    have e_nu := Aside0.mk q_nu
    clear q_nu
    go_enter Try.func91, Try.ntmps91
    go_wp2_with fail
    refine (sh.out _).out.mono ?_
    rintro e w1 ⟨rfl, hb1⟩
    have HB1 := Aside0.mk ((below_alloc (Below.refl w.heap.size w) _).trans (hb1.mono (by simp)))
    obtain ⟨bc, bf⟩ := bcell hb1
    have hz : w.heap.size < w1.heap.size := by have := hb1.size; simp at this; omega
    have hz' : ¬ (w.heap.size = w1.heap.size) := by omega
    clear hb1
    go_wp2_with fail
    go_ret
    refine ⟨?_, (below_alloc HB1.out _)⟩
    rw [decide_eq_false HN.out]; rfl
  have f_nuw : ((d.nums.length : Int) != 0) = false := bne_eq_false_iff_eq.mpr (by omega)
  have e_nu := Aside0.mk q_nu
  clear q_nu
  by_cases q_host : d.host.length = 0
  rotate_left
  · have HN : Aside0 (¬ DOk 16 d) := ⟨fun h => by obtain ⟨g_by, g_host, g_mail, g_nu, g_t1, g_t2, g_tx⟩ := HD.out.1 h; exact q_host g_host⟩
    have f_hostw : 0 < d.host.length := by omega
    have e_host := Aside0.mk q_host
    clear q_host
    go_enter Try.func91, Try.ntmps91
    go_wp2_with fail
    refine (sh.out _).out.mono ?_
    rintro e w1 ⟨rfl, hb1⟩
    have HB1 := Aside0.mk ((below_alloc (Below.refl w.heap.size w) _).trans (hb1.mono (by simp)))
    obtain ⟨bc, bf⟩ := bcell hb1
    have hz : w.heap.size < w1.heap.size := by have := hb1.size; simp at this; omega
    have hz' : ¬ (w.heap.size = w1.heap.size) := by omega
    clear hb1
    go_wp2_with fail
    go_ret
    refine ⟨?_, (below_alloc HB1.out _)⟩
    rw [decide_eq_false HN.out]; rfl
  have f_hostw : ¬ 0 < d.host.length := by omega
  have e_host := Aside0.mk q_host
  clear q_host
  by_cases q_mail : d.mail.length = 0
  rotate_left
  · have HN : Aside0 (¬ DOk 16 d) := ⟨fun h => by obtain ⟨g_by, g_host, g_mail, g_nu, g_t1, g_t2, g_tx⟩ := HD.out.1 h; exact q_mail g_mail⟩
    have f_mailw : 0 < d.mail.length := by omega
    have e_mail := Aside0.mk q_mail
    clear q_mail
    go_enter Try.func91, Try.ntmps91
    go_wp2_with fail
    refine (sh.out _).out.mono ?_
    rintro e w1 ⟨rfl, hb1⟩
    have HB1 := Aside0.mk ((below_alloc (Below.refl w.heap.size w) _).trans (hb1.mono (by simp)))
    obtain ⟨bc, bf⟩ := bcell hb1
    have hz : w.heap.size < w1.heap.size := by have := hb1.size; simp at this; omega
    have hz' : ¬ (w.heap.size = w1.heap.size) := by omega
    clear hb1
    go_wp2_with fail
    go_ret
    refine ⟨?_, (below_alloc HB1.out _)⟩
    rw [decide_eq_false HN.out]; rfl
  have f_mailw : ¬ 0 < d.mail.length := by omega
  have e_mail := Aside0.mk q_mail
  clear q_mail
  have e_any : Aside0 ((d.nums.any fun n => !fits n 0) = false) := ⟨any_nil e_nu.out⟩
  by_cases q_t1 : 1 ≤ d.texts.length
  rotate_left
  · have HN : Aside0 (¬ DOk 16 d) := ⟨fun h => by obtain ⟨g_by, g_host, g_mail, g_nu, g_t1, g_t2, g_tx⟩ := HD.out.1 h; exact q_t1 g_t1⟩
    have f_t1w : ¬ 1 ≤ d.texts.length := by omega
    have e_t1 := Aside0.mk q_t1
    clear q_t1
    go_enter Try.func91, Try.ntmps91
    go_wp2_with fail
    refine (sh.out _).out.mono ?_
    rintro e w1 ⟨rfl, hb1⟩
    have HB1 := Aside0.mk ((below_alloc (Below.refl w.heap.size w) _).trans (hb1.mono (by simp)))
    obtain ⟨bc, bf⟩ := bcell hb1
    have hz : w.heap.size < w1.heap.size := by have := hb1.size; simp at this; omega
    have hz' : ¬ (w.heap.size = w1.heap.size) := by omega
    clear hb1
    go_wp2_with fail
    refine (contains_i_v false _ d.nums _ ?_ 119 #[.pointer (some ⟨w1.heap.size, 0, none⟩)] (fun n => !fits n 0) eg1 ?_ (e_any.out)).mono ?_
    · exact RN.out.below pI (below_alloc HB1.out _)
    · exact pays_d1 _ d.nums w1.heap.size 0 r64_0 (by simp [*]) (by simp [*])
    rintro e w2 ⟨rfl, hb2⟩
    have HB2 := Aside0.mk ((below_alloc HB1.out _).trans (hb2.mono (by have := HB1.out.size; simp; omega)))
    have hbx := Aside0.mk hb2
    obtain ⟨bd, bg⟩ := bcell hb2
    have hz2 : w1.heap.size < w2.heap.size := by have := hb2.size; simp at this; omega
    have hz3 : w.heap.size < w2.heap.size := by omega
    clear hb2
    go_wp2_with fail
    go_ret
    refine ⟨?_, HB2.out⟩
    rw [decide_eq_false HN.out]; rfl
  have f_t1w : 1 ≤ d.texts.length := by omega
  have e_t1 := Aside0.mk q_t1
  clear q_t1
  by_cases q_t2 : d.texts.length ≤ 64
  rotate_left
  · have HN : Aside0 (¬ DOk 16 d) := ⟨fun h => by obtain ⟨g_by, g_host, g_mail, g_nu, g_t1, g_t2, g_tx⟩ := HD.out.1 h; exact q_t2 g_t2⟩
    have f_t2w : ¬ d.texts.length ≤ 64 := by omega
    have e_t2 := Aside0.mk q_t2
    clear q_t2
    go_enter Try.func91, Try.ntmps91
    go_wp2_with fail
    refine (sh.out _).out.mono ?_
    rintro e w1 ⟨rfl, hb1⟩
    have HB1 := Aside0.mk ((below_alloc (Below.refl w.heap.size w) _).trans (hb1.mono (by simp)))
    obtain ⟨bc, bf⟩ := bcell hb1
    have hz : w.heap.size < w1.heap.size := by have := hb1.size; simp at this; omega
    have hz' : ¬ (w.heap.size = w1.heap.size) := by omega
    clear hb1
    go_wp2_with fail
    refine (contains_i_v false _ d.nums _ ?_ 119 #[.pointer (some ⟨w1.heap.size, 0, none⟩)] (fun n => !fits n 0) eg1 ?_ (e_any.out)).mono ?_
    · exact RN.out.below pI (below_alloc HB1.out _)
    · exact pays_d1 _ d.nums w1.heap.size 0 r64_0 (by simp [*]) (by simp [*])
    rintro e w2 ⟨rfl, hb2⟩
    have HB2 := Aside0.mk ((below_alloc HB1.out _).trans (hb2.mono (by have := HB1.out.size; simp; omega)))
    have hbx := Aside0.mk hb2
    obtain ⟨bd, bg⟩ := bcell hb2
    have hz2 : w1.heap.size < w2.heap.size := by have := hb2.size; simp at this; omega
    have hz3 : w.heap.size < w2.heap.size := by omega
    clear hb2
    go_wp2_with fail
    go_ret
    refine ⟨?_, HB2.out⟩
    rw [decide_eq_false HN.out]; rfl
  have f_t2w : d.texts.length ≤ 64 := by omega
  have e_t2 := Aside0.mk q_t2
  clear q_t2
  by_cases q_tx : (d.texts.any fun t => decide (255 < t.size)) = false
  rotate_left
  · have HN : Aside0 (¬ DOk 16 d) := ⟨fun h => by obtain ⟨g_by, g_host, g_mail, g_nu, g_t1, g_t2, g_tx⟩ := HD.out.1 h; exact q_tx g_tx⟩
    have e_tx := Aside0.mk q_tx
    clear q_tx
    go_enter Try.func91, Try.ntmps91
    go_wp2_with fail
    refine (sh.out _).out.mono ?_
    rintro e w1 ⟨rfl, hb1⟩
    have HB1 := Aside0.mk ((below_alloc (Below.refl w.heap.size w) _).trans (hb1.mono (by simp)))
    obtain ⟨bc, bf⟩ := bcell hb1
    have hz : w.heap.size < w1.heap.size := by have := hb1.size; simp at this; omega
    have hz' : ¬ (w.heap.size = w1.heap.size) := by omega
    clear hb1
    go_wp2_with fail
    refine (contains_i_v false _ d.nums _ ?_ 119 #[.pointer (some ⟨w1.heap.size, 0, none⟩)] (fun n => !fits n 0) eg1 ?_ (e_any.out)).mono ?_
    · exact RN.out.below pI (below_alloc HB1.out _)
    · exact pays_d1 _ d.nums w1.heap.size 0 r64_0 (by simp [*]) (by simp [*])
    rintro e w2 ⟨rfl, hb2⟩
    have HB2 := Aside0.mk ((below_alloc HB1.out _).trans (hb2.mono (by have := HB1.out.size; simp; omega)))
    have hbx := Aside0.mk hb2
    obtain ⟨bd, bg⟩ := bcell hb2
    have hz2 : w1.heap.size < w2.heap.size := by have := hb2.size; simp at this; omega
    have hz3 : w.heap.size < w2.heap.size := by omega
    clear hb2
    go_wp2_with fail
    refine (contains_s_v true _ d.texts _ ?_ 120 #[] _ eg2 (pays_d2 _ d.texts) (eq_true_of_ne_false e_tx.out)).mono ?_
    · exact RT.out.below pS HB2.out
    rintro e w3 ⟨rfl, hb3⟩
    have HB3 := Aside0.mk (HB2.out.trans (hb3.mono (HB2.out.size)))
    obtain ⟨bd3, bg3⟩ := bcell hb3
    have hz32 : w1.heap.size < w3.heap.size := by have := hb3.size; omega
    have hz33 : w.heap.size < w3.heap.size := by omega
    clear hb3
    go_wp2_with fail
    go_ret
    refine ⟨?_, HB3.out⟩
    rw [decide_eq_false HN.out]; rfl
  have e_tx := Aside0.mk q_tx
  clear q_tx
  have HY : Aside0 (DOk 16 d) := ⟨HD.out.2 ⟨e_by.out, e_host.out, e_mail.out, e_nu.out, e_t1.out, e_t2.out, e_tx.out⟩⟩
  go_enter Try.func91, Try.ntmps91
  go_wp2_with fail
  refine (sh.out _).out.mono ?_
  rintro e w1 ⟨rfl, hb1⟩
  have HB1 := Aside0.mk ((below_alloc (Below.refl w.heap.size w) _).trans (hb1.mono (by simp)))
  obtain ⟨bc, bf⟩ := bcell hb1
  have hz : w.heap.size < w1.heap.size := by have := hb1.size; simp at this; omega
  have hz' : ¬ (w.heap.size = w1.heap.size) := by omega
  clear hb1
  go_wp2_with fail
  refine (contains_i_v false _ d.nums _ ?_ 119 #[.pointer (some ⟨w1.heap.size, 0, none⟩)] (fun n => !fits n 0) eg1 ?_ (e_any.out)).mono ?_
  · exact RN.out.below pI (below_alloc HB1.out _)
  · exact pays_d1 _ d.nums w1.heap.size 0 r64_0 (by simp [*]) (by simp [*])
  rintro e w2 ⟨rfl, hb2⟩
  have HB2 := Aside0.mk ((below_alloc HB1.out _).trans (hb2.mono (by have := HB1.out.size; simp; omega)))
  have hbx := Aside0.mk hb2
  obtain ⟨bd, bg⟩ := bcell hb2
  have hz2 : w1.heap.size < w2.heap.size := by have := hb2.size; simp at this; omega
  have hz3 : w.heap.size < w2.heap.size := by omega
  clear hb2
  go_wp2_with fail
  refine (contains_s_v false _ d.texts _ ?_ 120 #[] _ eg2 (pays_d2 _ d.texts) (e_tx.out)).mono ?_
  · exact RT.out.below pS HB2.out
  rintro e w3 ⟨rfl, hb3⟩
  have HB3 := Aside0.mk (HB2.out.trans (hb3.mono (HB2.out.size)))
  obtain ⟨bd3, bg3⟩ := bcell hb3
  have hz32 : w1.heap.size < w3.heap.size := by have := hb3.size; omega
  have hz33 : w.heap.size < w3.heap.size := by omega
  clear hb3
  go_wp2_with fail
  go_ret
  refine ⟨?_, HB3.out⟩
  rw [decide_eq_true HY.out]; rfl
set_option maxHeartbeats 8000000 in
set_option maxRecDepth 100000 in
theorem dsound_D (kind : Int) (h1 : kind ≠ 1) (h28 : kind ≠ 28) (h2 : kind ≠ 2) (h5 : kind ≠ 5) (h12 : kind ≠ 12) (h15 : kind ≠ 15) (h6 : kind ≠ 6) (h33 : kind ≠ 33) (h16 : kind ≠ 16) (d : Dat) (cs : List Value) (w : World) (h : kD.K w (fun _ => True) d cs) :
    Calls Try.prog 91 #[.int .i64 kind, .agg cs.toArray] w fun e w' => e = .returned (.bool (decide (DOk kind d))) ∧ Below w.heap.size w w' := by
  have hD : DOk kind d ↔ ((1 ≤ kind ∧ kind ≤ 65535) ∧ d.bytes.length ≤ 65535 ∧ d.host.length = 0 ∧ d.mail.length = 0 ∧ d.nums.length = 0 ∧ d.texts.length = 0) := by
    unfold DOk; rw [if_neg h1, if_neg h28, if_neg (by omega), if_neg h15, if_neg h6, if_neg h33, if_neg h16]
  have HD := Aside0.mk hD
  clear hD
  have sh := Aside0.mk (fun w => shapes_D kind h1 h28 h2 h5 h12 h15 h6 h33 h16 w)
  clear h1 h28 h2 h5 h12 h15 h6 h33 h16
  obtain ⟨vb, vh, vm, vn, vt, rfl, hb, hh, hm, hn, ht⟩ := h
  have RH := Aside0.mk hh
  have RM := Aside0.mk hm
  have RN := Aside0.mk hn
  have RT := Aside0.mk ht
  obtain ⟨Ab, cb, rfl, _, _⟩ := hb
  obtain ⟨Ah, ch, rfl, _, _⟩ := hh
  obtain ⟨Am, cm, rfl, _, _⟩ := hm
  obtain ⟨An, cn, rfl, _, _⟩ := hn
  obtain ⟨At, ct, rfl, _, _⟩ := ht
  have eg1 : ∀ args w, (callFunc 119 args).run Try.prog w = .ok (.enter 119 args) w := enters Try.func119 (by kernel_rfl) rfl
  have eg2 : ∀ args w, (callFunc 120 args).run Try.prog w = .ok (.enter 120 args) w := enters Try.func120 (by kernel_rfl) rfl
  by_cases q_lo : 1 ≤ kind
  rotate_left
  · have HN : Aside0 (¬ DOk kind d) := ⟨fun h => by obtain ⟨⟨g_lo, g_hi⟩, g_by, g_host, g_mail, g_nu, g_tx⟩ := HD.out.1 h; exact q_lo g_lo⟩
    have f_low : kind < 1 := by omega
    have e_lo := Aside0.mk q_lo
    clear q_lo
    go_enter Try.func91, Try.ntmps91
    go_wp2_with fail
    refine (sh.out _).out.mono ?_
    rintro e w1 ⟨rfl, hb1⟩
    have HB1 := Aside0.mk ((below_alloc (Below.refl w.heap.size w) _).trans (hb1.mono (by simp)))
    obtain ⟨bc, bf⟩ := bcell hb1
    have hz : w.heap.size < w1.heap.size := by have := hb1.size; simp at this; omega
    have hz' : ¬ (w.heap.size = w1.heap.size) := by omega
    clear hb1
    go_wp2_with fail
    go_ret
    refine ⟨?_, (below_alloc HB1.out _)⟩
    rw [decide_eq_false HN.out]; rfl
  have f_low : ¬ kind < 1 := by omega
  have e_lo := Aside0.mk q_lo
  clear q_lo
  by_cases q_hi : kind ≤ 65535
  rotate_left
  · have HN : Aside0 (¬ DOk kind d) := ⟨fun h => by obtain ⟨⟨g_lo, g_hi⟩, g_by, g_host, g_mail, g_nu, g_tx⟩ := HD.out.1 h; exact q_hi g_hi⟩
    have f_hiw : 65535 < kind := by omega
    have e_hi := Aside0.mk q_hi
    clear q_hi
    go_enter Try.func91, Try.ntmps91
    go_wp2_with fail
    refine (sh.out _).out.mono ?_
    rintro e w1 ⟨rfl, hb1⟩
    have HB1 := Aside0.mk ((below_alloc (Below.refl w.heap.size w) _).trans (hb1.mono (by simp)))
    obtain ⟨bc, bf⟩ := bcell hb1
    have hz : w.heap.size < w1.heap.size := by have := hb1.size; simp at this; omega
    have hz' : ¬ (w.heap.size = w1.heap.size) := by omega
    clear hb1
    go_wp2_with fail
    go_ret
    refine ⟨?_, (below_alloc HB1.out _)⟩
    rw [decide_eq_false HN.out]; rfl
  have f_hiw : ¬ 65535 < kind := by omega
  have e_hi := Aside0.mk q_hi
  clear q_hi
  by_cases q_by : d.bytes.length ≤ 65535
  rotate_left
  · have HN : Aside0 (¬ DOk kind d) := ⟨fun h => by obtain ⟨⟨g_lo, g_hi⟩, g_by, g_host, g_mail, g_nu, g_tx⟩ := HD.out.1 h; exact q_by g_by⟩
    have f_byw : 65535 < d.bytes.length := by omega
    have e_by := Aside0.mk q_by
    clear q_by
    go_enter Try.func91, Try.ntmps91
    go_wp2_with fail
    refine (sh.out _).out.mono ?_
    rintro e w1 ⟨rfl, hb1⟩
    have HB1 := Aside0.mk ((below_alloc (Below.refl w.heap.size w) _).trans (hb1.mono (by simp)))
    obtain ⟨bc, bf⟩ := bcell hb1
    have hz : w.heap.size < w1.heap.size := by have := hb1.size; simp at this; omega
    have hz' : ¬ (w.heap.size = w1.heap.size) := by omega
    clear hb1
    go_wp2_with fail
    go_ret
    refine ⟨?_, (below_alloc HB1.out _)⟩
    rw [decide_eq_false HN.out]; rfl
  have f_byw : ¬ 65535 < d.bytes.length := by omega
  have e_by := Aside0.mk q_by
  clear q_by
  by_cases q_nu : d.nums.length = 0
  rotate_left
  · have HN : Aside0 (¬ DOk kind d) := ⟨fun h => by obtain ⟨⟨g_lo, g_hi⟩, g_by, g_host, g_mail, g_nu, g_tx⟩ := HD.out.1 h; exact q_nu g_nu⟩
    have f_nuw : ((d.nums.length : Int) != 0) = true := bne_iff_ne.mpr (by omega)
    have e_nu := Aside0.mk q_nu
    clear q_nu
    go_enter Try.func91, Try.ntmps91
    go_wp2_with fail
    refine (sh.out _).out.mono ?_
    rintro e w1 ⟨rfl, hb1⟩
    have HB1 := Aside0.mk ((below_alloc (Below.refl w.heap.size w) _).trans (hb1.mono (by simp)))
    obtain ⟨bc, bf⟩ := bcell hb1
    have hz : w.heap.size < w1.heap.size := by have := hb1.size; simp at this; omega
    have hz' : ¬ (w.heap.size = w1.heap.size) := by omega
    clear hb1
    go_wp2_with fail
    go_ret
    refine ⟨?_, (below_alloc HB1.out _)⟩
    rw [decide_eq_false HN.out]; rfl
  have f_nuw : ((d.nums.length : Int) != 0) = false := bne_eq_false_iff_eq.mpr (by omega)
  have e_nu := Aside0.mk q_nu
  clear q_nu
  by_cases q_host : d.host.length = 0
  rotate_left
  · have HN : Aside0 (¬ DOk kind d) := ⟨fun h => by obtain ⟨⟨g_lo, g_hi⟩, g_by, g_host, g_mail, g_nu, g_tx⟩ := HD.out.1 h; exact q_host g_host⟩
    have f_hostw : 0 < d.host.length := by omega
    have e_host := Aside0.mk q_host
    clear q_host
    go_enter Try.func91, Try.ntmps91
    go_wp2_with fail
    refine (sh.out _).out.mono ?_
    rintro e w1 ⟨rfl, hb1⟩
    have HB1 := Aside0.mk ((below_alloc (Below.refl w.heap.size w) _).trans (hb1.mono (by simp)))
    obtain ⟨bc, bf⟩ := bcell hb1
    have hz : w.heap.size < w1.heap.size := by have := hb1.size; simp at this; omega
    have hz' : ¬ (w.heap.size = w1.heap.size) := by omega
    clear hb1
    go_wp2_with fail
    go_ret
    refine ⟨?_, (below_alloc HB1.out _)⟩
    rw [decide_eq_false HN.out]; rfl
  have f_hostw : ¬ 0 < d.host.length := by omega
  have e_host := Aside0.mk q_host
  clear q_host
  by_cases q_mail : d.mail.length = 0
  rotate_left
  · have HN : Aside0 (¬ DOk kind d) := ⟨fun h => by obtain ⟨⟨g_lo, g_hi⟩, g_by, g_host, g_mail, g_nu, g_tx⟩ := HD.out.1 h; exact q_mail g_mail⟩
    have f_mailw : 0 < d.mail.length := by omega
    have e_mail := Aside0.mk q_mail
    clear q_mail
    go_enter Try.func91, Try.ntmps91
    go_wp2_with fail
    refine (sh.out _).out.mono ?_
    rintro e w1 ⟨rfl, hb1⟩
    have HB1 := Aside0.mk ((below_alloc (Below.refl w.heap.size w) _).trans (hb1.mono (by simp)))
    obtain ⟨bc, bf⟩ := bcell hb1
    have hz : w.heap.size < w1.heap.size := by have := hb1.size; simp at this; omega
    have hz' : ¬ (w.heap.size = w1.heap.size) := by omega
    clear hb1
    go_wp2_with fail
    go_ret
    refine ⟨?_, (below_alloc HB1.out _)⟩
    rw [decide_eq_false HN.out]; rfl
  have f_mailw : ¬ 0 < d.mail.length := by omega
  have e_mail := Aside0.mk q_mail
  clear q_mail
  have e_any : Aside0 ((d.nums.any fun n => !fits n 0) = false) := ⟨any_nil e_nu.out⟩
  by_cases q_tx : d.texts.length = 0
  rotate_left
  · have HN : Aside0 (¬ DOk kind d) := ⟨fun h => by obtain ⟨⟨g_lo, g_hi⟩, g_by, g_host, g_mail, g_nu, g_tx⟩ := HD.out.1 h; exact q_tx g_tx⟩
    have f_txw : ((d.texts.length : Int) == 0) = false := beq_eq_false_iff_ne.mpr (by omega)
    have e_tx := Aside0.mk q_tx
    clear q_tx
    go_enter Try.func91, Try.ntmps91
    go_wp2_with fail
    refine (sh.out _).out.mono ?_
    rintro e w1 ⟨rfl, hb1⟩
    have HB1 := Aside0.mk ((below_alloc (Below.refl w.heap.size w) _).trans (hb1.mono (by simp)))
    obtain ⟨bc, bf⟩ := bcell hb1
    have hz : w.heap.size < w1.heap.size := by have := hb1.size; simp at this; omega
    have hz' : ¬ (w.heap.size = w1.heap.size) := by omega
    clear hb1
    go_wp2_with fail
    refine (contains_i_v false _ d.nums _ ?_ 119 #[.pointer (some ⟨w1.heap.size, 0, none⟩)] (fun n => !fits n 0) eg1 ?_ (e_any.out)).mono ?_
    · exact RN.out.below pI (below_alloc HB1.out _)
    · exact pays_d1 _ d.nums w1.heap.size 0 r64_0 (by simp [*]) (by simp [*])
    rintro e w2 ⟨rfl, hb2⟩
    have HB2 := Aside0.mk ((below_alloc HB1.out _).trans (hb2.mono (by have := HB1.out.size; simp; omega)))
    have hbx := Aside0.mk hb2
    obtain ⟨bd, bg⟩ := bcell hb2
    have hz2 : w1.heap.size < w2.heap.size := by have := hb2.size; simp at this; omega
    have hz3 : w.heap.size < w2.heap.size := by omega
    clear hb2
    go_wp2_with fail
    go_ret
    refine ⟨?_, HB2.out⟩
    rw [decide_eq_false HN.out]; rfl
  have f_txw : ((d.texts.length : Int) == 0) = true := beq_iff_eq.mpr (by omega)
  have e_tx := Aside0.mk q_tx
  clear q_tx
  have HY : Aside0 (DOk kind d) := ⟨HD.out.2 ⟨⟨e_lo.out, e_hi.out⟩, e_by.out, e_host.out, e_mail.out, e_nu.out, e_tx.out⟩⟩
  go_enter Try.func91, Try.ntmps91
  go_wp2_with fail
  refine (sh.out _).out.mono ?_
  rintro e w1 ⟨rfl, hb1⟩
  have HB1 := Aside0.mk ((below_alloc (Below.refl w.heap.size w) _).trans (hb1.mono (by simp)))
  obtain ⟨bc, bf⟩ := bcell hb1
  have hz : w.heap.size < w1.heap.size := by have := hb1.size; simp at this; omega
  have hz' : ¬ (w.heap.size = w1.heap.size) := by omega
  clear hb1
  go_wp2_with fail
  refine (contains_i_v false _ d.nums _ ?_ 119 #[.pointer (some ⟨w1.heap.size, 0, none⟩)] (fun n => !fits n 0) eg1 ?_ (e_any.out)).mono ?_
  · exact RN.out.below pI (below_alloc HB1.out _)
  · exact pays_d1 _ d.nums w1.heap.size 0 r64_0 (by simp [*]) (by simp [*])
  rintro e w2 ⟨rfl, hb2⟩
  have HB2 := Aside0.mk ((below_alloc HB1.out _).trans (hb2.mono (by have := HB1.out.size; simp; omega)))
  have hbx := Aside0.mk hb2
  obtain ⟨bd, bg⟩ := bcell hb2
  have hz2 : w1.heap.size < w2.heap.size := by have := hb2.size; simp at this; omega
  have hz3 : w.heap.size < w2.heap.size := by omega
  clear hb2
  go_wp2_with fail
  go_ret
  refine ⟨?_, HB2.out⟩
  rw [decide_eq_true HY.out]; rfl
end Go.Proofs.Ytkbjbkmaokebgaa.Gz

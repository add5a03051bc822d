import Derived.Test.YtkbjbkmaokebgaaFs
import Derived.Test.YtkbjbkmaokebgaaMid
set_option linter.unusedVariables false
set_option linter.unusedSimpArgs false
namespace Go.Proofs.Ytkbjbkmaokebgaa.Gz
open Go.RowKit Go.Proofs.YtkbjbkmaokebgaaW.PrintWords
open Ki
/-- May a record be in a message? -/
def recB (r : RR) : Bool := !decide (r.typ = 41) && rrSound r
/-- May a question be? -/
def qB (q : Qn) : Bool := nSound q.name && decide (1 ≤ q.typ) && fits q.typ 2 && fits q.cls 2
/-- What a sound message is known by. -/
def MOk (m : Msg) : Prop := m.qs.length + m.ans.length + m.auth.length + m.extra.length ≤ 512 ∧ ∀ r ∈ m.ans ++ m.auth ++ m.extra, recB r = true
set_option maxHeartbeats 4000000 in
set_option maxRecDepth 100000 in
theorem record_calls (r : RR) (cr : List Value) (w : World) (hr : kR.K w (fun _ => True) r cr) :
    Calls Try.prog 123 #[.agg cr.toArray] w fun e w' => e = .returned (.bool (recB r)) ∧ Below w.heap.size w w' := by
  have HD : Aside0 ((recB r) = true ↔ (¬ r.typ = 41 ∧ rrSound r = true)) := ⟨by unfold recB; simp [Bool.and_eq_true, and_assoc]⟩
  have KR := Aside0.mk hr
  have hr0 := hr
  obtain ⟨v0, cd0, rfl, _, _, _, _, hd0⟩ := hr0
  obtain ⟨d4, d5, d6, d7, d8, rfl, _⟩ := hd0
  obtain ⟨A0, k0, A4, k4, A5, k5, A6, k6, A7, k7, A8, k8, rfl, rfl, rfl, rfl, rfl, rfl⟩ := kR_form hr
  clear hr
  have BX : Aside0 (Below w.heap.size w (w.alloc (.cells #[.slice A0 r.name.length k0, .int .i64 r.typ, .int .i64 r.cls, .int .i64 r.ttl, .slice A4 r.data.bytes.length k4, .slice A5 r.data.host.length k5, .slice A6 r.data.mail.length k6, .slice A7 r.data.nums.length k7, .slice A8 r.data.texts.length k8] 44))) := ⟨below_alloc (Below.refl _ _) _⟩
  have HB0 : Aside0 (Below (w.alloc (.cells #[.slice A0 r.name.length k0, .int .i64 r.typ, .int .i64 r.cls, .int .i64 r.ttl, .slice A4 r.data.bytes.length k4, .slice A5 r.data.host.length k5, .slice A6 r.data.mail.length k6, .slice A7 r.data.nums.length k7, .slice A8 r.data.texts.length k8] 44)).heap.size (w.alloc (.cells #[.slice A0 r.name.length k0, .int .i64 r.typ, .int .i64 r.cls, .int .i64 r.ttl, .slice A4 r.data.bytes.length k4, .slice A5 r.data.host.length k5, .slice A6 r.data.mail.length k6, .slice A7 r.data.nums.length k7, .slice A8 r.data.texts.length k8] 44)) (w.alloc (.cells #[.slice A0 r.name.length k0, .int .i64 r.typ, .int .i64 r.cls, .int .i64 r.ttl, .slice A4 r.data.bytes.length k4, .slice A5 r.data.host.length k5, .slice A6 r.data.mail.length k6, .slice A7 r.data.nums.length k7, .slice A8 r.data.texts.length k8] 44))) := ⟨Below.refl _ _⟩
  by_cases q_t : ¬ r.typ = 41
  rotate_left
  · have HN : Aside0 ((recB r) = false) := ⟨eq_false_of_ne_true fun h => q_t (by obtain ⟨g_t, g_s⟩ := HD.out.1 h; exact g_t)⟩
    have f_t : (r.typ != 41) = false := by rw [bne_eq_false_iff_eq]; exact Classical.not_not.1 q_t
    have e_t := Aside0.mk q_t
    clear q_t
    go_enter Try.func123, Try.ntmps123
    go_wp2_with fail
    go_ret
    refine ⟨?_, (BX.out.trans (HB0.out.mono (by simp; try omega)))⟩
    rw [HN.out]; rfl
  have f_t : (r.typ != 41) = true := bne_iff_ne.mpr q_t
  have e_t := Aside0.mk q_t
  clear q_t
  by_cases q_s : rrSound r = true
  rotate_left
  · have HN : Aside0 ((recB r) = false) := ⟨eq_false_of_ne_true fun h => q_s (by obtain ⟨g_t, g_s⟩ := HD.out.1 h; exact g_s)⟩
    have e_s := Aside0.mk q_s
    clear q_s
    go_enter Try.func123, Try.ntmps123
    go_wp2_with fail
    refine (bv (rrsound_calls r _ _ (K_below KR.out (BX.out.trans (HB0.out.mono (by simp; try omega))))) (eq_false_of_ne_true e_s.out)).mono ?_
    rintro e w1 ⟨rfl, hb1⟩
    have HB1 := Aside0.mk (HB0.out.trans (hb1.mono HB0.out.size))
    clear hb1
    obtain ⟨bc, bf⟩ := bcell HB1.out
    go_wp2_with fail
    go_ret
    refine ⟨?_, (BX.out.trans (HB1.out.mono (by simp; try omega)))⟩
    rw [HN.out]; rfl
  have e_s := Aside0.mk q_s
  clear q_s
  have HY : Aside0 ((recB r) = true) := ⟨HD.out.2 ⟨e_t.out, e_s.out⟩⟩
  go_enter Try.func123, Try.ntmps123
  go_wp2_with fail
  refine (bv (rrsound_calls r _ _ (K_below KR.out (BX.out.trans (HB0.out.mono (by simp; try omega))))) (e_s.out)).mono ?_
  rintro e w1 ⟨rfl, hb1⟩
  have HB1 := Aside0.mk (HB0.out.trans (hb1.mono HB0.out.size))
  clear hb1
  obtain ⟨bc, bf⟩ := bcell HB1.out
  go_wp2_with fail
  go_ret
  refine ⟨?_, (BX.out.trans (HB1.out.mono (by simp; try omega)))⟩
  rw [HY.out]; rfl
set_option maxHeartbeats 1000000 in
theorem record1_calls (r : RR) (cr : List Value) (w : World) (hr : kR.K w (fun _ => True) r cr) :
    Calls Try.prog 122 #[.agg cr.toArray] w fun e w' => e = .returned (.bool (!recB r)) ∧ Below w.heap.size w w' := by
  have KR := Aside0.mk hr
  have hr0 := hr
  obtain ⟨v0, cd0, rfl, _, _, _, _, hd0⟩ := hr0
  obtain ⟨d4, d5, d6, d7, d8, rfl, _⟩ := hd0
  obtain ⟨A0, k0, A4, k4, A5, k5, A6, k6, A7, k7, A8, k8, rfl, rfl, rfl, rfl, rfl, rfl⟩ := kR_form hr
  clear hr
  have BX : Aside0 (Below w.heap.size w (w.alloc (.cells #[.slice A0 r.name.length k0, .int .i64 r.typ, .int .i64 r.cls, .int .i64 r.ttl, .slice A4 r.data.bytes.length k4, .slice A5 r.data.host.length k5, .slice A6 r.data.mail.length k6, .slice A7 r.data.nums.length k7, .slice A8 r.data.texts.length k8] 44))) := ⟨below_alloc (Below.refl _ _) _⟩
  go_enter Try.func122, Try.ntmps122
  go_wp2_with fail
  refine (record_calls r _ _ (K_below KR.out BX.out)).mono ?_
  rintro e w1 ⟨rfl, hb1⟩
  have HB := Aside0.mk (BX.out.trans (hb1.mono (by simp)))
  clear hb1
  go_wp2_with fail
  go_ret
  exact ⟨rfl, HB.out⟩
theorem pays_record (w : World) (xs : List RR) : Pays kR valN 122 #[] w xs (fun r => !recB r) := by
  intro W x cs hx hb hK
  exact record1_calls x cs W hK
set_option maxHeartbeats 4000000 in
set_option maxRecDepth 100000 in
theorem question_calls (q : Qn) (cq : List Value) (w : World) (hq : kQ.K w (fun _ => True) q cq) :
    Calls Try.prog 126 #[.agg cq.toArray] w fun e w' => e = .returned (.bool (qB q)) ∧ Below w.heap.size w w' := by
  have HD : Aside0 ((qB q) = true ↔ (nSound q.name = true ∧ 1 ≤ q.typ ∧ fits q.typ 2 = true ∧ fits q.cls 2 = true)) := ⟨by unfold qB; simp [Bool.and_eq_true, and_assoc]⟩
  obtain ⟨vn, rfl, hn, ht, hc⟩ := hq
  have KQ : Aside0 (kQ.K w (fun _ => True) q [vn, .int .i64 q.typ, .int .i64 q.cls]) := ⟨⟨_, rfl, hn, ht, hc⟩⟩
  have RN := Aside0.mk hn
  have RT := Aside0.mk ht
  have RC := Aside0.mk hc
  obtain ⟨A0, k0, rfl, _, _⟩ := hn
  clear ht hc
  have BX : Aside0 (Below w.heap.size w (w.alloc (.cells #[.slice A0 q.name.length k0, .int .i64 q.typ, .int .i64 q.cls] 27))) := ⟨below_alloc (Below.refl _ _) _⟩
  have HB0 : Aside0 (Below (w.alloc (.cells #[.slice A0 q.name.length k0, .int .i64 q.typ, .int .i64 q.cls] 27)).heap.size (w.alloc (.cells #[.slice A0 q.name.length k0, .int .i64 q.typ, .int .i64 q.cls] 27)) (w.alloc (.cells #[.slice A0 q.name.length k0, .int .i64 q.typ, .int .i64 q.cls] 27))) := ⟨Below.refl _ _⟩
  by_cases q_n : nSound q.name = true
  rotate_left
  · have HN : Aside0 ((qB q) = false) := ⟨eq_false_of_ne_true fun h => q_n (by obtain ⟨g_n, g_t, g_f, g_g⟩ := HD.out.1 h; exact g_n)⟩
    have e_n := Aside0.mk q_n
    clear q_n
    go_enter Try.func126, Try.ntmps126
    go_wp2_with fail
    refine (bv (sound_calls _ q.name _ (RN.out.below pS (BX.out.trans (HB0.out.mono (by simp; try omega))))) (eq_false_of_ne_true e_n.out)).mono ?_
    rintro e w1 ⟨rfl, hb1⟩
    have HB1 := Aside0.mk (HB0.out.trans (hb1.mono HB0.out.size))
    clear hb1
    obtain ⟨bc, bf⟩ := bcell HB1.out
    go_wp2_with fail
    go_ret
    refine ⟨?_, (BX.out.trans (HB1.out.mono (by simp; try omega)))⟩
    rw [HN.out]; rfl
  have e_n := Aside0.mk q_n
  clear q_n
  by_cases q_t : 1 ≤ q.typ
  rotate_left
  · have HN : Aside0 ((qB q) = false) := ⟨eq_false_of_ne_true fun h => q_t (by obtain ⟨g_n, g_t, g_f, g_g⟩ := HD.out.1 h; exact g_t)⟩
    have f_t : ¬ 1 ≤ q.typ := by omega
    have g_t : decide (1 ≤ q.typ) = false := decide_eq_false f_t
    have e_t := Aside0.mk q_t
    clear q_t
    go_enter Try.func126, Try.ntmps126
    go_wp2_with fail
    refine (bv (sound_calls _ q.name _ (RN.out.below pS (BX.out.trans (HB0.out.mono (by simp; try omega))))) (e_n.out)).mono ?_
    rintro e w1 ⟨rfl, hb1⟩
    have HB1 := Aside0.mk (HB0.out.trans (hb1.mono HB0.out.size))
    clear hb1
    obtain ⟨bc, bf⟩ := bcell HB1.out
    go_wp2_with fail
    go_ret
    refine ⟨?_, (BX.out.trans (HB1.out.mono (by simp; try omega)))⟩
    rw [HN.out]; rfl
  have f_t : 1 ≤ q.typ := by omega
  have g_t : decide (1 ≤ q.typ) = true := decide_eq_true f_t
  have e_t := Aside0.mk q_t
  clear q_t
  by_cases q_f : fits q.typ 2 = true
  rotate_left
  · have HN : Aside0 ((qB q) = false) := ⟨eq_false_of_ne_true fun h => q_f (by obtain ⟨g_n, g_t, g_f, g_g⟩ := HD.out.1 h; exact g_f)⟩
    have e_f := Aside0.mk q_f
    clear q_f
    go_enter Try.func126, Try.ntmps126
    go_wp2_with fail
    refine (bv (sound_calls _ q.name _ (RN.out.below pS (BX.out.trans (HB0.out.mono (by simp; try omega))))) (e_n.out)).mono ?_
    rintro e w1 ⟨rfl, hb1⟩
    have HB1 := Aside0.mk (HB0.out.trans (hb1.mono HB0.out.size))
    clear hb1
    obtain ⟨bc, bf⟩ := bcell HB1.out
    go_wp2_with fail
    refine (bv (fits_calls q.typ 2 _ RT.out r64_2) (eq_false_of_ne_true e_f.out)).mono ?_
    rintro e w2 ⟨rfl, rfl⟩
    have HB2 := HB1
    go_wp2_with fail
    go_ret
    refine ⟨?_, (BX.out.trans (HB2.out.mono (by simp; try omega)))⟩
    rw [HN.out]; rfl
  have e_f := Aside0.mk q_f
  clear q_f
  by_cases q_g : fits q.cls 2 = true
  rotate_left
  · have HN : Aside0 ((qB q) = false) := ⟨eq_false_of_ne_true fun h => q_g (by obtain ⟨g_n, g_t, g_f, g_g⟩ := HD.out.1 h; exact g_g)⟩
    have e_g := Aside0.mk q_g
    clear q_g
    go_enter Try.func126, Try.ntmps126
    go_wp2_with fail
    refine (bv (sound_calls _ q.name _ (RN.out.below pS (BX.out.trans (HB0.out.mono (by simp; try omega))))) (e_n.out)).mono ?_
    rintro e w1 ⟨rfl, hb1⟩
    have HB1 := Aside0.mk (HB0.out.trans (hb1.mono HB0.out.size))
    clear hb1
    obtain ⟨bc, bf⟩ := bcell HB1.out
    go_wp2_with fail
    refine (bv (fits_calls q.typ 2 _ RT.out r64_2) (e_f.out)).mono ?_
    rintro e w2 ⟨rfl, rfl⟩
    have HB2 := HB1
    go_wp2_with fail
    refine (bv (fits_calls q.cls 2 _ RC.out r64_2) (eq_false_of_ne_true e_g.out)).mono ?_
    rintro e w3 ⟨rfl, rfl⟩
    have HB3 := HB2
    go_wp2_with fail
    go_ret
    refine ⟨?_, (BX.out.trans (HB3.out.mono (by simp; try omega)))⟩
    rw [HN.out]; rfl
  have e_g := Aside0.mk q_g
  clear q_g
  have HY : Aside0 ((qB q) = true) := ⟨HD.out.2 ⟨e_n.out, e_t.out, e_f.out, e_g.out⟩⟩
  go_enter Try.func126, Try.ntmps126
  go_wp2_with fail
  refine (bv (sound_calls _ q.name _ (RN.out.below pS (BX.out.trans (HB0.out.mono (by simp; try omega))))) (e_n.out)).mono ?_
  rintro e w1 ⟨rfl, hb1⟩
  have HB1 := Aside0.mk (HB0.out.trans (hb1.mono HB0.out.size))
  clear hb1
  obtain ⟨bc, bf⟩ := bcell HB1.out
  go_wp2_with fail
  refine (bv (fits_calls q.typ 2 _ RT.out r64_2) (e_f.out)).mono ?_
  rintro e w2 ⟨rfl, rfl⟩
  have HB2 := HB1
  go_wp2_with fail
  refine (bv (fits_calls q.cls 2 _ RC.out r64_2) (e_g.out)).mono ?_
  rintro e w3 ⟨rfl, rfl⟩
  have HB3 := HB2
  go_wp2_with fail
  go_ret
  refine ⟨?_, (BX.out.trans (HB3.out.mono (by simp; try omega)))⟩
  rw [HY.out]; rfl
set_option maxHeartbeats 1000000 in
theorem question1_calls (q : Qn) (cq : List Value) (w : World) (hq : kQ.K w (fun _ => True) q cq) :
    Calls Try.prog 125 #[.agg cq.toArray] w fun e w' => e = .returned (.bool (!qB q)) ∧ Below w.heap.size w w' := by
  obtain ⟨vn, rfl, hn, ht, hc⟩ := hq
  have KQ : Aside0 (kQ.K w (fun _ => True) q [vn, .int .i64 q.typ, .int .i64 q.cls]) := ⟨⟨_, rfl, hn, ht, hc⟩⟩
  have RN := Aside0.mk hn
  have RT := Aside0.mk ht
  have RC := Aside0.mk hc
  obtain ⟨A0, k0, rfl, _, _⟩ := hn
  clear ht hc
  have BX : Aside0 (Below w.heap.size w (w.alloc (.cells #[.slice A0 q.name.length k0, .int .i64 q.typ, .int .i64 q.cls] 27))) := ⟨below_alloc (Below.refl _ _) _⟩
  go_enter Try.func125, Try.ntmps125
  go_wp2_with fail
  refine (question_calls q _ _ (K_below KQ.out BX.out)).mono ?_
  rintro e w1 ⟨rfl, hb1⟩
  have HB := Aside0.mk (BX.out.trans (hb1.mono (by simp)))
  clear hb1
  go_wp2_with fail
  go_ret
  exact ⟨rfl, HB.out⟩
theorem pays_question (w : World) (xs : List Qn) : Pays kQ valN 125 #[] w xs (fun q => !qB q) := by
  intro W x cs hx hb hK
  exact question1_calls x cs W hK
set_option maxHeartbeats 2000000 in
theorem sections_calls (M : Nat) (w : World) (hM : M < w.heap.size) :
    Calls Try.prog 121 #[.pointer (some ⟨M, 0, none⟩)] w fun e w' => e = .returned (.slice (some ⟨w.heap.size, 0, none⟩) 3 3) ∧ w'.cell? ⟨w.heap.size, 0, none⟩ = some (.pointer (some ⟨M, 9, none⟩)) ∧ w'.cell? ⟨w.heap.size, 1, none⟩ = some (.pointer (some ⟨M, 10, none⟩)) ∧ w'.cell? ⟨w.heap.size, 2, none⟩ = some (.pointer (some ⟨M, 11, none⟩)) ∧ Below w.heap.size w w' ∧ w.heap.size < w'.heap.size := by
  go_enter Try.func121, Try.ntmps121
  go_wp2_with fail
  go_region
  all_goals go_wp2
  all_goals go_ret
  all_goals exact ⟨rfl, by simp, by simp, by simp, (below_alloc (Below.refl w.heap.size w) _).drew, by simp⟩
def mSec (m : Msg) : Nat → List RR | 0 => m.ans | 1 => m.auth | _ => m.extra
def mTot (m : Msg) : Nat → Nat | 0 => m.qs.length | k + 1 => mTot m k + (mSec m k).length
theorem mTot_3 (m : Msg) : mTot m 3 = m.qs.length + m.ans.length + m.auth.length + m.extra.length := rfl
/-- A call tells whether a message may be; where it may be, it is so. -/
def TellsM (m : Msg) (w : World) (e : Ending) (w' : World) : Prop := ∃ b, e = .returned (.bool b) ∧ (b = true → MOk m) ∧ Below w.heap.size w w'
theorem TellsM.no {m : Msg} {w w' : World} (h : Below w.heap.size w w') : TellsM m w (.returned (.bool false)) w' := ⟨false, rfl, (fun e => by cases e), h⟩
theorem sec_small {w : World} {ok : Nat → Prop} {v : Value} {l : List RR} (h : kR.Rd w ok v l) : l.length ≤ 1000000000000 := by
  have h1 := h.room
  have e : kR.bytes = 168 := rfl
  rw [e] at h1
  unfold B47 at h1
  omega
theorem qs_small {w : World} {ok : Nat → Prop} {v : Value} {l : List Qn} (h : kQ.Rd w ok v l) : l.length ≤ 4000000000000 := by
  have h1 := h.room
  have e : kQ.bytes = 40 := rfl
  rw [e] at h1
  unfold B47 at h1
  omega
set_option maxHeartbeats 16000000 in
set_option maxRecDepth 100000 in
theorem msound_calls (m : Msg) (cm : List Value) (w : World) (hm : kM.K w (fun _ => True) m cm) :
    Calls Try.prog 92 #[.agg cm.toArray] w (TellsM m w) := by
  have hm0 := hm
  obtain ⟨A8, k8, A9, k9, A10, k10, A11, k11, rfl, r8, r9, r10, r11⟩ := kM_form hm
  obtain ⟨_, _, _, _, heq0, hid, hop, hrc, _, _, _, _, hsz⟩ := hm0
  have RQ := Aside0.mk r8
  have RA := Aside0.mk r9
  have RB := Aside0.mk r10
  have RE := Aside0.mk r11
  have HID := Aside0.mk (And.intro hid hsz)
  have hq8 := qs_small r8
  have hl9 := sec_small r9
  have hl10 := sec_small r10
  have hl11 := sec_small r11
  clear heq0 hm r8 r9 r10 r11 hid hop hrc hsz
  have eg : ∀ args w, (callFunc 122 args).run Try.prog w = .ok (.enter 122 args) w := enters Try.func122 (by kernel_rfl) rfl
  have eq : ∀ args w, (callFunc 125 args).run Try.prog w = .ok (.enter 125 args) w := enters Try.func125 (by kernel_rfl) rfl
  generalize hW0 : w.alloc (.cells #[.int .i64 m.id, .bool m.resp, .int .i64 m.opc, .bool m.aa, .bool m.tc, .bool m.rd, .bool m.ra, .int .i64 m.rcode, .slice A8 m.qs.length k8, .slice A9 m.ans.length k9, .slice A10 m.auth.length k10, .slice A11 m.extra.length k11, .bool m.edns, .int .i64 m.size] 35) = W0
  have HW0 := Aside0.mk hW0
  have BX : Aside0 (Below w.heap.size w W0) := ⟨by rw [← hW0]; exact below_alloc (Below.refl _ _) _⟩
  have hl0 : w.heap.size < W0.heap.size := by rw [← hW0]; simp
  have u0 : W0.cell? ⟨w.heap.size, 0, none⟩ = some (.int .i64 m.id) := by rw [← hW0, cellN rfl]; rfl
  have u2 : W0.cell? ⟨w.heap.size, 2, none⟩ = some (.int .i64 m.opc) := by rw [← hW0, cellN rfl]; rfl
  have u7 : W0.cell? ⟨w.heap.size, 7, none⟩ = some (.int .i64 m.rcode) := by rw [← hW0, cellN rfl]; rfl
  have u8 : W0.cell? ⟨w.heap.size, 8, none⟩ = some (.slice A8 m.qs.length k8) := by rw [← hW0, cellN rfl]; rfl
  have u9 : W0.cell? ⟨w.heap.size, 9, none⟩ = some (.slice A9 m.ans.length k9) := by rw [← hW0, cellN rfl]; rfl
  have u10 : W0.cell? ⟨w.heap.size, 10, none⟩ = some (.slice A10 m.auth.length k10) := by rw [← hW0, cellN rfl]; rfl
  have u11 : W0.cell? ⟨w.heap.size, 11, none⟩ = some (.slice A11 m.extra.length k11) := by rw [← hW0, cellN rfl]; rfl
  have u12 : W0.cell? ⟨w.heap.size, 12, none⟩ = some (.bool m.edns) := by rw [← hW0, cellN rfl]; rfl
  have u13 : W0.cell? ⟨w.heap.size, 13, none⟩ = some (.int .i64 m.size) := by rw [← hW0, cellN rfl]; rfl
  clear hW0
  go_enter Try.func92, Try.ntmps92
  go_wp2_with fail
  rw [HW0.out]
  refine (sections_calls w.heap.size W0 hl0).mono ?_
  rintro e w1 ⟨rfl, s0, s1, s2, hb1, hz1⟩
  have S := Aside0.mk (And.intro s0 (And.intro s1 s2))
  have HB1 := Aside0.mk hb1
  have BW1 : Aside0 (Below w.heap.size w w1) := ⟨BX.out.trans (hb1.mono BX.out.size)⟩
  have hM1 : w.heap.size < w1.heap.size := Nat.lt_trans hl0 hz1
  have U : Aside0 (w1.cell? ⟨w.heap.size, 0, none⟩ = some (.int .i64 m.id) ∧ w1.cell? ⟨w.heap.size, 2, none⟩ = some (.int .i64 m.opc) ∧ w1.cell? ⟨w.heap.size, 7, none⟩ = some (.int .i64 m.rcode) ∧ w1.cell? ⟨w.heap.size, 8, none⟩ = some (.slice A8 m.qs.length k8) ∧ w1.cell? ⟨w.heap.size, 9, none⟩ = some (.slice A9 m.ans.length k9) ∧ w1.cell? ⟨w.heap.size, 10, none⟩ = some (.slice A10 m.auth.length k10) ∧ w1.cell? ⟨w.heap.size, 11, none⟩ = some (.slice A11 m.extra.length k11) ∧ w1.cell? ⟨w.heap.size, 12, none⟩ = some (.bool m.edns) ∧ w1.cell? ⟨w.heap.size, 13, none⟩ = some (.int .i64 m.size)) := ⟨(hb1.cell (p := ⟨w.heap.size, 0, none⟩) hl0).trans u0, (hb1.cell (p := ⟨w.heap.size, 2, none⟩) hl0).trans u2, (hb1.cell (p := ⟨w.heap.size, 7, none⟩) hl0).trans u7, (hb1.cell (p := ⟨w.heap.size, 8, none⟩) hl0).trans u8, (hb1.cell (p := ⟨w.heap.size, 9, none⟩) hl0).trans u9, (hb1.cell (p := ⟨w.heap.size, 10, none⟩) hl0).trans u10, (hb1.cell (p := ⟨w.heap.size, 11, none⟩) hl0).trans u11, (hb1.cell (p := ⟨w.heap.size, 12, none⟩) hl0).trans u12, (hb1.cell (p := ⟨w.heap.size, 13, none⟩) hl0).trans u13⟩
  clear hb1 s0 s1 s2 u0 u2 u7 u8 u9 u10 u11 u12 u13
  go_wp2_with fail
  go_loopg [3, 5, 11] 3 (fun gg s3 _ s11 wr => ∃ k : Nat, k ≤ 3 ∧ 3 - k ≤ gg ∧ s11 = .int .i64 k ∧ s3 = .int .i64 (mTot m k : Nat) ∧ Aside0 (0 < k → mTot m k ≤ 512) ∧ Aside0 (Below w1.heap.size w1 wr) ∧ Aside0 (∀ j, j < k → ∀ r ∈ mSec m j, recB r = true))
  case atStart => exact ⟨0, by omega, by omega, rfl, rfl, ⟨fun h => by omega⟩, ⟨Below.refl _ _⟩, ⟨fun j hj => by omega⟩⟩
  case round =>
    obtain ⟨k, hk, hg, rfl, rfl, HT, HB, HR⟩ := hrel
    have BWR : Aside0 (Below w.heap.size w wr) := ⟨BW1.out.trans (HB.out.mono BW1.out.size)⟩
    rcases (show k = 0 ∨ k = 1 ∨ k = 2 ∨ k = 3 from by omega) with rfl | rfl | rfl | rfl
    · have p0 := (HB.out.cell (p := ⟨W0.heap.size, 0, none⟩) hz1).trans S.out.1
      have c0 := (HB.out.cell (p := ⟨w.heap.size, 9, none⟩) hM1).trans U.out.2.2.2.2.1
      have ht : mTot m 0 ≤ 4000000000000 := by
        exact hq8
      have HT2 : Aside0 (mTot m 1 = mTot m 0 + m.ans.length) := ⟨rfl⟩
      generalize mTot m 0 = t at ht HT2
      by_cases big : 512 < t + m.ans.length
      · have hb : (512 : Int) < (t : Int) + (m.ans.length : Int) := by omega
        go_wp2_with fail
        go_ret
        exact TellsM.no BWR.out
      · have hb : ¬ (512 : Int) < (t : Int) + (m.ans.length : Int) := by omega
        have BIG := Aside0.mk big
        cases hq : m.ans.any fun r => !recB r with
        | true =>
          have HQ := Aside0.mk hq
          clear hq
          go_wp2_with fail
          refine (contains_r_v true _ _ _ (RA.out.below pR BWR.out) _ _ _ eg (pays_record _ _) HQ.out).mono ?_
          rintro e w2 ⟨rfl, hb2⟩
          have BF : Aside0 (Below w.heap.size w w2) := ⟨BWR.out.trans (hb2.mono BWR.out.size)⟩
          clear hb2
          go_wp2_with fail
          go_ret
          exact TellsM.no BF.out
        | false =>
          have HQ := Aside0.mk hq
          clear hq
          go_wp2_with fail
          refine (contains_r_v false _ _ _ (RA.out.below pR BWR.out) _ _ _ eg (pays_record _ _) HQ.out).mono ?_
          rintro e w2 ⟨rfl, hb2⟩
          have B2 : Aside0 (Below w1.heap.size w1 w2) := ⟨HB.out.trans (hb2.mono HB.out.size)⟩
          clear hb2
          go_wp2_with fail
          go_roundg (3 - 1)
          case measure => omega
          case rel =>
            refine ⟨1, by omega, by omega, by go_num, by rw [HT2.out]; go_num, ⟨fun _ => by rw [HT2.out]; have := BIG.out; omega⟩, B2, ⟨fun j hj r hr => ?_⟩⟩
            rcases Nat.lt_or_ge j 0 with h | h
            · exact HR.out j h r hr
            · obtain rfl : j = 0 := by omega
              have h1 := HQ.out
              rw [List.any_eq_false] at h1
              have h2 := h1 r hr
              simpa using h2
    · have p0 := (HB.out.cell (p := ⟨W0.heap.size, 1, none⟩) hz1).trans S.out.2.1
      have c0 := (HB.out.cell (p := ⟨w.heap.size, 10, none⟩) hM1).trans U.out.2.2.2.2.2.1
      have ht : mTot m 1 ≤ 4000000000000 := by
        have := HT.out (by omega); omega
      have HT2 : Aside0 (mTot m 2 = mTot m 1 + m.auth.length) := ⟨rfl⟩
      generalize mTot m 1 = t at ht HT2
      by_cases big : 512 < t + m.auth.length
      · have hb : (512 : Int) < (t : Int) + (m.auth.length : Int) := by omega
        go_wp2_with fail
        go_ret
        exact TellsM.no BWR.out
      · have hb : ¬ (512 : Int) < (t : Int) + (m.auth.length : Int) := by omega
        have BIG := Aside0.mk big
        cases hq : m.auth.any fun r => !recB r with
        | true =>
          have HQ := Aside0.mk hq
          clear hq
          go_wp2_with fail
          refine (contains_r_v true _ _ _ (RB.out.below pR BWR.out) _ _ _ eg (pays_record _ _) HQ.out).mono ?_
          rintro e w2 ⟨rfl, hb2⟩
          have BF : Aside0 (Below w.heap.size w w2) := ⟨BWR.out.trans (hb2.mono BWR.out.size)⟩
          clear hb2
          go_wp2_with fail
          go_ret
          exact TellsM.no BF.out
        | false =>
          have HQ := Aside0.mk hq
          clear hq
          go_wp2_with fail
          refine (contains_r_v false _ _ _ (RB.out.below pR BWR.out) _ _ _ eg (pays_record _ _) HQ.out).mono ?_
          rintro e w2 ⟨rfl, hb2⟩
          have B2 : Aside0 (Below w1.heap.size w1 w2) := ⟨HB.out.trans (hb2.mono HB.out.size)⟩
          clear hb2
          go_wp2_with fail
          go_roundg (3 - 2)
          case measure => omega
          case rel =>
            refine ⟨2, by omega, by omega, by go_num, by rw [HT2.out]; go_num, ⟨fun _ => by rw [HT2.out]; have := BIG.out; omega⟩, B2, ⟨fun j hj r hr => ?_⟩⟩
            rcases Nat.lt_or_ge j 1 with h | h
            · exact HR.out j h r hr
            · obtain rfl : j = 1 := by omega
              have h1 := HQ.out
              rw [List.any_eq_false] at h1
              have h2 := h1 r hr
              simpa using h2
    · have p0 := (HB.out.cell (p := ⟨W0.heap.size, 2, none⟩) hz1).trans S.out.2.2
      have c0 := (HB.out.cell (p := ⟨w.heap.size, 11, none⟩) hM1).trans U.out.2.2.2.2.2.2.1
      have ht : mTot m 2 ≤ 4000000000000 := by
        have := HT.out (by omega); omega
      have HT2 : Aside0 (mTot m 3 = mTot m 2 + m.extra.length) := ⟨rfl⟩
      generalize mTot m 2 = t at ht HT2
      by_cases big : 512 < t + m.extra.length
      · have hb : (512 : Int) < (t : Int) + (m.extra.length : Int) := by omega
        go_wp2_with fail
        go_ret
        exact TellsM.no BWR.out
      · have hb : ¬ (512 : Int) < (t : Int) + (m.extra.length : Int) := by omega
        have BIG := Aside0.mk big
        cases hq : m.extra.any fun r => !recB r with
        | true =>
          have HQ := Aside0.mk hq
          clear hq
          go_wp2_with fail
          refine (contains_r_v true _ _ _ (RE.out.below pR BWR.out) _ _ _ eg (pays_record _ _) HQ.out).mono ?_
          rintro e w2 ⟨rfl, hb2⟩
          have BF : Aside0 (Below w.heap.size w w2) := ⟨BWR.out.trans (hb2.mono BWR.out.size)⟩
          clear hb2
          go_wp2_with fail
          go_ret
          exact TellsM.no BF.out
        | false =>
          have HQ := Aside0.mk hq
          clear hq
          go_wp2_with fail
          refine (contains_r_v false _ _ _ (RE.out.below pR BWR.out) _ _ _ eg (pays_record _ _) HQ.out).mono ?_
          rintro e w2 ⟨rfl, hb2⟩
          have B2 : Aside0 (Below w1.heap.size w1 w2) := ⟨HB.out.trans (hb2.mono HB.out.size)⟩
          clear hb2
          go_wp2_with fail
          go_roundg (3 - 3)
          case measure => omega
          case rel =>
            refine ⟨3, by omega, by omega, by go_num, by rw [HT2.out]; go_num, ⟨fun _ => by rw [HT2.out]; have := BIG.out; omega⟩, B2, ⟨fun j hj r hr => ?_⟩⟩
            rcases Nat.lt_or_ge j 2 with h | h
            · exact HR.out j h r hr
            · obtain rfl : j = 2 := by omega
              have h1 := HQ.out
              rw [List.any_eq_false] at h1
              have h2 := h1 r hr
              simpa using h2
    · have ht := HT.out (by omega)
      have HT3 := Aside0.mk ht
      generalize mTot m 3 = t at ht
      have ht' : (t : Int) ≤ 512 := by omega
      have c0 := (HB.out.cell (p := ⟨w.heap.size, 0, none⟩) hM1).trans U.out.1
      have c2 := (HB.out.cell (p := ⟨w.heap.size, 2, none⟩) hM1).trans U.out.2.1
      have c7 := (HB.out.cell (p := ⟨w.heap.size, 7, none⟩) hM1).trans U.out.2.2.1
      have c8 := (HB.out.cell (p := ⟨w.heap.size, 8, none⟩) hM1).trans U.out.2.2.2.1
      have c12 := (HB.out.cell (p := ⟨w.heap.size, 12, none⟩) hM1).trans U.out.2.2.2.2.2.2.2.1
      have c13 := (HB.out.cell (p := ⟨w.heap.size, 13, none⟩) hM1).trans U.out.2.2.2.2.2.2.2.2
      cases f1 : fits m.id 2 with
      | false =>
        have Hf1 := Aside0.mk f1
        clear f1
        go_wp2_with fail
        refine (bv (fits_calls m.id 2 _ HID.out.1 r64_2) Hf1.out).mono ?_
        rintro e wx ⟨rfl, rfl⟩
        go_wp2_with fail
        go_ret
        exact TellsM.no BWR.out
      | true =>
        have Hf1 := Aside0.mk f1
        clear f1
        by_cases o0 : (0 : Int) ≤ m.opc
        rotate_left
        · have go0 : decide ((0 : Int) ≤ m.opc) = false := decide_eq_false o0
          go_wp2_with fail
          refine (bv (fits_calls m.id 2 _ HID.out.1 r64_2) Hf1.out).mono ?_
          rintro e wx ⟨rfl, rfl⟩
          go_wp2_with fail
          go_ret
          exact TellsM.no BWR.out
        have go0 : decide ((0 : Int) ≤ m.opc) = true := decide_eq_true o0
        by_cases o1 : m.opc < 16
        rotate_left
        · have go1 : decide (m.opc < 16) = false := decide_eq_false o1
          go_wp2_with fail
          refine (bv (fits_calls m.id 2 _ HID.out.1 r64_2) Hf1.out).mono ?_
          rintro e wx ⟨rfl, rfl⟩
          go_wp2_with fail
          go_ret
          exact TellsM.no BWR.out
        have go1 : decide (m.opc < 16) = true := decide_eq_true o1
        by_cases r0 : (0 : Int) ≤ m.rcode
        rotate_left
        · have gr0 : decide ((0 : Int) ≤ m.rcode) = false := decide_eq_false r0
          go_wp2_with fail
          refine (bv (fits_calls m.id 2 _ HID.out.1 r64_2) Hf1.out).mono ?_
          rintro e wx ⟨rfl, rfl⟩
          go_wp2_with fail
          go_ret
          exact TellsM.no BWR.out
        have gr0 : decide ((0 : Int) ≤ m.rcode) = true := decide_eq_true r0
        by_cases r1 : m.rcode < 16
        rotate_left
        · have gr1 : decide (m.rcode < 16) = false := decide_eq_false r1
          go_wp2_with fail
          refine (bv (fits_calls m.id 2 _ HID.out.1 r64_2) Hf1.out).mono ?_
          rintro e wx ⟨rfl, rfl⟩
          go_wp2_with fail
          go_ret
          exact TellsM.no BWR.out
        have gr1 : decide (m.rcode < 16) = true := decide_eq_true r1
        cases f2 : fits m.size 2 with
        | false =>
          have Hf2 := Aside0.mk f2
          clear f2
          go_wp2_with fail
          refine (bv (fits_calls m.id 2 _ HID.out.1 r64_2) Hf1.out).mono ?_
          rintro e wx ⟨rfl, rfl⟩
          go_wp2_with fail
          refine (bv (fits_calls m.size 2 _ HID.out.2 r64_2) Hf2.out).mono ?_
          rintro e wx ⟨rfl, rfl⟩
          go_wp2_with fail
          go_ret
          exact TellsM.no BWR.out
        | true =>
          have Hf2 := Aside0.mk f2
          clear f2
          cases hed : m.edns with
          | false =>
            rw [hed] at c12
            by_cases z0 : m.size = 0
            rotate_left
            · have gz0 : (m.size == 0) = false := beq_eq_false_iff_ne.mpr z0
              go_wp2_with fail
              refine (bv (fits_calls m.id 2 _ HID.out.1 r64_2) Hf1.out).mono ?_
              rintro e wx ⟨rfl, rfl⟩
              go_wp2_with fail
              refine (bv (fits_calls m.size 2 _ HID.out.2 r64_2) Hf2.out).mono ?_
              rintro e wx ⟨rfl, rfl⟩
              go_wp2_with fail
              go_ret
              exact TellsM.no BWR.out
            have gz0 : (m.size == 0) = true := beq_iff_eq.mpr z0
            clear hed z0
            cases hq : m.qs.any fun q => !qB q with
            | true =>
              have HQ := Aside0.mk hq
              clear hq
              go_wp2_with fail
              refine (bv (fits_calls m.id 2 _ HID.out.1 r64_2) Hf1.out).mono ?_
              rintro e wx ⟨rfl, rfl⟩
              go_wp2_with fail
              refine (bv (fits_calls m.size 2 _ HID.out.2 r64_2) Hf2.out).mono ?_
              rintro e wx ⟨rfl, rfl⟩
              go_wp2_with fail
              refine (contains_q_v true _ _ _ (RQ.out.below pQ BWR.out) _ _ _ eq (pays_question _ _) HQ.out).mono ?_
              rintro e w2 ⟨rfl, hb2⟩
              have BF : Aside0 (Below w.heap.size w w2) := ⟨BWR.out.trans (hb2.mono BWR.out.size)⟩
              clear hb2
              go_wp2_with fail
              go_ret
              exact TellsM.no BF.out
            | false =>
              have HQ := Aside0.mk hq
              clear hq
              go_wp2_with fail
              refine (bv (fits_calls m.id 2 _ HID.out.1 r64_2) Hf1.out).mono ?_
              rintro e wx ⟨rfl, rfl⟩
              go_wp2_with fail
              refine (bv (fits_calls m.size 2 _ HID.out.2 r64_2) Hf2.out).mono ?_
              rintro e wx ⟨rfl, rfl⟩
              go_wp2_with fail
              refine (contains_q_v false _ _ _ (RQ.out.below pQ BWR.out) _ _ _ eq (pays_question _ _) HQ.out).mono ?_
              rintro e w2 ⟨rfl, hb2⟩
              have BF : Aside0 (Below w.heap.size w w2) := ⟨BWR.out.trans (hb2.mono BWR.out.size)⟩
              clear hb2
              go_wp2_with fail
              go_ret
              refine ⟨true, rfl, fun _ => ⟨by rw [← mTot_3]; exact HT3.out, fun r hr => ?_⟩, BF.out⟩
              simp only [List.mem_append] at hr
              rcases hr with (hr | hr) | hr
              · exact HR.out 0 (by decide) r hr
              · exact HR.out 1 (by decide) r hr
              · exact HR.out 2 (by decide) r hr
          | true =>
            rw [hed] at c12
            clear hed
            cases hq : m.qs.any fun q => !qB q with
            | true =>
              have HQ := Aside0.mk hq
              clear hq
              go_wp2_with fail
              refine (bv (fits_calls m.id 2 _ HID.out.1 r64_2) Hf1.out).mono ?_
              rintro e wx ⟨rfl, rfl⟩
              go_wp2_with fail
              refine (bv (fits_calls m.size 2 _ HID.out.2 r64_2) Hf2.out).mono ?_
              rintro e wx ⟨rfl, rfl⟩
              go_wp2_with fail
              refine (contains_q_v true _ _ _ (RQ.out.below pQ BWR.out) _ _ _ eq (pays_question _ _) HQ.out).mono ?_
              rintro e w2 ⟨rfl, hb2⟩
              have BF : Aside0 (Below w.heap.size w w2) := ⟨BWR.out.trans (hb2.mono BWR.out.size)⟩
              clear hb2
              go_wp2_with fail
              go_ret
              exact TellsM.no BF.out
            | false =>
              have HQ := Aside0.mk hq
              clear hq
              go_wp2_with fail
              refine (bv (fits_calls m.id 2 _ HID.out.1 r64_2) Hf1.out).mono ?_
              rintro e wx ⟨rfl, rfl⟩
              go_wp2_with fail
              refine (bv (fits_calls m.size 2 _ HID.out.2 r64_2) Hf2.out).mono ?_
              rintro e wx ⟨rfl, rfl⟩
              go_wp2_with fail
              refine (contains_q_v false _ _ _ (RQ.out.below pQ BWR.out) _ _ _ eq (pays_question _ _) HQ.out).mono ?_
              rintro e w2 ⟨rfl, hb2⟩
              have BF : Aside0 (Below w.heap.size w w2) := ⟨BWR.out.trans (hb2.mono BWR.out.size)⟩
              clear hb2
              go_wp2_with fail
              go_ret
              refine ⟨true, rfl, fun _ => ⟨by rw [← mTot_3]; exact HT3.out, fun r hr => ?_⟩, BF.out⟩
              simp only [List.mem_append] at hr
              rcases hr with (hr | hr) | hr
              · exact HR.out 0 (by decide) r hr
              · exact HR.out 1 (by decide) r hr
              · exact HR.out 2 (by decide) r hr
end Go.Proofs.Ytkbjbkmaokebgaa.Gz

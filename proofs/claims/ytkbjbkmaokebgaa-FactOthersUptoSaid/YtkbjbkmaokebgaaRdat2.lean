import Derived.Test.YtkbjbkmaokebgaaRdat
set_option linter.unusedVariables false
set_option linter.unusedSimpArgs false
namespace Go.Proofs.Ytkbjbkmaokebgaa.Gz
open Go.RowKit Go.Proofs.YtkbjbkmaokebgaaW.PrintWords
open Ki
def longT (t : ByteArray) : Bool := decide (255 < t.size)
set_option maxHeartbeats 8000000 in
set_option maxRecDepth 100000 in
theorem rdata_16 (d : Dat) (cs : List Value) (w : World) (h : kD.K w (fun _ => True) d cs) :
    Calls Try.prog 63 #[.int .i64 16, .agg cs.toArray] w fun e w' => e = .returned (.bool (decide (DOk 16 d))) ∧ Below w.heap.size w w' := by
  have HD : Aside0 (DOk 16 d ↔ (1 ≤ d.texts.length ∧ d.texts.length ≤ 64 ∧ Emp d false false false false true ∧ d.texts.any longT = false)) := ⟨by
    unfold Emp
    show (_ ∧ _) ↔ _
    simp [longT] <;> (constructor <;> intro h <;> simp_all)⟩
  have RD := Aside0.mk h
  obtain ⟨vb, vh, vm, vn, vt, rfl, hb, hh, hm, hn, ht⟩ := h
  have RT := Aside0.mk ht
  have hsz := Aside0.mk (rd_sz ht)
  have hmax := ht.max
  obtain ⟨Ab, cb, rfl, _, _⟩ := hb
  obtain ⟨Ah, ch, rfl, _, _⟩ := hh
  obtain ⟨Am, cm, rfl, _, _⟩ := hm
  obtain ⟨An, cn, rfl, _, _⟩ := hn
  obtain ⟨At, ct, rfl, hlt0, _⟩ := ht
  have BX := Aside0.mk (below_alloc (Below.refl w.heap.size w) (.cells #[.slice Ab d.bytes.length cb, .slice Ah d.host.length ch, .slice Am d.mail.length cm, .slice An d.nums.length cn, .slice At d.texts.length ct] 42))
  by_cases q1 : 1 ≤ d.texts.length
  rotate_left
  · have HN : Aside0 (¬ DOk 16 d) := ⟨fun h => q1 (HD.out.1 h).1⟩
    have f1 : d.texts.length < 1 := by omega
    clear q1
    go_enter Try.func63, Try.ntmps63
    go_wp2
    go_ret
    refine ⟨?_, BX.out⟩
    rw [decide_eq_false HN.out]; rfl
  by_cases q2 : d.texts.length ≤ 64
  rotate_left
  · have HN : Aside0 (¬ DOk 16 d) := ⟨fun h => q2 (HD.out.1 h).2.1⟩
    have f1 : ¬ d.texts.length < 1 := by omega
    have f2 : 64 < d.texts.length := by omega
    clear q1 q2
    go_enter Try.func63, Try.ntmps63
    go_wp2
    go_ret
    refine ⟨?_, BX.out⟩
    rw [decide_eq_false HN.out]; rfl
  have f1 : ¬ d.texts.length < 1 := by omega
  have f2 : ¬ 64 < d.texts.length := by omega
  have E1 := Aside0.mk q1
  have E2 := Aside0.mk q2
  by_cases q3 : Emp d false false false false true
  rotate_left
  · have HN : Aside0 (¬ DOk 16 d) := ⟨fun h => q3 (HD.out.1 h).2.2.1⟩
    have HQ : Aside0 (decide (Emp d false false false false true) = false) := ⟨decide_eq_false q3⟩
    clear q1 q2 q3
    go_enter Try.func63, Try.ntmps63
    go_wp2_with fail
    refine (empty_FFFFT_v false d _ _ (K_below RD.out BX.out) HQ.out).mono ?_
    rintro e w2 ⟨rfl, hb2⟩
    have HB2 := Aside0.mk (BX.out.trans (hb2.mono (by simp)))
    clear hb2
    go_wp2_with fail
    go_ret
    refine ⟨?_, HB2.out⟩
    rw [decide_eq_false HN.out]; rfl
  have HQ : Aside0 (decide (Emp d false false false false true) = true) := ⟨decide_eq_true q3⟩
  have E3 := Aside0.mk q3
  clear q1 q2 q3
  go_enter Try.func63, Try.ntmps63
  go_wp2_with fail
  refine (empty_FFFFT_v true d _ _ (K_below RD.out BX.out) HQ.out).mono ?_
  rintro e w2 ⟨rfl, hb2⟩
  have HB2 := Aside0.mk (BX.out.trans (hb2.mono (by simp)))
  obtain ⟨bc, bf⟩ := bcell hb2
  have hz : w.heap.size < w2.heap.size := by have := hb2.size; simp at this; omega
  clear hb2
  go_wp2_with fail
  go_loop [5] (fun i => ∃ k : Nat, k ≤ d.texts.length ∧ i = .int .i64 k ∧ Aside0 ((d.texts.take k).any longT = false)) (fun i => d.texts.length - (intOf i).toNat)
  case atStart => exact ⟨0, Nat.zero_le _, rfl, ⟨rfl⟩⟩
  case round =>
    obtain ⟨k, hk, rfl, HA⟩ := hrel
    by_cases hlt : k < d.texts.length
    · have HT2 := RT.out.below pS HB2.out
      obtain ⟨At', ct', he, _, hrow⟩ := HT2
      obtain ⟨rfl, rfl⟩ : At = At' ∧ ct = ct' := by injection he with h1 _ h3; exact ⟨h1, h3⟩
      obtain ⟨ad, rfl, hcell⟩ := cell_s hrow k hlt
      have hb3 := (hsz.out d.texts[k] (List.getElem_mem hlt)).le
      have HX : Aside0 (longT d.texts[k] = false → (d.texts.take (k + 1)).any longT = false) := ⟨fun h => by rw [List.take_succ_eq_append_getElem hlt, List.any_append, HA.out]; simp [h]⟩
      have HY : Aside0 (longT d.texts[k] = true → ¬ DOk 16 d) := ⟨fun h hd => by
        have h1 : d.texts.any longT = true := List.any_eq_true.2 ⟨_, List.getElem_mem hlt, h⟩
        rw [(HD.out.1 hd).2.2.2] at h1; cases h1⟩
      clear he hrow
      generalize d.texts[k] = y at hcell hb3 HX HY
      by_cases q : 255 < y.size
      · have HZ := Aside0.mk (HY.out (decide_eq_true q))
        clear HX HY
        go_wp2
        go_ret
        refine ⟨?_, HB2.out⟩
        rw [decide_eq_false HZ.out]; rfl
      · have HZ := Aside0.mk (HX.out (decide_eq_false q))
        clear HX HY
        go_wp2
        go_round
        case rel => exact ⟨k + 1, by omega, by go_num, HZ⟩
        case measure => simp [intOf]; omega
    · have HK := Aside0.mk (show k = d.texts.length by omega)
      go_wp2
      go_ret
      refine ⟨?_, HB2.out⟩
      have h1 := HA.out
      rw [HK.out, List.take_length] at h1
      rw [decide_eq_true (HD.out.2 ⟨E1.out, E2.out, E3.out, h1⟩)]; rfl
theorem rdata_O (kind : Int) (hr : kind < 1 ∨ 65535 < kind) (d : Dat) (cs : List Value) (w : World) (h : kD.K w (fun _ => True) d cs) :
    Calls Try.prog 63 #[.int .i64 kind, .agg cs.toArray] w fun e w' => e = .returned (.bool (decide (DOk kind d))) ∧ Below w.heap.size w w' := by
  have HN : Aside0 (¬ DOk kind d) := ⟨fun h => by
    unfold DOk at h; rw [if_neg (by omega), if_neg (by omega), if_neg (by omega), if_neg (by omega), if_neg (by omega), if_neg (by omega), if_neg (by omega)] at h; omega⟩
  obtain ⟨vb, vh, vm, vn, vt, rfl, hb, hh, hm, hn, ht⟩ := h
  by_cases h1 : kind < 1
  · go_enter Try.func63, Try.ntmps63
    go_wp2
    go_ret
    refine ⟨?_, below_alloc (Below.refl _ _) _⟩
    rw [decide_eq_false HN.out]; rfl
  · have h2 : 65535 < kind := by omega
    clear hr
    go_enter Try.func63, Try.ntmps63
    go_wp2
    go_ret
    refine ⟨?_, below_alloc (Below.refl _ _) _⟩
    rw [decide_eq_false HN.out]; rfl
/-- ref03.Data -/
theorem rdata_calls (kind : Int) (d : Dat) (cs : List Value) (w : World) (h : kD.K w (fun _ => True) d cs) :
    Calls Try.prog 63 #[.int .i64 kind, .agg cs.toArray] w fun e w' => e = .returned (.bool (decide (DOk kind d))) ∧ Below w.heap.size w w' := by
  by_cases hr : kind < 1 ∨ 65535 < kind
  · exact rdata_O kind hr d cs w h
  by_cases h1 : kind = 1
  · subst h1; exact rdata_1 d cs w h
  by_cases h28 : kind = 28
  · subst h28; exact rdata_28 d cs w h
  by_cases h2 : kind = 2
  · subst h2; exact rdata_2 d cs w h
  by_cases h5 : kind = 5
  · subst h5; exact rdata_5 d cs w h
  by_cases h12 : kind = 12
  · subst h12; exact rdata_12 d cs w h
  by_cases h15 : kind = 15
  · subst h15; exact rdata_15 d cs w h
  by_cases h6 : kind = 6
  · subst h6; exact rdata_6 d cs w h
  by_cases h33 : kind = 33
  · subst h33; exact rdata_33 d cs w h
  by_cases h16 : kind = 16
  · subst h16; exact rdata_16 d cs w h
  exact rdata_D kind h1 h28 h2 h5 h12 h15 h6 h33 h16 (by omega) (by omega) d cs w h
/-- rdata.Sound -/
theorem dsound_calls (kind : Int) (d : Dat) (cs : List Value) (w : World) (h : kD.K w (fun _ => True) d cs) :
    Calls Try.prog 91 #[.int .i64 kind, .agg cs.toArray] w fun e w' => e = .returned (.bool (decide (DOk kind d))) ∧ Below w.heap.size w w' := by
  by_cases h1 : kind = 1
  · subst h1; exact dsound_1 d cs w h
  by_cases h28 : kind = 28
  · subst h28; exact dsound_28 d cs w h
  by_cases h2 : kind = 2
  · subst h2; exact dsound_2 d cs w h
  by_cases h5 : kind = 5
  · subst h5; exact dsound_5 d cs w h
  by_cases h12 : kind = 12
  · subst h12; exact dsound_12 d cs w h
  by_cases h15 : kind = 15
  · subst h15; exact dsound_15 d cs w h
  by_cases h6 : kind = 6
  · subst h6; exact dsound_6 d cs w h
  by_cases h33 : kind = 33
  · subst h33; exact dsound_33 d cs w h
  by_cases h16 : kind = 16
  · subst h16; exact dsound_16 d cs w h
  exact dsound_D kind h1 h28 h2 h5 h12 h15 h6 h33 h16 d cs w h
end Go.Proofs.Ytkbjbkmaokebgaa.Gz

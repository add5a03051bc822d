import Derived.Test.YtkbjbkmaokebgaaRef1
import Derived.Test.YtkbjbkmaokebgaaName
import Derived.Deep.RegionHeld3
set_option linter.unusedVariables false
set_option linter.unusedSimpArgs false
namespace Go.Proofs.Ytkbjbkmaokebgaa.Gz
open Go.RowKit Go.Proofs.YtkbjbkmaokebgaaW.PrintWords
open Ki
set_option maxHeartbeats 400000 in
theorem rsmall_calls (s : ByteArray) (w : World) (hs : s.size ≤ 9223372036854775807) :
    Calls Try.prog 65 #[.string s] w fun e w' => e = .returned (.string (Nm.lows s)) ∧ Below w.heap.size w w' := by
  have hcv := fun W => Lib.run_convert_string_bytes (P := Try.prog) W 9 39 5 s Try.underlying9 Try.underlying39 Try.underlying5
  go_enter Try.func65, Try.ntmps65
  go_wp2
  go_loopw [4] (fun i wr => ∃ k : Nat, k ≤ s.size ∧ i = .int .i64 k ∧ Aside0 (∃ M, Nm.Low s wr w.heap.size M k) ∧ Aside0 (Below w.heap.size w wr)) (fun i _ => s.size - (intOf i).toNat)
  case atStart => exact ⟨0, Nat.zero_le _, rfl, ⟨Nm.Low.start s w⟩, ⟨bytes_below (Below.refl _ _) (Nat.le_refl _) _ _⟩⟩
  case round =>
    obtain ⟨k, hk, rfl, ⟨M, HL⟩, ⟨HB⟩⟩ := hrel
    have HL' : Aside0 (Nm.Low s wr w.heap.size M k) := ⟨HL⟩
    have HB' : Aside0 (Below w.heap.size w wr) := ⟨HB⟩
    clear HL HB
    by_cases hlt : k < s.size
    · obtain ⟨c1, f1⟩ := HL'.out.cell hlt
      generalize hcc : s.data.toList.getD k 0 = cc at c1
      have Hcc : Hid (s.data.toList.getD k 0 = cc) := hcc
      clear hcc
      have hcb := cc.toNat_lt
      go_wp2
      · refine ⟨⟨k + 1, by omega, by go_num, ⟨M, HL'.out.store hlt ?_⟩, ⟨HB'.out.setCell (Nat.le_refl _) _⟩⟩, by simp [intOf]; omega⟩
        rw [Hcc.out, Nm.low_yes cc ⟨by omega, by omega⟩]
      · refine ⟨⟨k + 1, by omega, by go_num, ⟨M, HL'.out.skip hlt ?_⟩, HB'⟩, by simp [intOf]; omega⟩
        rw [Hcc.out, Nm.low_no cc (by omega)]
      · refine ⟨⟨k + 1, by omega, by go_num, ⟨M, HL'.out.skip hlt ?_⟩, HB'⟩, by simp [intOf]; omega⟩
        rw [Hcc.out, Nm.low_no cc (by omega)]
    · obtain rfl : k = s.size := by omega
      have hst := fun c => HL'.out.str c
      go_wp2
      go_ret
      exact ⟨rfl, HB'.out⟩
set_option maxHeartbeats 400000 in
theorem rsize_calls (v : Value) (n : List ByteArray) (w : World) (h : kS.Rd w (fun _ => True) v n) (hn : n.length ≤ 1000) :
    Calls Try.prog 47 #[v] w fun e w' => e = .returned (.int .i64 (nsz n : Nat)) ∧ w = w' := by
  have hsz := Aside0.mk (rd_sz h)
  obtain ⟨A, c, rfl, hl, hr⟩ := h
  have HR := Aside0.mk hr
  clear hr
  go_enter Try.func47, Try.ntmps47
  go_wp2
  go_loop [3, 4] (fun s i => ∃ k : Nat, k ≤ n.length ∧ i = .int .i64 k ∧ s = .int .i64 (nsz (n.take k) : Nat)) (fun _ i => n.length - (intOf i).toNat)
  case atStart => exact ⟨0, Nat.zero_le _, rfl, rfl⟩
  case round =>
    obtain ⟨k, hk, rfl, rfl⟩ := hrel
    by_cases hlt : k < n.length
    · obtain ⟨ad, rfl, hcell⟩ := cell_s HR.out k hlt
      have hb1 := nsz_le (n.take k) (fun x hx => hsz.out x (List.mem_of_mem_take hx))
      have hb2 : (n.take k).length ≤ 1000 := by rw [List.length_take]; omega
      have hb3 := (hsz.out n[k] (List.getElem_mem hlt)).le
      have HS := Aside0.mk (nsz_take_succ n k hlt)
      generalize n[k] = y at hcell hb3 HS
      generalize nsz (n.take k) = S at hb1 HS
      generalize (n.take k).length = m at hb1 hb2
      go_wp2
      go_round
      case rel => exact ⟨k + 1, by omega, by go_num, by rw [HS.out]; congr 1⟩
      case measure => simp [intOf]; omega
    · go_wp2
      go_ret
      have : k = n.length := by omega
      subst this
      rw [List.take_length]
      exact ⟨rfl, rfl⟩
def rSound (n : List ByteArray) : Bool := decide (n.length ≤ 127) && !(n.any badLabel) && decide (nsz n ≤ 255)
theorem len_le_nsz (n : List ByteArray) (h : n.any badLabel = false) : 2 * n.length + 1 ≤ nsz n := by
  induction n with
  | nil => simp [nsz]
  | cons x n ih =>
    rw [List.any_cons, Bool.or_eq_false_iff] at h
    have h1 := ih h.2
    have h2 : x.size ≠ 0 := by
      have := h.1
      unfold badLabel at this
      rw [Bool.or_eq_false_iff] at this
      exact of_decide_eq_false this.1
    unfold nsz at h1 ⊢
    simp only [List.map_cons, List.sum_cons, List.length_cons]
    omega
theorem rSound_eq (n : List ByteArray) : rSound n = nSound n := by
  rw [nSound_eq, rSound]
  cases h : n.any badLabel with
  | true => simp
  | false =>
    have h1 := len_le_nsz n h
    by_cases h2 : nsz n ≤ 255
    · rw [decide_eq_true (show n.length ≤ 127 by omega), decide_eq_true (show n.length ≤ 255 by omega)]
    · rw [decide_eq_false h2, Bool.and_false, Bool.and_false]
set_option maxHeartbeats 1000000 in
theorem rsound_calls (v : Value) (n : List ByteArray) (w : World) (h : kS.Rd w (fun _ => True) v n) :
    Calls Try.prog 21 #[v] w fun e w' => e = .returned (.bool (nSound n)) ∧ w = w' := by
  rw [← rSound_eq]
  have hsz := Aside0.mk (rd_sz h)
  have HR0 := Aside0.mk h
  have HS := fun (hn : n.length ≤ 1000) => Aside0.mk (rsize_calls v n w h hn)
  obtain ⟨A, c, rfl, hl, hr⟩ := h
  have HR := Aside0.mk hr
  have HS := Aside0.mk HS
  clear hr
  by_cases h127 : n.length ≤ 127
  · go_enter Try.func21, Try.ntmps21
    go_wp2
    go_loop [3] (fun i => ∃ k : Nat, k ≤ n.length ∧ i = .int .i64 k ∧ Aside0 ((n.take k).any badLabel = false)) (fun i => n.length - (intOf i).toNat)
    case atStart => exact ⟨0, Nat.zero_le _, rfl, ⟨rfl⟩⟩
    case round =>
      obtain ⟨k, hk, rfl, HA⟩ := hrel
      by_cases hlt : k < n.length
      · obtain ⟨ad, rfl, hcell⟩ := cell_s HR.out k hlt
        have hb3 := (hsz.out n[k] (List.getElem_mem hlt)).le
        have HX : Aside0 (badLabel n[k] = false → (n.take (k + 1)).any badLabel = false) := ⟨fun h => by rw [List.take_succ_eq_append_getElem hlt, List.any_append, HA.out]; simp [h]⟩
        have HY : Aside0 (badLabel n[k] = true → rSound n = false) := ⟨fun h => by
          have : n.any badLabel = true := List.any_eq_true.2 ⟨_, List.getElem_mem hlt, h⟩
          unfold rSound; rw [this]; simp⟩
        generalize n[k] = y at hcell hb3 HX HY
        by_cases h0 : y.size = 0
        · have hy : badLabel y = true := by unfold badLabel; rw [decide_eq_true h0]; rfl
          have HZ := Aside0.mk (HY.out hy)
          have h0' : y.size < 1 := by omega
          clear h0 hy HX HY
          go_wp2
          go_ret
          refine ⟨?_, rfl⟩
          rw [HZ.out]; rfl
        · have h0' : ¬ y.size < 1 := by omega
          by_cases h63 : 63 < y.size
          · have hy : badLabel y = true := by unfold badLabel; rw [decide_eq_true h63]; simp
            have HZ := Aside0.mk (HY.out hy)
            clear h0 hy HX HY
            go_wp2
            go_ret
            refine ⟨?_, rfl⟩
            rw [HZ.out]; rfl
          · have hy : badLabel y = false := by unfold badLabel; rw [decide_eq_false h0, decide_eq_false h63]; rfl
            have HZ := Aside0.mk (HX.out hy)
            clear h0 hy HX HY
            go_wp2
            go_round
            case rel => exact ⟨k + 1, by omega, by go_num, HZ⟩
            case measure => simp [intOf]; omega
      · have hC := HS.out (by omega)
        have HK := Aside0.mk (show k = n.length by omega)
        go_wp2_with fail
        refine hC.out.mono ?_
        rintro e w1 ⟨rfl, rfl⟩
        go_wp2_with fail
        go_ret
        refine ⟨?_, rfl⟩
        have h1 := HA.out
        rw [HK.out, List.take_length] at h1
        unfold rSound
        rw [h1, decide_eq_true h127, show (true && !false && decide (nsz n ≤ 255)) = decide ((nsz n : Int) ≤ 255) from by rw [Bool.not_false, Bool.true_and, Bool.true_and]; exact decide_eq_decide.2 (by omega)]
        rfl
  · have hr : rSound n = false := by unfold rSound; rw [decide_eq_false h127]; rfl
    rw [hr]
    clear hr
    go_enter Try.func21, Try.ntmps21
    go_wp2
    go_ret
    exact ⟨rfl, rfl⟩
end Go.Proofs.Ytkbjbkmaokebgaa.Gz

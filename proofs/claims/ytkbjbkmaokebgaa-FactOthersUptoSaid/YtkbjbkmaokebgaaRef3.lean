import Derived.Test.YtkbjbkmaokebgaaRef2
import Derived.Deep.RegionHeld3
set_option linter.unusedVariables false
set_option linter.unusedSimpArgs false
namespace Go.Proofs.Ytkbjbkmaokebgaa.Gz
open Go.RowKit Go.Proofs.YtkbjbkmaokebgaaW.PrintWords
open Ki
theorem cell_keep {w w1 : World} (hb : Below w.heap.size w w1) {a b : Addr} {x y : Value} (h : w.cell? a = some x ∧ w.cell? b = some y) : w1.cell? a = some x ∧ w1.cell? b = some y :=
  ⟨pw_cell_below hb h.1, pw_cell_below hb h.2⟩
theorem keep2 {wr w w1 : World} (hb : Below w.heap.size w w1) {a b : Addr} {x y : Value} (h : Below wr.heap.size wr w ∧ w.cell? a = some x ∧ w.cell? b = some y) : Below wr.heap.size wr w1 ∧ w1.cell? a = some x ∧ w1.cell? b = some y :=
  ⟨h.1.trans (hb.mono h.1.size), pw_cell_below hb h.2.1, pw_cell_below hb h.2.2⟩
set_option maxHeartbeats 1000000 in
set_option maxRecDepth 100000 in
theorem requal_calls (u v : Value) (a b : List ByteArray) (w : World) (ha : kS.Rd w (fun _ => True) u a) (hb : kS.Rd w (fun _ => True) v b) :
    Calls Try.prog 36 #[u, v] w fun e w' => e = .returned (.bool (nEq a b)) ∧ Below w.heap.size w w' := by
  have hsa := Aside0.mk (rd_sz ha)
  have hsb := Aside0.mk (rd_sz hb)
  have HA := Aside0.mk ha
  have HB := Aside0.mk hb
  have hma := ha.max
  obtain ⟨A, c, rfl, hl, _⟩ := ha
  obtain ⟨B, d, rfl, hl', _⟩ := hb
  by_cases hne : a.length = b.length
  · have hne' : ((a.length : Int) != (b.length : Int)) = false := bne_eq_false_iff_eq.mpr (by omega)
    have Hne := Aside0.mk hne
    clear hne
    go_enter Try.func36, Try.ntmps36
    go_wp2
    go_loopg [5] a.length (fun gg s wr => ∃ k : Nat, k ≤ a.length ∧ a.length - k ≤ gg ∧ s = .int .i64 k ∧ Aside0 (Below w.heap.size w wr) ∧ Aside0 ((a.take k).map Nm.lows = (b.take k).map Nm.lows))
    case atStart => exact ⟨0, Nat.zero_le _, by omega, rfl, ⟨Below.refl _ w⟩, ⟨rfl⟩⟩
    case round =>
      obtain ⟨k, hk, hg, rfl, HW, HE⟩ := hrel
      by_cases hlt : k < a.length
      · have hltb : k < b.length := by have := Hne.out; omega
        obtain ⟨A', c', he, _, hra⟩ := HA.out.below pS HW.out
        obtain ⟨B', d', he', _, hrb⟩ := HB.out.below pS HW.out
        obtain ⟨rfl, rfl⟩ : A = A' ∧ c = c' := by injection he with h1 _ h3; exact ⟨h1, h3⟩
        obtain ⟨rfl, rfl⟩ : B = B' ∧ d = d' := by injection he' with h1 _ h3; exact ⟨h1, h3⟩
        obtain ⟨ad, rfl, hcell⟩ := cell_s hra k hlt
        obtain ⟨bd, rfl, hcell'⟩ := cell_s hrb k hltb
        have hI : (0 : Int) ≤ (k : Int) := by omega
        have hIa : (k : Int) < (a.length : Int) := by omega
        have hIb : (k : Int) < (b.length : Int) := by omega
        have h1 := fun w1 => Aside0.mk (rsmall_calls a[k] w1 (by have := (hsa.out _ (List.getElem_mem hlt)).le; omega))
        have h2 := fun w1 => Aside0.mk (rsmall_calls b[k] w1 (by have := (hsb.out _ (List.getElem_mem hltb)).le; omega))
        have HE2 : Aside0 (Nm.lows a[k] = Nm.lows b[k] → (a.take (k+1)).map Nm.lows = (b.take (k+1)).map Nm.lows) := ⟨fun h => by
          rw [List.take_succ_eq_append_getElem hlt, List.take_succ_eq_append_getElem hltb, List.map_append, List.map_append, HE.out]
          simp [h]⟩
        have HE3 : Aside0 (¬ Nm.lows a[k] = Nm.lows b[k] → nEq a b = false) := ⟨fun h => by
          unfold nEq
          refine decide_eq_false fun e => h ?_
          have := congrArg (fun l => l[k]?) e
          simpa [List.getElem?_eq_getElem hlt, List.getElem?_eq_getElem hltb] using this⟩
        clear he he' hra hrb
        generalize a[k] = x at hcell h1 HE2 HE3
        generalize b[k] = y at hcell' h2 HE2 HE3
        have H1 := Aside0.mk h1
        have H2 := Aside0.mk h2
        clear h1 h2
        have hrefl : Below wr.heap.size wr wr.drew := (Below.refl _ _).drew
        by_cases hq : Nm.lows x = Nm.lows y
        · have hq' : ((Nm.lows x).toList == (Nm.lows y).toList) = true := by rw [toList_inj, decide_eq_true hq]
          have HQ := Aside0.mk hq
          clear hq
          go_wp2
          go_region_held3 (fun w' => Below wr.heap.size wr w' ∧ w'.cell? (ad.add k) = some (.string x) ∧ w'.cell? (bd.add k) = some (.string y)) ((first | (refine keep2 hb1 ?_; first | assumption | exact ⟨by assumption, by assumption, by assumption⟩) | go_keep)) ((first | (go_at_call 65; (with_reducible refine (H1.out _).out.mono ?_); rintro e w1 ⟨rfl, hb1⟩) | (go_at_call 65; (with_reducible refine (H2.out _).out.mono ?_); rintro e w1 ⟨rfl, hb1⟩)))
          rename_i hS
          have HS := Aside0.mk hS.1
          clear hS hrefl hb1
          go_wp2
          go_roundg (a.length - (k + 1))
          case measure => omega
          case rel => exact ⟨k + 1, by omega, by omega, by go_num, ⟨HW.out.trans (HS.out.mono HW.out.size)⟩, ⟨HE2.out HQ.out⟩⟩
        · have hq' : ((Nm.lows x).toList == (Nm.lows y).toList) = false := by rw [toList_inj, decide_eq_false hq]
          have HQ := Aside0.mk hq
          clear hq
          go_wp2
          go_region_held3 (fun w' => Below wr.heap.size wr w' ∧ w'.cell? (ad.add k) = some (.string x) ∧ w'.cell? (bd.add k) = some (.string y)) ((first | (refine keep2 hb1 ?_; first | assumption | exact ⟨by assumption, by assumption, by assumption⟩) | go_keep)) ((first | (go_at_call 65; (with_reducible refine (H1.out _).out.mono ?_); rintro e w1 ⟨rfl, hb1⟩) | (go_at_call 65; (with_reducible refine (H2.out _).out.mono ?_); rintro e w1 ⟨rfl, hb1⟩)))
          rename_i hS
          have HS := Aside0.mk hS.1
          clear hS hrefl hb1
          go_wp2
          go_ret
          refine ⟨?_, HW.out.trans (HS.out.mono HW.out.size)⟩
          rw [HE3.out HQ.out]; rfl
      · have hka : k = a.length := by omega
        have HK := Aside0.mk hka
        clear hka
        go_wp2
        go_ret
        refine ⟨?_, HW.out⟩
        have h1 := HE.out
        rw [List.take_of_length_le (by omega), List.take_of_length_le (by have := Hne.out; omega)] at h1
        unfold nEq
        rw [decide_eq_true h1]; rfl
  · have hne' : ((a.length : Int) != (b.length : Int)) = true := bne_iff_ne.mpr (by omega)
    have hr : nEq a b = false := by unfold nEq; exact decide_eq_false fun e => hne (map_lows_len e)
    rw [hr]
    clear hr
    go_enter Try.func36, Try.ntmps36
    go_wp2
    go_ret
    exact ⟨rfl, Below.refl _ _⟩
set_option maxHeartbeats 400000 in
theorem runder_calls (u v : Value) (n z : List ByteArray) (w : World) (hn : kS.Rd w (fun _ => True) u n) (hz : kS.Rd w (fun _ => True) v z) :
    Calls Try.prog 33 #[u, v] w fun e w' => e = .returned (.bool (nUnder n z)) ∧ Below w.heap.size w w' := by
  have HN := Aside0.mk hn
  have HZ := Aside0.mk hz
  have hmn := hn.max
  have hmz := hz.max
  obtain ⟨A, c, rfl, hl, _⟩ := hn
  obtain ⟨B, d, rfl, hl', _⟩ := hz
  by_cases hle : z.length ≤ n.length
  · obtain ⟨v', hrun, hrd⟩ := tail_run A c n ((n.length : Int) - (z.length : Int)) (by omega) (by omega) hl
    have hC := Aside0.mk (requal_calls v' _ _ z w (hrd w _ HN.out) HZ.out)
    rw [show ((n.length : Int) - (z.length : Int)).toNat = n.length - z.length from by omega] at hC
    have hq : nUnder n z = nEq (n.drop (n.length - z.length)) z := by unfold nUnder; rw [decide_eq_true hle]; rfl
    rw [hq]
    clear hrd hq
    go_enter Try.func33, Try.ntmps33
    go_wp2_with fail
    refine hC.out.mono ?_
    rintro e w1 ⟨rfl, hb1⟩
    go_wp2_with fail
    go_ret
    exact ⟨rfl, hb1⟩
  · have hq : nUnder n z = false := by unfold nUnder; rw [decide_eq_false hle]; rfl
    rw [hq]
    clear hq
    have hlt : (n.length : Int) - (z.length : Int) < 0 := by omega
    go_enter Try.func33, Try.ntmps33
    go_wp2
    go_ret
    exact ⟨rfl, Below.refl _ _⟩
end Go.Proofs.Ytkbjbkmaokebgaa.Gz

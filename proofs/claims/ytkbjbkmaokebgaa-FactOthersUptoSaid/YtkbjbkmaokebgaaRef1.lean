import Derived.Test.YtkbjbkmaokebgaaName
import Derived.Deep.QuietTactic
import Derived.BigQuiet
set_option linter.unusedVariables false
set_option linter.unusedSimpArgs false
namespace Go.Proofs.Ytkbjbkmaokebgaa.Gz
open Go.RowKit Go.Proofs.YtkbjbkmaokebgaaW.PrintWords
open Ki
theorem take_succ_eq {α : Type} {a b : List α} {k : Nat} (ha : k < a.length) (hb : k < b.length) (h : a.take k = b.take k) (he : a[k] = b[k]) : a.take (k + 1) = b.take (k + 1) := by
  rw [List.take_succ_eq_append_getElem ha, List.take_succ_eq_append_getElem hb, h, he]
theorem ne_of_at {α : Type} {a b : List α} {k : Nat} (ha : k < a.length) (hb : k < b.length) (h : ¬ a[k] = b[k]) : ¬ a = b := by
  rintro rfl; exact h rfl

set_option maxHeartbeats 1000000 in
theorem exact_calls (u v : Value) (a b : List ByteArray) (w : World) (ha : kS.Rd w (fun _ => True) u a) (hb : kS.Rd w (fun _ => True) v b) :
    Calls Try.prog 23 #[u, v] w fun e w' => e = .returned (.bool (decide (a = b))) ∧ Below w.heap.size w w' := by
  have HA := Aside0.mk ha
  have HB := Aside0.mk hb
  have hma := ha.max
  obtain ⟨A, c, rfl, hl, _⟩ := ha
  obtain ⟨B, d, rfl, hl', _⟩ := hb
  by_cases hne : a.length = b.length
  · have hne' : ((a.length : Int) != (b.length : Int)) = false := bne_eq_false_iff_eq.mpr (by omega)
    have Hne := Aside0.mk hne
    clear hne
    go_enter Try.func23, Try.ntmps23
    go_wp2
    go_loopg [5] a.length (fun gg s wr => ∃ k : Nat, k ≤ a.length ∧ a.length - k ≤ gg ∧ s = .int .i64 k ∧ Aside0 (Below w.heap.size w wr) ∧ Aside0 (a.take k = b.take k))
    case atStart => exact ⟨0, Nat.zero_le _, by omega, rfl, ⟨Below.refl _ w⟩, ⟨rfl⟩⟩
    case round =>
      obtain ⟨k, hk, hg, rfl, HW, HE⟩ := hrel
      by_cases hlt : k < a.length
      · have hltb : k < b.length := by have := Hne.out; omega
        obtain ⟨A', c', he, _, hra⟩ := HA.out.below (by decide) HW.out
        obtain ⟨B', d', he', _, hrb⟩ := HB.out.below (by decide) HW.out
        obtain ⟨rfl, rfl⟩ : A = A' ∧ c = c' := by injection he with h1 _ h3; exact ⟨h1, h3⟩
        obtain ⟨rfl, rfl⟩ : B = B' ∧ d = d' := by injection he' with h1 _ h3; exact ⟨h1, h3⟩
        obtain ⟨ad, rfl, hcell⟩ := cell_s hra k hlt
        obtain ⟨bd, rfl, hcell'⟩ := cell_s hrb k hltb
        have hI : (0 : Int) ≤ (k : Int) := by omega
        have hIa : (k : Int) < (a.length : Int) := by omega
        have hIb : (k : Int) < (b.length : Int) := by omega
        have HX : Aside0 (a[k] = b[k] → a.take (k + 1) = b.take (k + 1)) := ⟨take_succ_eq hlt hltb HE.out⟩
        have HY : Aside0 (¬ a[k] = b[k] → ¬ a = b) := ⟨ne_of_at hlt hltb⟩
        clear he he' hra hrb
        generalize a[k] = x at hcell HX HY
        generalize b[k] = y at hcell' HX HY
        by_cases hq : x = y
        · have hq' : (x.toList == y.toList) = true := by rw [toList_inj, decide_eq_true hq]
          have HQ := Aside0.mk hq
          clear hq
          go_wp2
          go_quiet (fail)
          go_wp2
          go_roundg (a.length - (k + 1))
          case measure => omega
          case rel => exact ⟨k + 1, by omega, by omega, by go_num, ⟨pw_below_drewN HW.out _⟩, ⟨HX.out HQ.out⟩⟩
        · have hq' : (x.toList == y.toList) = false := by rw [toList_inj, decide_eq_false hq]
          have HQ := Aside0.mk hq
          clear hq
          go_wp2
          go_quiet (fail)
          go_wp2
          go_ret
          refine ⟨?_, pw_below_drewN HW.out _⟩
          rw [decide_eq_false (HY.out HQ.out)]; rfl
      · have hka : k = a.length := by omega
        have HK := Aside0.mk hka
        clear hka
        go_wp2
        go_ret
        refine ⟨?_, HW.out⟩
        have h1 := HE.out
        rw [List.take_of_length_le (by omega), List.take_of_length_le (by have := Hne.out; omega)] at h1
        rw [decide_eq_true h1]; rfl
  · have hne' : ((a.length : Int) != (b.length : Int)) = true := bne_iff_ne.mpr (by omega)
    have hr : decide (a = b) = false := decide_eq_false fun e => hne (by rw [e])
    rw [hr]
    clear hr
    go_enter Try.func23, Try.ntmps23
    go_wp2
    go_ret
    exact ⟨rfl, Below.refl _ _⟩


set_option maxHeartbeats 1000000 in
theorem same_calls (u v : Value) (a b : List Int) (w : World) (ha : kU.Rd w (fun _ => True) u a) (hb : kU.Rd w (fun _ => True) v b) :
    Calls Try.prog 66 #[u, v] w fun e w' => e = .returned (.bool (decide (a = b))) ∧ Below w.heap.size w w' := by
  have HA := Aside0.mk ha
  have HB := Aside0.mk hb
  have hma := ha.max
  obtain ⟨A, c, rfl, hl, _⟩ := ha
  obtain ⟨B, d, rfl, hl', _⟩ := hb
  by_cases hne : a.length = b.length
  · have hne' : ((a.length : Int) != (b.length : Int)) = false := bne_eq_false_iff_eq.mpr (by omega)
    have Hne := Aside0.mk hne
    clear hne
    go_enter Try.func66, Try.ntmps66
    go_wp2
    go_loopg [5] a.length (fun gg s wr => ∃ k : Nat, k ≤ a.length ∧ a.length - k ≤ gg ∧ s = .int .i64 k ∧ Aside0 (Below w.heap.size w wr) ∧ Aside0 (a.take k = b.take k))
    case atStart => exact ⟨0, Nat.zero_le _, by omega, rfl, ⟨Below.refl _ w⟩, ⟨rfl⟩⟩
    case round =>
      obtain ⟨k, hk, hg, rfl, HW, HE⟩ := hrel
      by_cases hlt : k < a.length
      · have hltb : k < b.length := by have := Hne.out; omega
        obtain ⟨A', c', he, _, hra⟩ := HA.out.below (by decide) HW.out
        obtain ⟨B', d', he', _, hrb⟩ := HB.out.below (by decide) HW.out
        obtain ⟨rfl, rfl⟩ : A = A' ∧ c = c' := by injection he with h1 _ h3; exact ⟨h1, h3⟩
        obtain ⟨rfl, rfl⟩ : B = B' ∧ d = d' := by injection he' with h1 _ h3; exact ⟨h1, h3⟩
        obtain ⟨ad, rfl, hcell⟩ := cell_u hra k hlt
        obtain ⟨bd, rfl, hcell'⟩ := cell_u hrb k hltb
        have hI : (0 : Int) ≤ (k : Int) := by omega
        have hIa : (k : Int) < (a.length : Int) := by omega
        have hIb : (k : Int) < (b.length : Int) := by omega
        have HX : Aside0 (a[k] = b[k] → a.take (k + 1) = b.take (k + 1)) := ⟨take_succ_eq hlt hltb HE.out⟩
        have HY : Aside0 (¬ a[k] = b[k] → ¬ a = b) := ⟨ne_of_at hlt hltb⟩
        clear he he' hra hrb
        generalize a[k] = x at hcell HX HY
        generalize b[k] = y at hcell' HX HY
        by_cases hq : x = y
        · have hq' : (x != y) = false := bne_eq_false_iff_eq.mpr hq
          have HQ := Aside0.mk hq
          clear hq
          go_wp2
          go_quiet (fail)
          go_wp2
          go_roundg (a.length - (k + 1))
          case measure => omega
          case rel => exact ⟨k + 1, by omega, by omega, by go_num, ⟨pw_below_drewN HW.out _⟩, ⟨HX.out HQ.out⟩⟩
        · have hq' : (x != y) = true := bne_iff_ne.mpr hq
          have HQ := Aside0.mk hq
          clear hq
          go_wp2
          go_quiet (fail)
          go_wp2
          go_ret
          refine ⟨?_, pw_below_drewN HW.out _⟩
          rw [decide_eq_false (HY.out HQ.out)]; rfl
      · have hka : k = a.length := by omega
        have HK := Aside0.mk hka
        clear hka
        go_wp2
        go_ret
        refine ⟨?_, HW.out⟩
        have h1 := HE.out
        rw [List.take_of_length_le (by omega), List.take_of_length_le (by have := Hne.out; omega)] at h1
        rw [decide_eq_true h1]; rfl
  · have hne' : ((a.length : Int) != (b.length : Int)) = true := bne_iff_ne.mpr (by omega)
    have hr : decide (a = b) = false := decide_eq_false fun e => hne (by rw [e])
    rw [hr]
    clear hr
    go_enter Try.func66, Try.ntmps66
    go_wp2
    go_ret
    exact ⟨rfl, Below.refl _ _⟩


set_option maxHeartbeats 1000000 in
theorem ints_calls (u v : Value) (a b : List Int) (w : World) (ha : kI.Rd w (fun _ => True) u a) (hb : kI.Rd w (fun _ => True) v b) :
    Calls Try.prog 67 #[u, v] w fun e w' => e = .returned (.bool (decide (a = b))) ∧ Below w.heap.size w w' := by
  have HA := Aside0.mk ha
  have HB := Aside0.mk hb
  have hma := ha.max
  obtain ⟨A, c, rfl, hl, _⟩ := ha
  obtain ⟨B, d, rfl, hl', _⟩ := hb
  by_cases hne : a.length = b.length
  · have hne' : ((a.length : Int) != (b.length : Int)) = false := bne_eq_false_iff_eq.mpr (by omega)
    have Hne := Aside0.mk hne
    clear hne
    go_enter Try.func67, Try.ntmps67
    go_wp2
    go_loopg [5] a.length (fun gg s wr => ∃ k : Nat, k ≤ a.length ∧ a.length - k ≤ gg ∧ s = .int .i64 k ∧ Aside0 (Below w.heap.size w wr) ∧ Aside0 (a.take k = b.take k))
    case atStart => exact ⟨0, Nat.zero_le _, by omega, rfl, ⟨Below.refl _ w⟩, ⟨rfl⟩⟩
    case round =>
      obtain ⟨k, hk, hg, rfl, HW, HE⟩ := hrel
      by_cases hlt : k < a.length
      · have hltb : k < b.length := by have := Hne.out; omega
        obtain ⟨A', c', he, _, hra⟩ := HA.out.below (by decide) HW.out
        obtain ⟨B', d', he', _, hrb⟩ := HB.out.below (by decide) HW.out
        obtain ⟨rfl, rfl⟩ : A = A' ∧ c = c' := by injection he with h1 _ h3; exact ⟨h1, h3⟩
        obtain ⟨rfl, rfl⟩ : B = B' ∧ d = d' := by injection he' with h1 _ h3; exact ⟨h1, h3⟩
        obtain ⟨ad, rfl, hcell⟩ := cell_i hra k hlt
        obtain ⟨bd, rfl, hcell'⟩ := cell_i hrb k hltb
        have hI : (0 : Int) ≤ (k : Int) := by omega
        have hIa : (k : Int) < (a.length : Int) := by omega
        have hIb : (k : Int) < (b.length : Int) := by omega
        have HX : Aside0 (a[k] = b[k] → a.take (k + 1) = b.take (k + 1)) := ⟨take_succ_eq hlt hltb HE.out⟩
        have HY : Aside0 (¬ a[k] = b[k] → ¬ a = b) := ⟨ne_of_at hlt hltb⟩
        clear he he' hra hrb
        generalize a[k] = x at hcell HX HY
        generalize b[k] = y at hcell' HX HY
        by_cases hq : x = y
        · have hq' : (x != y) = false := bne_eq_false_iff_eq.mpr hq
          have HQ := Aside0.mk hq
          clear hq
          go_wp2
          go_quiet (fail)
          go_wp2
          go_roundg (a.length - (k + 1))
          case measure => omega
          case rel => exact ⟨k + 1, by omega, by omega, by go_num, ⟨pw_below_drewN HW.out _⟩, ⟨HX.out HQ.out⟩⟩
        · have hq' : (x != y) = true := bne_iff_ne.mpr hq
          have HQ := Aside0.mk hq
          clear hq
          go_wp2
          go_quiet (fail)
          go_wp2
          go_ret
          refine ⟨?_, pw_below_drewN HW.out _⟩
          rw [decide_eq_false (HY.out HQ.out)]; rfl
      · have hka : k = a.length := by omega
        have HK := Aside0.mk hka
        clear hka
        go_wp2
        go_ret
        refine ⟨?_, HW.out⟩
        have h1 := HE.out
        rw [List.take_of_length_le (by omega), List.take_of_length_le (by have := Hne.out; omega)] at h1
        rw [decide_eq_true h1]; rfl
  · have hne' : ((a.length : Int) != (b.length : Int)) = true := bne_iff_ne.mpr (by omega)
    have hr : decide (a = b) = false := decide_eq_false fun e => hne (by rw [e])
    rw [hr]
    clear hr
    go_enter Try.func67, Try.ntmps67
    go_wp2
    go_ret
    exact ⟨rfl, Below.refl _ _⟩

end Go.Proofs.Ytkbjbkmaokebgaa.Gz

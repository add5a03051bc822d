import Derived.Test.YtkbjbkmaokebgaaFuncs
import Derived.Test.YtkbjbkmaokebgaaNm
import Derived.Deep.RegionHeld3
import Derived.Lib.Strings
set_option linter.unusedVariables false
set_option linter.unusedSimpArgs false
namespace Go.Proofs.Ytkbjbkmaokebgaa.Gz
open Go.RowKit Go.Proofs.YtkbjbkmaokebgaaW.PrintWords
open Ki

/-- How many bytes a name takes. -/
def nsz (n : List ByteArray) : Nat := (n.map fun l => l.size + 1).sum + 1
def nSound (n : List ByteArray) : Bool := decide (n.length ≤ 255) && !(n.any fun l => decide (l.size = 0) || decide (63 < l.size)) && decide (nsz n ≤ 255)
def nEq (a b : List ByteArray) : Bool := decide (a.map Nm.lows = b.map Nm.lows)
def nUnder (n z : List ByteArray) : Bool := decide (z.length ≤ n.length) && nEq (n.drop (n.length - z.length)) z

theorem rd_sz {w : World} {ok : Nat → Prop} {v : Value} {xs : List ByteArray} (h : kS.Rd w ok v xs) : ∀ x ∈ xs, Sz x := by
  obtain ⟨A, c, rfl, _, hr⟩ := h
  intro x hx
  obtain ⟨k, hk, rfl⟩ := List.getElem_of_mem hx
  obtain ⟨ad, cs, _, _, hK, _⟩ := hr.at_ k hk
  exact hK.2
/-- The cell of an element of one cell, as the walk asks for it. -/
theorem cell_s {w : World} {ok : Nat → Prop} {A : Option Addr} {xs : List ByteArray} (h : kS.Row w ok A xs) (k : Nat) (hk : k < xs.length) : ∃ ad, A = some ad ∧ w.cell? (ad.add k) = some (.string xs[k]) := by
  obtain ⟨ad, cs, e, _, hK, hc⟩ := h.at_ k hk
  refine ⟨ad, e, ?_⟩
  have := hc 0 (.string xs[k]) (by rw [hK.1]; rfl)
  simpa [kS, Ki.one1] using this
theorem cell_i {w : World} {ok : Nat → Prop} {A : Option Addr} {xs : List Int} (h : kI.Row w ok A xs) (k : Nat) (hk : k < xs.length) : ∃ ad, A = some ad ∧ w.cell? (ad.add k) = some (.int .i64 xs[k]) := by
  obtain ⟨ad, cs, e, _, hK, hc⟩ := h.at_ k hk
  refine ⟨ad, e, ?_⟩
  have := hc 0 (.int .i64 xs[k]) (by rw [hK.1]; rfl)
  simpa [kI, Ki.one1] using this
theorem cell_u {w : World} {ok : Nat → Prop} {A : Option Addr} {xs : List Int} (h : kU.Row w ok A xs) (k : Nat) (hk : k < xs.length) : ∃ ad, A = some ad ∧ w.cell? (ad.add k) = some (.int .u8 xs[k]) := by
  obtain ⟨ad, cs, e, _, hK, hc⟩ := h.at_ k hk
  refine ⟨ad, e, ?_⟩
  have := hc 0 (.int .u8 xs[k]) (by rw [hK.1]; rfl)
  simpa [kU, Ki.one1] using this
theorem nsz_take_succ (n : List ByteArray) (k : Nat) (hk : k < n.length) : nsz (n.take (k + 1)) = nsz (n.take k) + n[k].size + 1 := by
  unfold nsz
  rw [List.take_succ_eq_append_getElem hk, List.map_append, List.sum_append]
  simp; omega
theorem nsz_le (n : List ByteArray) (h : ∀ x ∈ n, Sz x) : nsz n ≤ n.length * 140737488355329 + 1 := by
  induction n with
  | nil => simp [nsz]
  | cons x n ih =>
    have h1 := ih (fun y hy => h y (List.mem_cons_of_mem _ hy))
    have h2 := (h x List.mem_cons_self).le
    unfold nsz at h1 ⊢
    simp only [List.map_cons, List.sum_cons, List.length_cons]
    omega

set_option maxHeartbeats 400000 in
theorem size_calls (v : Value) (n : List ByteArray) (w : World) (h : kS.Rd w (fun _ => True) v n) (hn : n.length ≤ 1000) :
    Calls Try.prog 75 #[v] w fun e w' => e = .returned (.int .i64 (nsz n : Nat)) ∧ w = w' := by
  have hsz := Aside0.mk (rd_sz h)
  obtain ⟨A, c, rfl, hl, hr⟩ := h
  have HR := Aside0.mk hr
  clear hr
  go_enter Try.func75, Try.ntmps75
  go_wp2
  go_loop [3, 5, 8] (fun s _ i => ∃ k : Nat, k ≤ n.length ∧ i = .int .i64 k ∧ s = .int .i64 (nsz (n.take k) : Nat)) (fun _ _ i => n.length - (intOf i).toNat)
  case atStart => exact ⟨0, Nat.zero_le _, rfl, rfl⟩
  case round =>
    obtain ⟨k, hk, rfl, rfl⟩ := hrel
    by_cases hlt : k < n.length
    · obtain ⟨ad, rfl, hcell⟩ := cell_s HR.out k hlt
      have hb1 := nsz_le (n.take k) (fun x hx => hsz.out x (List.mem_of_mem_take hx))
      have hb2 : (n.take k).length ≤ 1000 := by rw [List.length_take]; omega
      have hb3 := (hsz.out n[k] (List.getElem_mem hlt)).le
      have HS := Aside0.mk (nsz_take_succ n k hlt)
      generalize n[k] = y at hcell hb3 HS
      generalize nsz (n.take k) = S at hb1 HS
      generalize (n.take k).length = m at hb1 hb2
      go_wp2
      go_round
      case rel => exact ⟨k + 1, by omega, by go_num, by rw [HS.out]; congr 1; omega⟩
      case measure => simp [intOf]; omega
    · go_wp2
      go_ret
      have : k = n.length := by omega
      subst this
      rw [List.take_length]
      exact ⟨rfl, rfl⟩

/-! Sound -/
def badLabel (l : ByteArray) : Bool := decide (l.size = 0) || decide (63 < l.size)
set_option maxHeartbeats 400000 in
theorem sound1_calls (l : ByteArray) (w : World) (h : Sz l) :
    Calls Try.prog 74 #[.string l] w fun e w' => e = .returned (.bool (badLabel l)) ∧ w = w' := by
  have hb := h.le
  have he : (l.toList == []) = decide (l.size = 0) := by
    rw [Lib.toList_data]
    have : l.data.toList.length = l.size := data_length l
    rw [Bool.eq_iff_iff]
    simp only [beq_iff_eq, decide_eq_true_eq]
    rw [← this]
    exact List.length_eq_zero_iff.symm
  by_cases h0 : l.size = 0
  · have he' : l.toList = [] := by rw [decide_eq_true h0] at he; exact beq_iff_eq.1 he
    have hr : badLabel l = true := by unfold badLabel; rw [decide_eq_true h0]; rfl
    rw [hr]
    clear he hr h0
    go_enter Try.func74, Try.ntmps74
    go_wp2
    go_ret
    exact ⟨rfl, rfl⟩
  · have he' : l.toList.isEmpty = false := by
      rw [decide_eq_false h0] at he
      have := beq_eq_false_iff_ne.1 he
      cases hx : l.toList with
      | nil => exact absurd hx this
      | cons a b => rfl
    have hr : badLabel l = decide (63 < l.size) := by unfold badLabel; rw [decide_eq_false h0]; rfl
    rw [hr]
    clear he hr
    go_enter Try.func74, Try.ntmps74
    go_wp2
    go_ret
    refine ⟨?_, rfl⟩
    rw [show decide (63 < l.size) = decide ((63 : Int) < (l.size : Int)) from decide_eq_decide.2 (by omega)]
    rfl
theorem sound1_pays (w : World) (n : List ByteArray) : Pays kS val1 74 #[] w n badLabel := by
  intro W x cs hx hb hK
  obtain ⟨rfl, hs⟩ := hK
  exact (sound1_calls x W hs).mono (by rintro e w' ⟨rfl, rfl⟩; exact ⟨rfl, Below.refl _ _⟩)
theorem nSound_eq (n : List ByteArray) : nSound n = (decide (n.length ≤ 255) && !(n.any badLabel) && decide (nsz n ≤ 255)) := rfl
set_option maxHeartbeats 400000 in
theorem sound_calls (v : Value) (n : List ByteArray) (w : World) (h : kS.Rd w (fun _ => True) v n) :
    Calls Try.prog 40 #[v] w fun e w' => e = .returned (.bool (nSound n)) ∧ Below w.heap.size w w' := by
  have HR := Aside0.mk h
  have eg : ∀ args w, (callFunc 74 args).run Try.prog w = .ok (.enter 74 args) w := enters Try.func74 (by kernel_rfl) rfl
  have HC := Aside0.mk (contains_s v n w h 74 #[] badLabel eg (sound1_pays w n))
  obtain ⟨A, c, rfl, hl, hr⟩ := h
  clear hr eg
  rw [nSound_eq]
  by_cases h1 : n.length ≤ 255
  · have h2 : ∀ w1, Below w.heap.size w w1 → Aside0 (Calls Try.prog 75 #[.slice A n.length c] w1 fun e w' => e = .returned (.int .i64 (nsz n : Nat)) ∧ w1 = w') := fun w1 hb => ⟨size_calls _ n w1 (HR.out.below pS hb) (by omega)⟩
    have H2 := Aside0.mk h2
    clear h2 HR
    rw [decide_eq_true h1]
    cases hq : n.any badLabel with
    | true =>
      rw [hq] at HC
      clear hq H2
      go_enter Try.func40, Try.ntmps40
      go_wp2_with (go_at_call 73; refine HC.out.mono ?_; rintro e w' ⟨rfl, hb'⟩)
      go_ret
      exact ⟨rfl, hb'⟩
    | false =>
      rw [hq] at HC
      clear hq
      go_enter Try.func40, Try.ntmps40
      go_wp2_with fail
      refine HC.out.mono ?_
      rintro e w1 ⟨rfl, hb'⟩
      have H3 := H2.out w1 hb'
      go_wp2_with (go_at_call 75; refine H3.out.mono ?_; rintro e w' ⟨rfl, rfl⟩)
      go_ret
      refine ⟨?_, hb'⟩
      rw [show (true && !false && decide (nsz n ≤ 255)) = decide ((nsz n : Int) ≤ 255) from by rw [Bool.not_false, Bool.true_and, Bool.true_and]; exact decide_eq_decide.2 (by omega)]
      rfl
  · rw [decide_eq_false h1]
    go_enter Try.func40, Try.ntmps40
    go_wp2
    go_ret
    exact ⟨rfl, Below.refl _ _⟩
theorem sound_calls_v (b : Bool) (v : Value) (n : List ByteArray) (w : World) (h : kS.Rd w (fun _ => True) v n) (hq : nSound n = b) :
    Calls Try.prog 40 #[v] w fun e w' => e = .returned (.bool b) ∧ Below w.heap.size w w' := by
  subst hq; exact sound_calls v n w h

/-! Equal -/
theorem toList_inj (a b : ByteArray) : (a.toList == b.toList) = decide (a = b) := by
  rw [Bool.eq_iff_iff]
  simp only [beq_iff_eq, decide_eq_true_eq, Lib.toList_data]
  constructor
  · intro h
    cases a; cases b
    congr
    exact Array.ext' h
  · rintro rfl; rfl
theorem equal1_calls (a b : ByteArray) (w : World) (ha : Sz a) (hb : Sz b) :
    Calls Try.prog 108 #[.string a, .string b] w fun e w' => e = .returned (.bool (decide (Nm.lows a = Nm.lows b))) ∧ Below w.heap.size w w' := by
  rw [← toList_inj]
  have h1 : ∀ w1, Aside0 (Calls Try.prog 109 #[.string a] w1 fun e w' => e = .returned (.string (Nm.lows a)) ∧ Below w1.heap.size w1 w') := fun w1 => ⟨Nm.small_calls a w1 (by have := ha.le; omega)⟩
  have h2 : ∀ w1, Aside0 (Calls Try.prog 109 #[.string b] w1 fun e w' => e = .returned (.string (Nm.lows b)) ∧ Below w1.heap.size w1 w') := fun w1 => ⟨Nm.small_calls b w1 (by have := hb.le; omega)⟩
  have H1 := Aside0.mk h1
  have H2 := Aside0.mk h2
  clear h1 h2 ha hb
  go_enter Try.func108, Try.ntmps108
  go_wp2_with fail
  refine (H1.out _).out.mono ?_
  rintro e w1 ⟨rfl, hb1⟩
  go_wp2_with fail
  refine (H2.out _).out.mono ?_
  rintro e w2 ⟨rfl, hb2⟩
  go_wp2_with fail
  go_ret
  exact ⟨rfl, hb1.trans (hb2.mono hb1.size)⟩
theorem map_lows_len {a b : List ByteArray} (h : a.map Nm.lows = b.map Nm.lows) : a.length = b.length := by
  have := congrArg List.length h
  simpa using this
set_option maxHeartbeats 1000000 in
theorem equalFunc_calls (u v : Value) (a b : List ByteArray) (w : World) (ha : kS.Rd w (fun _ => True) u a) (hb : kS.Rd w (fun _ => True) v b) :
    Calls Try.prog 107 #[u, v, .func (.func 108) #[] #[]] w fun e w' => e = .returned (.bool (nEq a b)) ∧ Below w.heap.size w w' := by
  have hsa := Aside0.mk (rd_sz ha)
  have hsb := Aside0.mk (rd_sz hb)
  have HA := Aside0.mk ha
  have HB := Aside0.mk hb
  have hma := ha.max
  have eg : ∀ args w, (callFunc 108 args).run Try.prog w = .ok (.enter 108 args) w := enters Try.func108 (by kernel_rfl) rfl
  obtain ⟨A, c, rfl, hl, _⟩ := ha
  obtain ⟨B, d, rfl, hl', _⟩ := hb
  by_cases hne : a.length = b.length
  · have hne' : ((a.length : Int) != (b.length : Int)) = false := bne_eq_false_iff_eq.mpr (by omega)
    have Hne := Aside0.mk hne
    clear hne
    go_enter Try.func107, Try.ntmps107
    go_wp2
    go_loopg [7, 8, 9, 17] a.length (fun gg _ _ _ s wr => ∃ k : Nat, k ≤ a.length ∧ a.length - k ≤ gg ∧ s = .int .i64 k ∧ Aside0 (Below w.heap.size w wr) ∧ Aside0 ((a.take k).map Nm.lows = (b.take k).map Nm.lows))
    case atStart => exact ⟨0, Nat.zero_le _, by omega, rfl, ⟨Below.refl _ w⟩, ⟨rfl⟩⟩
    case round =>
      obtain ⟨k, hk, hg, rfl, HW, HE⟩ := hrel
      by_cases hlt : k < a.length
      · have hltb : k < b.length := by have := Hne.out; omega
        obtain ⟨A', c', he, _, hra⟩ := HA.out.below pS HW.out
        obtain ⟨B', d', he', _, hrb⟩ := HB.out.below pS HW.out
        obtain ⟨rfl, rfl⟩ : A = A' ∧ c = c' := by injection he with h1 _ h3; exact ⟨h1, h3⟩
        obtain ⟨rfl, rfl⟩ : B = B' ∧ d = d' := by injection he' with h1 _ h3; exact ⟨h1, h3⟩
        obtain ⟨ad, rfl, hcell⟩ := cell_s hra k hlt
        obtain ⟨bd, rfl, hcell'⟩ := cell_s hrb k hltb
        have hC := Aside0.mk (equal1_calls a[k] b[k] wr (hsa.out _ (List.getElem_mem hlt)) (hsb.out _ (List.getElem_mem hltb)))
        have HX := Aside0.mk hlt
        have HY := Aside0.mk hltb
        have HE2 : Aside0 (Nm.lows a[k] = Nm.lows b[k] → (a.take (k+1)).map Nm.lows = (b.take (k+1)).map Nm.lows) := ⟨fun h => by
          rw [List.take_succ_eq_append_getElem hlt, List.take_succ_eq_append_getElem hltb, List.map_append, List.map_append, HE.out]
          simp [h]⟩
        have HE3 : Aside0 (¬ Nm.lows a[k] = Nm.lows b[k] → nEq a b = false) := ⟨fun h => by
          unfold nEq
          refine decide_eq_false fun e => h ?_
          have := congrArg (fun l => l[k]?) e
          simpa [List.getElem?_eq_getElem hlt, List.getElem?_eq_getElem hltb] using this⟩
        clear he he' hra hrb
        generalize a[k] = x at hcell hC HE2 HE3
        generalize b[k] = y at hcell' hC HE2 HE3
        by_cases hq : Nm.lows x = Nm.lows y
        · rw [decide_eq_true hq] at hC
          have HQ := Aside0.mk hq
          clear hq
          go_wp2_with fail
          refine hC.out.mono ?_
          rintro e w1 ⟨rfl, hb1⟩
          go_wp2_with fail
          go_roundg (a.length - (k + 1))
          case measure => omega
          case rel => exact ⟨k + 1, by omega, by omega, by go_num, ⟨HW.out.trans (hb1.mono HW.out.size)⟩, ⟨HE2.out HQ.out⟩⟩
        · rw [decide_eq_false hq] at hC
          have HQ := Aside0.mk hq
          clear hq
          go_wp2_with fail
          refine hC.out.mono ?_
          rintro e w1 ⟨rfl, hb1⟩
          go_wp2_with fail
          go_ret
          refine ⟨?_, HW.out.trans (hb1.mono HW.out.size)⟩
          rw [HE3.out HQ.out]; rfl
      · have hka : k = a.length := by omega
        have HK := Aside0.mk hka
        clear hka
        go_wp2
        go_ret
        refine ⟨?_, HW.out⟩
        have h1 := HE.out
        rw [List.take_of_length_le (by omega), List.take_of_length_le (by have := Hne.out; omega)] at h1
        unfold nEq
        rw [decide_eq_true h1]; rfl
  · have hne' : ((a.length : Int) != (b.length : Int)) = true := bne_iff_ne.mpr (by omega)
    have hr : nEq a b = false := by unfold nEq; exact decide_eq_false fun e => hne (map_lows_len e)
    rw [hr]
    clear hr
    go_enter Try.func107, Try.ntmps107
    go_wp2
    go_ret
    exact ⟨rfl, Below.refl _ _⟩
theorem equal_calls (u v : Value) (a b : List ByteArray) (w : World) (ha : kS.Rd w (fun _ => True) u a) (hb : kS.Rd w (fun _ => True) v b) :
    Calls Try.prog 76 #[u, v] w fun e w' => e = .returned (.bool (nEq a b)) ∧ Below w.heap.size w w' := by
  have hC := Aside0.mk (equalFunc_calls u v a b w ha hb)
  obtain ⟨A, c, rfl, hl, _⟩ := ha
  obtain ⟨B, d, rfl, hl', _⟩ := hb
  go_enter Try.func76, Try.ntmps76
  go_wp2_with fail
  refine hC.out.mono ?_
  rintro e w1 ⟨rfl, hb1⟩
  go_wp2_with fail
  go_ret
  exact ⟨rfl, hb1⟩

/-! Under -/
theorem infoS : ∃ i, Try.prog.info? 9 = some i ∧ i.size = kS.sz := by
  obtain ⟨i, h1, h2⟩ := Option.map_eq_some_iff.1 info_s
  simp only [Prod.mk.injEq] at h2
  exact ⟨i, h1, h2.2.1⟩
/-- n[len(n)-len(z):] -/
theorem tail_run (A : Option Addr) (c : Nat) (n : List ByteArray) (j : Int) (h0 : 0 ≤ j) (hm : j ≤ n.length) (hc : n.length ≤ c) :
    ∃ v', (∀ W : World, (Instr.slice 22 (.slice A n.length c) (some (.int .i64 j)) none none).run Try.prog W = .ok v' W) ∧ ∀ w ok, kS.Rd w ok (.slice A n.length c) n → kS.Rd w ok v' (n.drop j.toNat) := by
  obtain ⟨i, hi, hs⟩ := infoS
  obtain ⟨v', h1, h2⟩ := drop_run kS 22 9 Try.underlying22 hi hs A c n j h0 hm hc
  refine ⟨v', h1, fun w ok h => h2 w ok ?_⟩
  obtain ⟨A', c', he, _, hr⟩ := h
  injection he with h1 _ h3
  rw [h1]; exact hr
theorem under_calls (u v : Value) (n z : List ByteArray) (w : World) (hn : kS.Rd w (fun _ => True) u n) (hz : kS.Rd w (fun _ => True) v z) :
    Calls Try.prog 41 #[u, v] w fun e w' => e = .returned (.bool (nUnder n z)) ∧ Below w.heap.size w w' := by
  have HN := Aside0.mk hn
  have HZ := Aside0.mk hz
  have hmn := hn.max
  have hmz := hz.max
  obtain ⟨A, c, rfl, hl, _⟩ := hn
  obtain ⟨B, d, rfl, hl', _⟩ := hz
  by_cases hle : z.length ≤ n.length
  · obtain ⟨v', hrun, hrd⟩ := tail_run A c n ((n.length : Int) - (z.length : Int)) (by omega) (by omega) hl
    have hC := Aside0.mk (equal_calls v' _ _ z w (hrd w _ HN.out) HZ.out)
    rw [show ((n.length : Int) - (z.length : Int)).toNat = n.length - z.length from by omega] at hC
    have hq : nUnder n z = nEq (n.drop (n.length - z.length)) z := by unfold nUnder; rw [decide_eq_true hle]; rfl
    rw [hq]
    clear hrd hq
    go_enter Try.func41, Try.ntmps41
    go_wp2_with fail
    refine hC.out.mono ?_
    rintro e w1 ⟨rfl, hb1⟩
    go_wp2_with fail
    go_ret
    exact ⟨rfl, hb1⟩
  · have hq : nUnder n z = false := by unfold nUnder; rw [decide_eq_false hle]; rfl
    rw [hq]
    clear hq
    go_enter Try.func41, Try.ntmps41
    go_wp2
    go_ret
    exact ⟨rfl, Below.refl _ _⟩
end Go.Proofs.Ytkbjbkmaokebgaa.Gz

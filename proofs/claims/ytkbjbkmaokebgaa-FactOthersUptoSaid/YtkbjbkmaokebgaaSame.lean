import Derived.Test.YtkbjbkmaokebgaaRdat2
set_option linter.unusedVariables false
set_option linter.unusedSimpArgs false
namespace Go.Proofs.Ytkbjbkmaokebgaa.Gz
open Go.RowKit Go.Proofs.YtkbjbkmaokebgaaW.PrintWords
open Ki

set_option maxHeartbeats 1000000 in
theorem equal_u_calls (u v : Value) (a b : List Int) (w : World) (ha : kU.Rd w (fun _ => True) u a) (hb : kU.Rd w (fun _ => True) v b) :
    Calls Try.prog 132 #[u, v] w fun e w' => e = .returned (.bool (decide (a = b))) ∧ Below w.heap.size w w' := by
  have HA := Aside0.mk ha
  have HB := Aside0.mk hb
  have hma := ha.max
  obtain ⟨A, c, rfl, hl, _⟩ := ha
  obtain ⟨B, d, rfl, hl', _⟩ := hb
  by_cases hne : a.length = b.length
  · have hne' : ((a.length : Int) != (b.length : Int)) = false := bne_eq_false_iff_eq.mpr (by omega)
    have Hne := Aside0.mk hne
    clear hne
    go_enter Try.func132, Try.ntmps132
    go_wp2
    go_loopg [5, 13] a.length (fun gg _ s wr => ∃ k : Nat, k ≤ a.length ∧ a.length - k ≤ gg ∧ s = .int .i64 k ∧ Aside0 (Below w.heap.size w wr) ∧ Aside0 (a.take k = b.take k))
    case atStart => exact ⟨0, Nat.zero_le _, by omega, rfl, ⟨Below.refl _ w⟩, ⟨rfl⟩⟩
    case round =>
      obtain ⟨k, hk, hg, rfl, HW, HE⟩ := hrel
      by_cases hlt : k < a.length
      · have hltb : k < b.length := by have := Hne.out; omega
        obtain ⟨A', c', he, _, hra⟩ := HA.out.below (by decide) HW.out
        obtain ⟨B', d', he', _, hrb⟩ := HB.out.below (by decide) HW.out
        obtain ⟨rfl, rfl⟩ : A = A' ∧ c = c' := by injection he with h1 _ h3; exact ⟨h1, h3⟩
        obtain ⟨rfl, rfl⟩ : B = B' ∧ d = d' := by injection he' with h1 _ h3; exact ⟨h1, h3⟩
        obtain ⟨ad, rfl, hcell⟩ := cell_u hra k hlt
        obtain ⟨bd, rfl, hcell'⟩ := cell_u hrb k hltb
        have hI : (0 : Int) ≤ (k : Int) := by omega
        have hIa : (k : Int) < (a.length : Int) := by omega
        have hIb : (k : Int) < (b.length : Int) := by omega
        have HX : Aside0 (a[k] = b[k] → a.take (k + 1) = b.take (k + 1)) := ⟨take_succ_eq hlt hltb HE.out⟩
        have HY : Aside0 (¬ a[k] = b[k] → ¬ a = b) := ⟨ne_of_at hlt hltb⟩
        clear he he' hra hrb
        generalize a[k] = x at hcell HX HY
        generalize b[k] = y at hcell' HX HY
        by_cases hq : x = y
        · have hq' : (x != y) = false := bne_eq_false_iff_eq.mpr hq
          have HQ := Aside0.mk hq
          clear hq
          go_wp2
          (try go_quiet (fail))
          go_wp2
          go_roundg (a.length - (k + 1))
          case measure => omega
          case rel => exact ⟨k + 1, by omega, by omega, by go_num, ⟨pw_below_drewN HW.out _⟩, ⟨HX.out HQ.out⟩⟩
        · have hq' : (x != y) = true := bne_iff_ne.mpr hq
          have HQ := Aside0.mk hq
          clear hq
          go_wp2
          (try go_quiet (fail))
          go_wp2
          go_ret
          refine ⟨?_, pw_below_drewN HW.out _⟩
          rw [decide_eq_false (HY.out HQ.out)]; rfl
      · have hka : k = a.length := by omega
        have HK := Aside0.mk hka
        clear hka
        go_wp2
        go_ret
        refine ⟨?_, HW.out⟩
        have h1 := HE.out
        rw [List.take_of_length_le (by omega), List.take_of_length_le (by have := Hne.out; omega)] at h1
        rw [decide_eq_true h1]; rfl
  · have hne' : ((a.length : Int) != (b.length : Int)) = true := bne_iff_ne.mpr (by omega)
    have hr : decide (a = b) = false := decide_eq_false fun e => hne (by rw [e])
    rw [hr]
    clear hr
    go_enter Try.func132, Try.ntmps132
    go_wp2
    go_ret
    exact ⟨rfl, Below.refl _ _⟩


set_option maxHeartbeats 1000000 in
theorem equal_i_calls (u v : Value) (a b : List Int) (w : World) (ha : kI.Rd w (fun _ => True) u a) (hb : kI.Rd w (fun _ => True) v b) :
    Calls Try.prog 133 #[u, v] w fun e w' => e = .returned (.bool (decide (a = b))) ∧ Below w.heap.size w w' := by
  have HA := Aside0.mk ha
  have HB := Aside0.mk hb
  have hma := ha.max
  obtain ⟨A, c, rfl, hl, _⟩ := ha
  obtain ⟨B, d, rfl, hl', _⟩ := hb
  by_cases hne : a.length = b.length
  · have hne' : ((a.length : Int) != (b.length : Int)) = false := bne_eq_false_iff_eq.mpr (by omega)
    have Hne := Aside0.mk hne
    clear hne
    go_enter Try.func133, Try.ntmps133
    go_wp2
    go_loopg [5, 13] a.length (fun gg _ s wr => ∃ k : Nat, k ≤ a.length ∧ a.length - k ≤ gg ∧ s = .int .i64 k ∧ Aside0 (Below w.heap.size w wr) ∧ Aside0 (a.take k = b.take k))
    case atStart => exact ⟨0, Nat.zero_le _, by omega, rfl, ⟨Below.refl _ w⟩, ⟨rfl⟩⟩
    case round =>
      obtain ⟨k, hk, hg, rfl, HW, HE⟩ := hrel
      by_cases hlt : k < a.length
      · have hltb : k < b.length := by have := Hne.out; omega
        obtain ⟨A', c', he, _, hra⟩ := HA.out.below (by decide) HW.out
        obtain ⟨B', d', he', _, hrb⟩ := HB.out.below (by decide) HW.out
        obtain ⟨rfl, rfl⟩ : A = A' ∧ c = c' := by injection he with h1 _ h3; exact ⟨h1, h3⟩
        obtain ⟨rfl, rfl⟩ : B = B' ∧ d = d' := by injection he' with h1 _ h3; exact ⟨h1, h3⟩
        obtain ⟨ad, rfl, hcell⟩ := cell_i hra k hlt
        obtain ⟨bd, rfl, hcell'⟩ := cell_i hrb k hltb
        have hI : (0 : Int) ≤ (k : Int) := by omega
        have hIa : (k : Int) < (a.length : Int) := by omega
        have hIb : (k : Int) < (b.length : Int) := by omega
        have HX : Aside0 (a[k] = b[k] → a.take (k + 1) = b.take (k + 1)) := ⟨take_succ_eq hlt hltb HE.out⟩
        have HY : Aside0 (¬ a[k] = b[k] → ¬ a = b) := ⟨ne_of_at hlt hltb⟩
        clear he he' hra hrb
        generalize a[k] = x at hcell HX HY
        generalize b[k] = y at hcell' HX HY
        by_cases hq : x = y
        · have hq' : (x != y) = false := bne_eq_false_iff_eq.mpr hq
          have HQ := Aside0.mk hq
          clear hq
          go_wp2
          (try go_quiet (fail))
          go_wp2
          go_roundg (a.length - (k + 1))
          case measure => omega
          case rel => exact ⟨k + 1, by omega, by omega, by go_num, ⟨pw_below_drewN HW.out _⟩, ⟨HX.out HQ.out⟩⟩
        · have hq' : (x != y) = true := bne_iff_ne.mpr hq
          have HQ := Aside0.mk hq
          clear hq
          go_wp2
          (try go_quiet (fail))
          go_wp2
          go_ret
          refine ⟨?_, pw_below_drewN HW.out _⟩
          rw [decide_eq_false (HY.out HQ.out)]; rfl
      · have hka : k = a.length := by omega
        have HK := Aside0.mk hka
        clear hka
        go_wp2
        go_ret
        refine ⟨?_, HW.out⟩
        have h1 := HE.out
        rw [List.take_of_length_le (by omega), List.take_of_length_le (by have := Hne.out; omega)] at h1
        rw [decide_eq_true h1]; rfl
  · have hne' : ((a.length : Int) != (b.length : Int)) = true := bne_iff_ne.mpr (by omega)
    have hr : decide (a = b) = false := decide_eq_false fun e => hne (by rw [e])
    rw [hr]
    clear hr
    go_enter Try.func133, Try.ntmps133
    go_wp2
    go_ret
    exact ⟨rfl, Below.refl _ _⟩


set_option maxHeartbeats 1000000 in
theorem equal_s_calls (u v : Value) (a b : List ByteArray) (w : World) (ha : kS.Rd w (fun _ => True) u a) (hb : kS.Rd w (fun _ => True) v b) :
    Calls Try.prog 134 #[u, v] w fun e w' => e = .returned (.bool (decide (a = b))) ∧ Below w.heap.size w w' := by
  have HA := Aside0.mk ha
  have HB := Aside0.mk hb
  have hma := ha.max
  obtain ⟨A, c, rfl, hl, _⟩ := ha
  obtain ⟨B, d, rfl, hl', _⟩ := hb
  by_cases hne : a.length = b.length
  · have hne' : ((a.length : Int) != (b.length : Int)) = false := bne_eq_false_iff_eq.mpr (by omega)
    have Hne := Aside0.mk hne
    clear hne
    go_enter Try.func134, Try.ntmps134
    go_wp2
    go_loopg [5, 13] a.length (fun gg _ s wr => ∃ k : Nat, k ≤ a.length ∧ a.length - k ≤ gg ∧ s = .int .i64 k ∧ Aside0 (Below w.heap.size w wr) ∧ Aside0 (a.take k = b.take k))
    case atStart => exact ⟨0, Nat.zero_le _, by omega, rfl, ⟨Below.refl _ w⟩, ⟨rfl⟩⟩
    case round =>
      obtain ⟨k, hk, hg, rfl, HW, HE⟩ := hrel
      by_cases hlt : k < a.length
      · have hltb : k < b.length := by have := Hne.out; omega
        obtain ⟨A', c', he, _, hra⟩ := HA.out.below (by decide) HW.out
        obtain ⟨B', d', he', _, hrb⟩ := HB.out.below (by decide) HW.out
        obtain ⟨rfl, rfl⟩ : A = A' ∧ c = c' := by injection he with h1 _ h3; exact ⟨h1, h3⟩
        obtain ⟨rfl, rfl⟩ : B = B' ∧ d = d' := by injection he' with h1 _ h3; exact ⟨h1, h3⟩
        obtain ⟨ad, rfl, hcell⟩ := cell_s hra k hlt
        obtain ⟨bd, rfl, hcell'⟩ := cell_s hrb k hltb
        have hI : (0 : Int) ≤ (k : Int) := by omega
        have hIa : (k : Int) < (a.length : Int) := by omega
        have hIb : (k : Int) < (b.length : Int) := by omega
        have HX : Aside0 (a[k] = b[k] → a.take (k + 1) = b.take (k + 1)) := ⟨take_succ_eq hlt hltb HE.out⟩
        have HY : Aside0 (¬ a[k] = b[k] → ¬ a = b) := ⟨ne_of_at hlt hltb⟩
        clear he he' hra hrb
        generalize a[k] = x at hcell HX HY
        generalize b[k] = y at hcell' HX HY
        by_cases hq : x = y
        · have hq' : (x.toList == y.toList) = true := by rw [toList_inj, decide_eq_true hq]
          have HQ := Aside0.mk hq
          clear hq
          go_wp2
          (try go_quiet (fail))
          go_wp2
          go_roundg (a.length - (k + 1))
          case measure => omega
          case rel => exact ⟨k + 1, by omega, by omega, by go_num, ⟨pw_below_drewN HW.out _⟩, ⟨HX.out HQ.out⟩⟩
        · have hq' : (x.toList == y.toList) = false := by rw [toList_inj, decide_eq_false hq]
          have HQ := Aside0.mk hq
          clear hq
          go_wp2
          (try go_quiet (fail))
          go_wp2
          go_ret
          refine ⟨?_, pw_below_drewN HW.out _⟩
          rw [decide_eq_false (HY.out HQ.out)]; rfl
      · have hka : k = a.length := by omega
        have HK := Aside0.mk hka
        clear hka
        go_wp2
        go_ret
        refine ⟨?_, HW.out⟩
        have h1 := HE.out
        rw [List.take_of_length_le (by omega), List.take_of_length_le (by have := Hne.out; omega)] at h1
        rw [decide_eq_true h1]; rfl
  · have hne' : ((a.length : Int) != (b.length : Int)) = true := bne_iff_ne.mpr (by omega)
    have hr : decide (a = b) = false := decide_eq_false fun e => hne (by rw [e])
    rw [hr]
    clear hr
    go_enter Try.func134, Try.ntmps134
    go_wp2
    go_ret
    exact ⟨rfl, Below.refl _ _⟩

theorem bv {f : FuncId} {args : Array Value} {w : World} {X b : Bool} {R : World → Prop} (h : Calls Try.prog f args w fun e w' => e = .returned (.bool X) ∧ R w') (hq : X = b) :
    Calls Try.prog f args w fun e w' => e = .returned (.bool b) ∧ R w' := by subst hq; exact h
/-- Do both say the same? -/
def dSame (a b : Dat) : Bool := decide (a.bytes = b.bytes) && decide (a.nums = b.nums) && decide (a.texts = b.texts) && nEq a.host b.host && nEq a.mail b.mail
def dExact (a b : Dat) : Bool := dSame a b && decide (a.host = b.host) && decide (a.mail = b.mail)
def rrSame (a b : RR) : Bool := decide (a.name = b.name) && decide (a.typ = b.typ) && decide (a.cls = b.cls) && decide (a.ttl = b.ttl) && dExact a.data b.data
set_option maxHeartbeats 4000000 in
set_option maxRecDepth 100000 in
theorem dsame_calls (a b : Dat) (ca cb : List Value) (w : World) (ha : kD.K w (fun _ => True) a ca) (hb : kD.K w (fun _ => True) b cb) :
    Calls Try.prog 105 #[.agg ca.toArray, .agg cb.toArray] w fun e w' => e = .returned (.bool (dSame a b)) ∧ Below w.heap.size w w' := by
  have HD : Aside0 ((dSame a b) = true ↔ (a.bytes = b.bytes ∧ a.nums = b.nums ∧ a.texts = b.texts ∧ nEq a.host b.host = true ∧ nEq a.mail b.mail = true)) := ⟨by unfold dSame; simp [Bool.and_eq_true, and_assoc]⟩
  obtain ⟨vba, vha, vma, vna, vta, rfl, hba, hha, hma, hna, hta⟩ := ha
  have RBa := Aside0.mk hba
  have RHa := Aside0.mk hha
  have RMa := Aside0.mk hma
  have RNa := Aside0.mk hna
  have RTa := Aside0.mk hta
  clear hba hha hma hna hta
  obtain ⟨vbb, vhb, vmb, vnb, vtb, rfl, hbb, hhb, hmb, hnb, htb⟩ := hb
  have RBb := Aside0.mk hbb
  have RHb := Aside0.mk hhb
  have RMb := Aside0.mk hmb
  have RNb := Aside0.mk hnb
  have RTb := Aside0.mk htb
  clear hbb hhb hmb hnb htb
  have BX : Aside0 (Below w.heap.size w ((w.alloc (.cells #[vba, vha, vma, vna, vta] 42)).alloc (.cells #[vbb, vhb, vmb, vnb, vtb] 42))) := ⟨below_alloc (below_alloc (Below.refl _ _) _) _⟩
  have HB0 : Aside0 (Below ((w.alloc (.cells #[vba, vha, vma, vna, vta] 42)).alloc (.cells #[vbb, vhb, vmb, vnb, vtb] 42)).heap.size ((w.alloc (.cells #[vba, vha, vma, vna, vta] 42)).alloc (.cells #[vbb, vhb, vmb, vnb, vtb] 42)) ((w.alloc (.cells #[vba, vha, vma, vna, vta] 42)).alloc (.cells #[vbb, vhb, vmb, vnb, vtb] 42))) := ⟨Below.refl _ _⟩
  by_cases q_by : a.bytes = b.bytes
  rotate_left
  · have HN : Aside0 ((dSame a b) = false) := ⟨eq_false_of_ne_true fun h => q_by (by obtain ⟨g_by, g_nu, g_tx, g_ho, g_ma⟩ := HD.out.1 h; exact g_by)⟩
    have e_by := Aside0.mk q_by
    clear q_by
    go_enter Try.func105, Try.ntmps105
    go_wp2_with fail
    refine (bv (equal_u_calls _ _ a.bytes b.bytes _ (RBa.out.below pU (BX.out.trans (HB0.out.mono (by simp; try omega)))) (RBb.out.below pU (BX.out.trans (HB0.out.mono (by simp; try omega))))) (decide_eq_false e_by.out)).mono ?_
    rintro e w1 ⟨rfl, hb1⟩
    have HB1 := Aside0.mk (HB0.out.trans (hb1.mono HB0.out.size))
    clear hb1
    obtain ⟨bc, bf⟩ := bcell HB1.out
    go_wp2_with fail
    go_ret
    refine ⟨?_, (BX.out.trans (HB1.out.mono (by simp; try omega)))⟩
    rw [HN.out]; rfl
  have e_by := Aside0.mk q_by
  clear q_by
  by_cases q_nu : a.nums = b.nums
  rotate_left
  · have HN : Aside0 ((dSame a b) = false) := ⟨eq_false_of_ne_true fun h => q_nu (by obtain ⟨g_by, g_nu, g_tx, g_ho, g_ma⟩ := HD.out.1 h; exact g_nu)⟩
    have e_nu := Aside0.mk q_nu
    clear q_nu
    go_enter Try.func105, Try.ntmps105
    go_wp2_with fail
    refine (bv (equal_u_calls _ _ a.bytes b.bytes _ (RBa.out.below pU (BX.out.trans (HB0.out.mono (by simp; try omega)))) (RBb.out.below pU (BX.out.trans (HB0.out.mono (by simp; try omega))))) (decide_eq_true e_by.out)).mono ?_
    rintro e w1 ⟨rfl, hb1⟩
    have HB1 := Aside0.mk (HB0.out.trans (hb1.mono HB0.out.size))
    clear hb1
    obtain ⟨bc, bf⟩ := bcell HB1.out
    go_wp2_with fail
    refine (bv (equal_i_calls _ _ a.nums b.nums _ (RNa.out.below pI (BX.out.trans (HB1.out.mono (by simp; try omega)))) (RNb.out.below pI (BX.out.trans (HB1.out.mono (by simp; try omega))))) (decide_eq_false e_nu.out)).mono ?_
    rintro e w2 ⟨rfl, hb2⟩
    have HB2 := Aside0.mk (HB1.out.trans (hb2.mono HB1.out.size))
    clear hb2
    clear bc bf
    obtain ⟨bc, bf⟩ := bcell HB2.out
    go_wp2_with fail
    go_ret
    refine ⟨?_, (BX.out.trans (HB2.out.mono (by simp; try omega)))⟩
    rw [HN.out]; rfl
  have e_nu := Aside0.mk q_nu
  clear q_nu
  by_cases q_tx : a.texts = b.texts
  rotate_left
  · have HN : Aside0 ((dSame a b) = false) := ⟨eq_false_of_ne_true fun h => q_tx (by obtain ⟨g_by, g_nu, g_tx, g_ho, g_ma⟩ := HD.out.1 h; exact g_tx)⟩
    have e_tx := Aside0.mk q_tx
    clear q_tx
    go_enter Try.func105, Try.ntmps105
    go_wp2_with fail
    refine (bv (equal_u_calls _ _ a.bytes b.bytes _ (RBa.out.below pU (BX.out.trans (HB0.out.mono (by simp; try omega)))) (RBb.out.below pU (BX.out.trans (HB0.out.mono (by simp; try omega))))) (decide_eq_true e_by.out)).mono ?_
    rintro e w1 ⟨rfl, hb1⟩
    have HB1 := Aside0.mk (HB0.out.trans (hb1.mono HB0.out.size))
    clear hb1
    obtain ⟨bc, bf⟩ := bcell HB1.out
    go_wp2_with fail
    refine (bv (equal_i_calls _ _ a.nums b.nums _ (RNa.out.below pI (BX.out.trans (HB1.out.mono (by simp; try omega)))) (RNb.out.below pI (BX.out.trans (HB1.out.mono (by simp; try omega))))) (decide_eq_true e_nu.out)).mono ?_
    rintro e w2 ⟨rfl, hb2⟩
    have HB2 := Aside0.mk (HB1.out.trans (hb2.mono HB1.out.size))
    clear hb2
    clear bc bf
    obtain ⟨bc, bf⟩ := bcell HB2.out
    go_wp2_with fail
    refine (bv (equal_s_calls _ _ a.texts b.texts _ (RTa.out.below pS (BX.out.trans (HB2.out.mono (by simp; try omega)))) (RTb.out.below pS (BX.out.trans (HB2.out.mono (by simp; try omega))))) (decide_eq_false e_tx.out)).mono ?_
    rintro e w3 ⟨rfl, hb3⟩
    have HB3 := Aside0.mk (HB2.out.trans (hb3.mono HB2.out.size))
    clear hb3
    clear bc bf
    obtain ⟨bc, bf⟩ := bcell HB3.out
    go_wp2_with fail
    go_ret
    refine ⟨?_, (BX.out.trans (HB3.out.mono (by simp; try omega)))⟩
    rw [HN.out]; rfl
  have e_tx := Aside0.mk q_tx
  clear q_tx
  by_cases q_ho : nEq a.host b.host = true
  rotate_left
  · have HN : Aside0 ((dSame a b) = false) := ⟨eq_false_of_ne_true fun h => q_ho (by obtain ⟨g_by, g_nu, g_tx, g_ho, g_ma⟩ := HD.out.1 h; exact g_ho)⟩
    have e_ho := Aside0.mk q_ho
    clear q_ho
    go_enter Try.func105, Try.ntmps105
    go_wp2_with fail
    refine (bv (equal_u_calls _ _ a.bytes b.bytes _ (RBa.out.below pU (BX.out.trans (HB0.out.mono (by simp; try omega)))) (RBb.out.below pU (BX.out.trans (HB0.out.mono (by simp; try omega))))) (decide_eq_true e_by.out)).mono ?_
    rintro e w1 ⟨rfl, hb1⟩
    have HB1 := Aside0.mk (HB0.out.trans (hb1.mono HB0.out.size))
    clear hb1
    obtain ⟨bc, bf⟩ := bcell HB1.out
    go_wp2_with fail
    refine (bv (equal_i_calls _ _ a.nums b.nums _ (RNa.out.below pI (BX.out.trans (HB1.out.mono (by simp; try omega)))) (RNb.out.below pI (BX.out.trans (HB1.out.mono (by simp; try omega))))) (decide_eq_true e_nu.out)).mono ?_
    rintro e w2 ⟨rfl, hb2⟩
    have HB2 := Aside0.mk (HB1.out.trans (hb2.mono HB1.out.size))
    clear hb2
    clear bc bf
    obtain ⟨bc, bf⟩ := bcell HB2.out
    go_wp2_with fail
    refine (bv (equal_s_calls _ _ a.texts b.texts _ (RTa.out.below pS (BX.out.trans (HB2.out.mono (by simp; try omega)))) (RTb.out.below pS (BX.out.trans (HB2.out.mono (by simp; try omega))))) (decide_eq_true e_tx.out)).mono ?_
    rintro e w3 ⟨rfl, hb3⟩
    have HB3 := Aside0.mk (HB2.out.trans (hb3.mono HB2.out.size))
    clear hb3
    clear bc bf
    obtain ⟨bc, bf⟩ := bcell HB3.out
    go_wp2_with fail
    refine (bv (equal_calls _ _ a.host b.host _ (RHa.out.below pS (BX.out.trans (HB3.out.mono (by simp; try omega)))) (RHb.out.below pS (BX.out.trans (HB3.out.mono (by simp; try omega))))) (eq_false_of_ne_true e_ho.out)).mono ?_
    rintro e w4 ⟨rfl, hb4⟩
    have HB4 := Aside0.mk (HB3.out.trans (hb4.mono HB3.out.size))
    clear hb4
    clear bc bf
    obtain ⟨bc, bf⟩ := bcell HB4.out
    go_wp2_with fail
    go_ret
    refine ⟨?_, (BX.out.trans (HB4.out.mono (by simp; try omega)))⟩
    rw [HN.out]; rfl
  have e_ho := Aside0.mk q_ho
  clear q_ho
  by_cases q_ma : nEq a.mail b.mail = true
  rotate_left
  · have HN : Aside0 ((dSame a b) = false) := ⟨eq_false_of_ne_true fun h => q_ma (by obtain ⟨g_by, g_nu, g_tx, g_ho, g_ma⟩ := HD.out.1 h; exact g_ma)⟩
    have e_ma := Aside0.mk q_ma
    clear q_ma
    go_enter Try.func105, Try.ntmps105
    go_wp2_with fail
    refine (bv (equal_u_calls _ _ a.bytes b.bytes _ (RBa.out.below pU (BX.out.trans (HB0.out.mono (by simp; try omega)))) (RBb.out.below pU (BX.out.trans (HB0.out.mono (by simp; try omega))))) (decide_eq_true e_by.out)).mono ?_
    rintro e w1 ⟨rfl, hb1⟩
    have HB1 := Aside0.mk (HB0.out.trans (hb1.mono HB0.out.size))
    clear hb1
    obtain ⟨bc, bf⟩ := bcell HB1.out
    go_wp2_with fail
    refine (bv (equal_i_calls _ _ a.nums b.nums _ (RNa.out.below pI (BX.out.trans (HB1.out.mono (by simp; try omega)))) (RNb.out.below pI (BX.out.trans (HB1.out.mono (by simp; try omega))))) (decide_eq_true e_nu.out)).mono ?_
    rintro e w2 ⟨rfl, hb2⟩
    have HB2 := Aside0.mk (HB1.out.trans (hb2.mono HB1.out.size))
    clear hb2
    clear bc bf
    obtain ⟨bc, bf⟩ := bcell HB2.out
    go_wp2_with fail
    refine (bv (equal_s_calls _ _ a.texts b.texts _ (RTa.out.below pS (BX.out.trans (HB2.out.mono (by simp; try omega)))) (RTb.out.below pS (BX.out.trans (HB2.out.mono (by simp; try omega))))) (decide_eq_true e_tx.out)).mono ?_
    rintro e w3 ⟨rfl, hb3⟩
    have HB3 := Aside0.mk (HB2.out.trans (hb3.mono HB2.out.size))
    clear hb3
    clear bc bf
    obtain ⟨bc, bf⟩ := bcell HB3.out
    go_wp2_with fail
    refine (bv (equal_calls _ _ a.host b.host _ (RHa.out.below pS (BX.out.trans (HB3.out.mono (by simp; try omega)))) (RHb.out.below pS (BX.out.trans (HB3.out.mono (by simp; try omega))))) (e_ho.out)).mono ?_
    rintro e w4 ⟨rfl, hb4⟩
    have HB4 := Aside0.mk (HB3.out.trans (hb4.mono HB3.out.size))
    clear hb4
    clear bc bf
    obtain ⟨bc, bf⟩ := bcell HB4.out
    go_wp2_with fail
    refine (bv (equal_calls _ _ a.mail b.mail _ (RMa.out.below pS (BX.out.trans (HB4.out.mono (by simp; try omega)))) (RMb.out.below pS (BX.out.trans (HB4.out.mono (by simp; try omega))))) (eq_false_of_ne_true e_ma.out)).mono ?_
    rintro e w5 ⟨rfl, hb5⟩
    have HB5 := Aside0.mk (HB4.out.trans (hb5.mono HB4.out.size))
    clear hb5
    clear bc bf
    obtain ⟨bc, bf⟩ := bcell HB5.out
    go_wp2_with fail
    go_ret
    refine ⟨?_, (BX.out.trans (HB5.out.mono (by simp; try omega)))⟩
    rw [HN.out]; rfl
  have e_ma := Aside0.mk q_ma
  clear q_ma
  have HY : Aside0 ((dSame a b) = true) := ⟨HD.out.2 ⟨e_by.out, e_nu.out, e_tx.out, e_ho.out, e_ma.out⟩⟩
  go_enter Try.func105, Try.ntmps105
  go_wp2_with fail
  refine (bv (equal_u_calls _ _ a.bytes b.bytes _ (RBa.out.below pU (BX.out.trans (HB0.out.mono (by simp; try omega)))) (RBb.out.below pU (BX.out.trans (HB0.out.mono (by simp; try omega))))) (decide_eq_true e_by.out)).mono ?_
  rintro e w1 ⟨rfl, hb1⟩
  have HB1 := Aside0.mk (HB0.out.trans (hb1.mono HB0.out.size))
  clear hb1
  obtain ⟨bc, bf⟩ := bcell HB1.out
  go_wp2_with fail
  refine (bv (equal_i_calls _ _ a.nums b.nums _ (RNa.out.below pI (BX.out.trans (HB1.out.mono (by simp; try omega)))) (RNb.out.below pI (BX.out.trans (HB1.out.mono (by simp; try omega))))) (decide_eq_true e_nu.out)).mono ?_
  rintro e w2 ⟨rfl, hb2⟩
  have HB2 := Aside0.mk (HB1.out.trans (hb2.mono HB1.out.size))
  clear hb2
  clear bc bf
  obtain ⟨bc, bf⟩ := bcell HB2.out
  go_wp2_with fail
  refine (bv (equal_s_calls _ _ a.texts b.texts _ (RTa.out.below pS (BX.out.trans (HB2.out.mono (by simp; try omega)))) (RTb.out.below pS (BX.out.trans (HB2.out.mono (by simp; try omega))))) (decide_eq_true e_tx.out)).mono ?_
  rintro e w3 ⟨rfl, hb3⟩
  have HB3 := Aside0.mk (HB2.out.trans (hb3.mono HB2.out.size))
  clear hb3
  clear bc bf
  obtain ⟨bc, bf⟩ := bcell HB3.out
  go_wp2_with fail
  refine (bv (equal_calls _ _ a.host b.host _ (RHa.out.below pS (BX.out.trans (HB3.out.mono (by simp; try omega)))) (RHb.out.below pS (BX.out.trans (HB3.out.mono (by simp; try omega))))) (e_ho.out)).mono ?_
  rintro e w4 ⟨rfl, hb4⟩
  have HB4 := Aside0.mk (HB3.out.trans (hb4.mono HB3.out.size))
  clear hb4
  clear bc bf
  obtain ⟨bc, bf⟩ := bcell HB4.out
  go_wp2_with fail
  refine (bv (equal_calls _ _ a.mail b.mail _ (RMa.out.below pS (BX.out.trans (HB4.out.mono (by simp; try omega)))) (RMb.out.below pS (BX.out.trans (HB4.out.mono (by simp; try omega))))) (e_ma.out)).mono ?_
  rintro e w5 ⟨rfl, hb5⟩
  have HB5 := Aside0.mk (HB4.out.trans (hb5.mono HB4.out.size))
  clear hb5
  clear bc bf
  obtain ⟨bc, bf⟩ := bcell HB5.out
  go_wp2_with fail
  go_ret
  refine ⟨?_, (BX.out.trans (HB5.out.mono (by simp; try omega)))⟩
  rw [HY.out]; rfl
theorem texts_calls (u v : Value) (a b : List ByteArray) (w : World) (ha : kS.Rd w (fun _ => True) u a) (hb : kS.Rd w (fun _ => True) v b) :
    Calls Try.prog 68 #[u, v] w fun e w' => e = .returned (.bool (decide (a = b))) ∧ Below w.heap.size w w' := by
  have hC := Aside0.mk (exact_calls u v a b w ha hb)
  obtain ⟨A, c, rfl, hl, _⟩ := ha
  obtain ⟨B, d, rfl, hl', _⟩ := hb
  go_enter Try.func68, Try.ntmps68
  go_wp2_with fail
  refine hC.out.mono ?_
  rintro e w1 ⟨rfl, hb1⟩
  go_wp2_with fail
  go_ret
  exact ⟨rfl, hb1⟩
set_option maxHeartbeats 4000000 in
set_option maxRecDepth 100000 in
theorem rdsame_calls (a b : Dat) (ca cb : List Value) (w : World) (ha : kD.K w (fun _ => True) a ca) (hb : kD.K w (fun _ => True) b cb) :
    Calls Try.prog 37 #[.agg ca.toArray, .agg cb.toArray] w fun e w' => e = .returned (.bool (dSame a b)) ∧ Below w.heap.size w w' := by
  have HD : Aside0 ((dSame a b) = true ↔ (a.bytes = b.bytes ∧ a.nums = b.nums ∧ a.texts = b.texts ∧ nEq a.host b.host = true ∧ nEq a.mail b.mail = true)) := ⟨by unfold dSame; simp [Bool.and_eq_true, and_assoc]⟩
  obtain ⟨vba, vha, vma, vna, vta, rfl, hba, hha, hma, hna, hta⟩ := ha
  have RBa := Aside0.mk hba
  have RHa := Aside0.mk hha
  have RMa := Aside0.mk hma
  have RNa := Aside0.mk hna
  have RTa := Aside0.mk hta
  clear hba hha hma hna hta
  obtain ⟨vbb, vhb, vmb, vnb, vtb, rfl, hbb, hhb, hmb, hnb, htb⟩ := hb
  have RBb := Aside0.mk hbb
  have RHb := Aside0.mk hhb
  have RMb := Aside0.mk hmb
  have RNb := Aside0.mk hnb
  have RTb := Aside0.mk htb
  clear hbb hhb hmb hnb htb
  have BX : Aside0 (Below w.heap.size w ((w.alloc (.cells #[vba, vha, vma, vna, vta] 42)).alloc (.cells #[vbb, vhb, vmb, vnb, vtb] 42))) := ⟨below_alloc (below_alloc (Below.refl _ _) _) _⟩
  have HB0 : Aside0 (Below ((w.alloc (.cells #[vba, vha, vma, vna, vta] 42)).alloc (.cells #[vbb, vhb, vmb, vnb, vtb] 42)).heap.size ((w.alloc (.cells #[vba, vha, vma, vna, vta] 42)).alloc (.cells #[vbb, vhb, vmb, vnb, vtb] 42)) ((w.alloc (.cells #[vba, vha, vma, vna, vta] 42)).alloc (.cells #[vbb, vhb, vmb, vnb, vtb] 42))) := ⟨Below.refl _ _⟩
  by_cases q_by : a.bytes = b.bytes
  rotate_left
  · have HN : Aside0 ((dSame a b) = false) := ⟨eq_false_of_ne_true fun h => q_by (by obtain ⟨g_by, g_nu, g_tx, g_ho, g_ma⟩ := HD.out.1 h; exact g_by)⟩
    have e_by := Aside0.mk q_by
    clear q_by
    go_enter Try.func37, Try.ntmps37
    go_wp2_with fail
    refine (bv (same_calls _ _ a.bytes b.bytes _ (RBa.out.below pU (BX.out.trans (HB0.out.mono (by simp; try omega)))) (RBb.out.below pU (BX.out.trans (HB0.out.mono (by simp; try omega))))) (decide_eq_false e_by.out)).mono ?_
    rintro e w1 ⟨rfl, hb1⟩
    have HB1 := Aside0.mk (HB0.out.trans (hb1.mono HB0.out.size))
    clear hb1
    obtain ⟨bc, bf⟩ := bcell HB1.out
    go_wp2_with fail
    go_ret
    refine ⟨?_, (BX.out.trans (HB1.out.mono (by simp; try omega)))⟩
    rw [HN.out]; rfl
  have e_by := Aside0.mk q_by
  clear q_by
  by_cases q_nu : a.nums = b.nums
  rotate_left
  · have HN : Aside0 ((dSame a b) = false) := ⟨eq_false_of_ne_true fun h => q_nu (by obtain ⟨g_by, g_nu, g_tx, g_ho, g_ma⟩ := HD.out.1 h; exact g_nu)⟩
    have e_nu := Aside0.mk q_nu
    clear q_nu
    go_enter Try.func37, Try.ntmps37
    go_wp2_with fail
    refine (bv (same_calls _ _ a.bytes b.bytes _ (RBa.out.below pU (BX.out.trans (HB0.out.mono (by simp; try omega)))) (RBb.out.below pU (BX.out.trans (HB0.out.mono (by simp; try omega))))) (decide_eq_true e_by.out)).mono ?_
    rintro e w1 ⟨rfl, hb1⟩
    have HB1 := Aside0.mk (HB0.out.trans (hb1.mono HB0.out.size))
    clear hb1
    obtain ⟨bc, bf⟩ := bcell HB1.out
    go_wp2_with fail
    refine (bv (ints_calls _ _ a.nums b.nums _ (RNa.out.below pI (BX.out.trans (HB1.out.mono (by simp; try omega)))) (RNb.out.below pI (BX.out.trans (HB1.out.mono (by simp; try omega))))) (decide_eq_false e_nu.out)).mono ?_
    rintro e w2 ⟨rfl, hb2⟩
    have HB2 := Aside0.mk (HB1.out.trans (hb2.mono HB1.out.size))
    clear hb2
    clear bc bf
    obtain ⟨bc, bf⟩ := bcell HB2.out
    go_wp2_with fail
    go_ret
    refine ⟨?_, (BX.out.trans (HB2.out.mono (by simp; try omega)))⟩
    rw [HN.out]; rfl
  have e_nu := Aside0.mk q_nu
  clear q_nu
  by_cases q_tx : a.texts = b.texts
  rotate_left
  · have HN : Aside0 ((dSame a b) = false) := ⟨eq_false_of_ne_true fun h => q_tx (by obtain ⟨g_by, g_nu, g_tx, g_ho, g_ma⟩ := HD.out.1 h; exact g_tx)⟩
    have e_tx := Aside0.mk q_tx
    clear q_tx
    go_enter Try.func37, Try.ntmps37
    go_wp2_with fail
    refine (bv (same_calls _ _ a.bytes b.bytes _ (RBa.out.below pU (BX.out.trans (HB0.out.mono (by simp; try omega)))) (RBb.out.below pU (BX.out.trans (HB0.out.mono (by simp; try omega))))) (decide_eq_true e_by.out)).mono ?_
    rintro e w1 ⟨rfl, hb1⟩
    have HB1 := Aside0.mk (HB0.out.trans (hb1.mono HB0.out.size))
    clear hb1
    obtain ⟨bc, bf⟩ := bcell HB1.out
    go_wp2_with fail
    refine (bv (ints_calls _ _ a.nums b.nums _ (RNa.out.below pI (BX.out.trans (HB1.out.mono (by simp; try omega)))) (RNb.out.below pI (BX.out.trans (HB1.out.mono (by simp; try omega))))) (decide_eq_true e_nu.out)).mono ?_
    rintro e w2 ⟨rfl, hb2⟩
    have HB2 := Aside0.mk (HB1.out.trans (hb2.mono HB1.out.size))
    clear hb2
    clear bc bf
    obtain ⟨bc, bf⟩ := bcell HB2.out
    go_wp2_with fail
    refine (bv (texts_calls _ _ a.texts b.texts _ (RTa.out.below pS (BX.out.trans (HB2.out.mono (by simp; try omega)))) (RTb.out.below pS (BX.out.trans (HB2.out.mono (by simp; try omega))))) (decide_eq_false e_tx.out)).mono ?_
    rintro e w3 ⟨rfl, hb3⟩
    have HB3 := Aside0.mk (HB2.out.trans (hb3.mono HB2.out.size))
    clear hb3
    clear bc bf
    obtain ⟨bc, bf⟩ := bcell HB3.out
    go_wp2_with fail
    go_ret
    refine ⟨?_, (BX.out.trans (HB3.out.mono (by simp; try omega)))⟩
    rw [HN.out]; rfl
  have e_tx := Aside0.mk q_tx
  clear q_tx
  by_cases q_ho : nEq a.host b.host = true
  rotate_left
  · have HN : Aside0 ((dSame a b) = false) := ⟨eq_false_of_ne_true fun h => q_ho (by obtain ⟨g_by, g_nu, g_tx, g_ho, g_ma⟩ := HD.out.1 h; exact g_ho)⟩
    have e_ho := Aside0.mk q_ho
    clear q_ho
    go_enter Try.func37, Try.ntmps37
    go_wp2_with fail
    refine (bv (same_calls _ _ a.bytes b.bytes _ (RBa.out.below pU (BX.out.trans (HB0.out.mono (by simp; try omega)))) (RBb.out.below pU (BX.out.trans (HB0.out.mono (by simp; try omega))))) (decide_eq_true e_by.out)).mono ?_
    rintro e w1 ⟨rfl, hb1⟩
    have HB1 := Aside0.mk (HB0.out.trans (hb1.mono HB0.out.size))
    clear hb1
    obtain ⟨bc, bf⟩ := bcell HB1.out
    go_wp2_with fail
    refine (bv (ints_calls _ _ a.nums b.nums _ (RNa.out.below pI (BX.out.trans (HB1.out.mono (by simp; try omega)))) (RNb.out.below pI (BX.out.trans (HB1.out.mono (by simp; try omega))))) (decide_eq_true e_nu.out)).mono ?_
    rintro e w2 ⟨rfl, hb2⟩
    have HB2 := Aside0.mk (HB1.out.trans (hb2.mono HB1.out.size))
    clear hb2
    clear bc bf
    obtain ⟨bc, bf⟩ := bcell HB2.out
    go_wp2_with fail
    refine (bv (texts_calls _ _ a.texts b.texts _ (RTa.out.below pS (BX.out.trans (HB2.out.mono (by simp; try omega)))) (RTb.out.below pS (BX.out.trans (HB2.out.mono (by simp; try omega))))) (decide_eq_true e_tx.out)).mono ?_
    rintro e w3 ⟨rfl, hb3⟩
    have HB3 := Aside0.mk (HB2.out.trans (hb3.mono HB2.out.size))
    clear hb3
    clear bc bf
    obtain ⟨bc, bf⟩ := bcell HB3.out
    go_wp2_with fail
    refine (bv (requal_calls _ _ a.host b.host _ (RHa.out.below pS (BX.out.trans (HB3.out.mono (by simp; try omega)))) (RHb.out.below pS (BX.out.trans (HB3.out.mono (by simp; try omega))))) (eq_false_of_ne_true e_ho.out)).mono ?_
    rintro e w4 ⟨rfl, hb4⟩
    have HB4 := Aside0.mk (HB3.out.trans (hb4.mono HB3.out.size))
    clear hb4
    clear bc bf
    obtain ⟨bc, bf⟩ := bcell HB4.out
    go_wp2_with fail
    go_ret
    refine ⟨?_, (BX.out.trans (HB4.out.mono (by simp; try omega)))⟩
    rw [HN.out]; rfl
  have e_ho := Aside0.mk q_ho
  clear q_ho
  by_cases q_ma : nEq a.mail b.mail = true
  rotate_left
  · have HN : Aside0 ((dSame a b) = false) := ⟨eq_false_of_ne_true fun h => q_ma (by obtain ⟨g_by, g_nu, g_tx, g_ho, g_ma⟩ := HD.out.1 h; exact g_ma)⟩
    have e_ma := Aside0.mk q_ma
    clear q_ma
    go_enter Try.func37, Try.ntmps37
    go_wp2_with fail
    refine (bv (same_calls _ _ a.bytes b.bytes _ (RBa.out.below pU (BX.out.trans (HB0.out.mono (by simp; try omega)))) (RBb.out.below pU (BX.out.trans (HB0.out.mono (by simp; try omega))))) (decide_eq_true e_by.out)).mono ?_
    rintro e w1 ⟨rfl, hb1⟩
    have HB1 := Aside0.mk (HB0.out.trans (hb1.mono HB0.out.size))
    clear hb1
    obtain ⟨bc, bf⟩ := bcell HB1.out
    go_wp2_with fail
    refine (bv (ints_calls _ _ a.nums b.nums _ (RNa.out.below pI (BX.out.trans (HB1.out.mono (by simp; try omega)))) (RNb.out.below pI (BX.out.trans (HB1.out.mono (by simp; try omega))))) (decide_eq_true e_nu.out)).mono ?_
    rintro e w2 ⟨rfl, hb2⟩
    have HB2 := Aside0.mk (HB1.out.trans (hb2.mono HB1.out.size))
    clear hb2
    clear bc bf
    obtain ⟨bc, bf⟩ := bcell HB2.out
    go_wp2_with fail
    refine (bv (texts_calls _ _ a.texts b.texts _ (RTa.out.below pS (BX.out.trans (HB2.out.mono (by simp; try omega)))) (RTb.out.below pS (BX.out.trans (HB2.out.mono (by simp; try omega))))) (decide_eq_true e_tx.out)).mono ?_
    rintro e w3 ⟨rfl, hb3⟩
    have HB3 := Aside0.mk (HB2.out.trans (hb3.mono HB2.out.size))
    clear hb3
    clear bc bf
    obtain ⟨bc, bf⟩ := bcell HB3.out
    go_wp2_with fail
    refine (bv (requal_calls _ _ a.host b.host _ (RHa.out.below pS (BX.out.trans (HB3.out.mono (by simp; try omega)))) (RHb.out.below pS (BX.out.trans (HB3.out.mono (by simp; try omega))))) (e_ho.out)).mono ?_
    rintro e w4 ⟨rfl, hb4⟩
    have HB4 := Aside0.mk (HB3.out.trans (hb4.mono HB3.out.size))
    clear hb4
    clear bc bf
    obtain ⟨bc, bf⟩ := bcell HB4.out
    go_wp2_with fail
    refine (bv (requal_calls _ _ a.mail b.mail _ (RMa.out.below pS (BX.out.trans (HB4.out.mono (by simp; try omega)))) (RMb.out.below pS (BX.out.trans (HB4.out.mono (by simp; try omega))))) (eq_false_of_ne_true e_ma.out)).mono ?_
    rintro e w5 ⟨rfl, hb5⟩
    have HB5 := Aside0.mk (HB4.out.trans (hb5.mono HB4.out.size))
    clear hb5
    clear bc bf
    obtain ⟨bc, bf⟩ := bcell HB5.out
    go_wp2_with fail
    go_ret
    refine ⟨?_, (BX.out.trans (HB5.out.mono (by simp; try omega)))⟩
    rw [HN.out]; rfl
  have e_ma := Aside0.mk q_ma
  clear q_ma
  have HY : Aside0 ((dSame a b) = true) := ⟨HD.out.2 ⟨e_by.out, e_nu.out, e_tx.out, e_ho.out, e_ma.out⟩⟩
  go_enter Try.func37, Try.ntmps37
  go_wp2_with fail
  refine (bv (same_calls _ _ a.bytes b.bytes _ (RBa.out.below pU (BX.out.trans (HB0.out.mono (by simp; try omega)))) (RBb.out.below pU (BX.out.trans (HB0.out.mono (by simp; try omega))))) (decide_eq_true e_by.out)).mono ?_
  rintro e w1 ⟨rfl, hb1⟩
  have HB1 := Aside0.mk (HB0.out.trans (hb1.mono HB0.out.size))
  clear hb1
  obtain ⟨bc, bf⟩ := bcell HB1.out
  go_wp2_with fail
  refine (bv (ints_calls _ _ a.nums b.nums _ (RNa.out.below pI (BX.out.trans (HB1.out.mono (by simp; try omega)))) (RNb.out.below pI (BX.out.trans (HB1.out.mono (by simp; try omega))))) (decide_eq_true e_nu.out)).mono ?_
  rintro e w2 ⟨rfl, hb2⟩
  have HB2 := Aside0.mk (HB1.out.trans (hb2.mono HB1.out.size))
  clear hb2
  clear bc bf
  obtain ⟨bc, bf⟩ := bcell HB2.out
  go_wp2_with fail
  refine (bv (texts_calls _ _ a.texts b.texts _ (RTa.out.below pS (BX.out.trans (HB2.out.mono (by simp; try omega)))) (RTb.out.below pS (BX.out.trans (HB2.out.mono (by simp; try omega))))) (decide_eq_true e_tx.out)).mono ?_
  rintro e w3 ⟨rfl, hb3⟩
  have HB3 := Aside0.mk (HB2.out.trans (hb3.mono HB2.out.size))
  clear hb3
  clear bc bf
  obtain ⟨bc, bf⟩ := bcell HB3.out
  go_wp2_with fail
  refine (bv (requal_calls _ _ a.host b.host _ (RHa.out.below pS (BX.out.trans (HB3.out.mono (by simp; try omega)))) (RHb.out.below pS (BX.out.trans (HB3.out.mono (by simp; try omega))))) (e_ho.out)).mono ?_
  rintro e w4 ⟨rfl, hb4⟩
  have HB4 := Aside0.mk (HB3.out.trans (hb4.mono HB3.out.size))
  clear hb4
  clear bc bf
  obtain ⟨bc, bf⟩ := bcell HB4.out
  go_wp2_with fail
  refine (bv (requal_calls _ _ a.mail b.mail _ (RMa.out.below pS (BX.out.trans (HB4.out.mono (by simp; try omega)))) (RMb.out.below pS (BX.out.trans (HB4.out.mono (by simp; try omega))))) (e_ma.out)).mono ?_
  rintro e w5 ⟨rfl, hb5⟩
  have HB5 := Aside0.mk (HB4.out.trans (hb5.mono HB4.out.size))
  clear hb5
  clear bc bf
  obtain ⟨bc, bf⟩ := bcell HB5.out
  go_wp2_with fail
  go_ret
  refine ⟨?_, (BX.out.trans (HB5.out.mono (by simp; try omega)))⟩
  rw [HY.out]; rfl
set_option maxHeartbeats 4000000 in
set_option maxRecDepth 100000 in
theorem rexact_calls (a b : Dat) (ca cb : List Value) (w : World) (ha : kD.K w (fun _ => True) a ca) (hb : kD.K w (fun _ => True) b cb) :
    Calls Try.prog 44 #[.agg ca.toArray, .agg cb.toArray] w fun e w' => e = .returned (.bool (dExact a b)) ∧ Below w.heap.size w w' := by
  have HD : Aside0 ((dExact a b) = true ↔ (dSame a b = true ∧ a.host = b.host ∧ a.mail = b.mail)) := ⟨by unfold dExact; simp [Bool.and_eq_true, and_assoc]⟩
  have Ka := Aside0.mk ha
  have Kb := Aside0.mk hb
  obtain ⟨vba, vha, vma, vna, vta, rfl, hba, hha, hma, hna, hta⟩ := ha
  have RBa := Aside0.mk hba
  have RHa := Aside0.mk hha
  have RMa := Aside0.mk hma
  have RNa := Aside0.mk hna
  have RTa := Aside0.mk hta
  clear hba hha hma hna hta
  obtain ⟨vbb, vhb, vmb, vnb, vtb, rfl, hbb, hhb, hmb, hnb, htb⟩ := hb
  have RBb := Aside0.mk hbb
  have RHb := Aside0.mk hhb
  have RMb := Aside0.mk hmb
  have RNb := Aside0.mk hnb
  have RTb := Aside0.mk htb
  clear hbb hhb hmb hnb htb
  have BX : Aside0 (Below w.heap.size w ((w.alloc (.cells #[vba, vha, vma, vna, vta] 42)).alloc (.cells #[vbb, vhb, vmb, vnb, vtb] 42))) := ⟨below_alloc (below_alloc (Below.refl _ _) _) _⟩
  have HB0 : Aside0 (Below ((w.alloc (.cells #[vba, vha, vma, vna, vta] 42)).alloc (.cells #[vbb, vhb, vmb, vnb, vtb] 42)).heap.size ((w.alloc (.cells #[vba, vha, vma, vna, vta] 42)).alloc (.cells #[vbb, vhb, vmb, vnb, vtb] 42)) ((w.alloc (.cells #[vba, vha, vma, vna, vta] 42)).alloc (.cells #[vbb, vhb, vmb, vnb, vtb] 42))) := ⟨Below.refl _ _⟩
  by_cases q_sa : dSame a b = true
  rotate_left
  · have HN : Aside0 ((dExact a b) = false) := ⟨eq_false_of_ne_true fun h => q_sa (by obtain ⟨g_sa, g_ho, g_ma⟩ := HD.out.1 h; exact g_sa)⟩
    have e_sa := Aside0.mk q_sa
    clear q_sa
    go_enter Try.func44, Try.ntmps44
    go_wp2_with fail
    refine (bv (rdsame_calls a b _ _ _ (K_below Ka.out (BX.out.trans (HB0.out.mono (by simp; try omega)))) (K_below Kb.out (BX.out.trans (HB0.out.mono (by simp; try omega))))) (eq_false_of_ne_true e_sa.out)).mono ?_
    rintro e w1 ⟨rfl, hb1⟩
    have HB1 := Aside0.mk (HB0.out.trans (hb1.mono HB0.out.size))
    clear hb1
    obtain ⟨bc, bf⟩ := bcell HB1.out
    go_wp2_with fail
    go_ret
    refine ⟨?_, (BX.out.trans (HB1.out.mono (by simp; try omega)))⟩
    rw [HN.out]; rfl
  have e_sa := Aside0.mk q_sa
  clear q_sa
  by_cases q_ho : a.host = b.host
  rotate_left
  · have HN : Aside0 ((dExact a b) = false) := ⟨eq_false_of_ne_true fun h => q_ho (by obtain ⟨g_sa, g_ho, g_ma⟩ := HD.out.1 h; exact g_ho)⟩
    have e_ho := Aside0.mk q_ho
    clear q_ho
    go_enter Try.func44, Try.ntmps44
    go_wp2_with fail
    refine (bv (rdsame_calls a b _ _ _ (K_below Ka.out (BX.out.trans (HB0.out.mono (by simp; try omega)))) (K_below Kb.out (BX.out.trans (HB0.out.mono (by simp; try omega))))) (e_sa.out)).mono ?_
    rintro e w1 ⟨rfl, hb1⟩
    have HB1 := Aside0.mk (HB0.out.trans (hb1.mono HB0.out.size))
    clear hb1
    obtain ⟨bc, bf⟩ := bcell HB1.out
    go_wp2_with fail
    refine (bv (exact_calls _ _ a.host b.host _ (RHa.out.below pS (BX.out.trans (HB1.out.mono (by simp; try omega)))) (RHb.out.below pS (BX.out.trans (HB1.out.mono (by simp; try omega))))) (decide_eq_false e_ho.out)).mono ?_
    rintro e w2 ⟨rfl, hb2⟩
    have HB2 := Aside0.mk (HB1.out.trans (hb2.mono HB1.out.size))
    clear hb2
    clear bc bf
    obtain ⟨bc, bf⟩ := bcell HB2.out
    go_wp2_with fail
    go_ret
    refine ⟨?_, (BX.out.trans (HB2.out.mono (by simp; try omega)))⟩
    rw [HN.out]; rfl
  have e_ho := Aside0.mk q_ho
  clear q_ho
  by_cases q_ma : a.mail = b.mail
  rotate_left
  · have HN : Aside0 ((dExact a b) = false) := ⟨eq_false_of_ne_true fun h => q_ma (by obtain ⟨g_sa, g_ho, g_ma⟩ := HD.out.1 h; exact g_ma)⟩
    have e_ma := Aside0.mk q_ma
    clear q_ma
    go_enter Try.func44, Try.ntmps44
    go_wp2_with fail
    refine (bv (rdsame_calls a b _ _ _ (K_below Ka.out (BX.out.trans (HB0.out.mono (by simp; try omega)))) (K_below Kb.out (BX.out.trans (HB0.out.mono (by simp; try omega))))) (e_sa.out)).mono ?_
    rintro e w1 ⟨rfl, hb1⟩
    have HB1 := Aside0.mk (HB0.out.trans (hb1.mono HB0.out.size))
    clear hb1
    obtain ⟨bc, bf⟩ := bcell HB1.out
    go_wp2_with fail
    refine (bv (exact_calls _ _ a.host b.host _ (RHa.out.below pS (BX.out.trans (HB1.out.mono (by simp; try omega)))) (RHb.out.below pS (BX.out.trans (HB1.out.mono (by simp; try omega))))) (decide_eq_true e_ho.out)).mono ?_
    rintro e w2 ⟨rfl, hb2⟩
    have HB2 := Aside0.mk (HB1.out.trans (hb2.mono HB1.out.size))
    clear hb2
    clear bc bf
    obtain ⟨bc, bf⟩ := bcell HB2.out
    go_wp2_with fail
    refine (bv (exact_calls _ _ a.mail b.mail _ (RMa.out.below pS (BX.out.trans (HB2.out.mono (by simp; try omega)))) (RMb.out.below pS (BX.out.trans (HB2.out.mono (by simp; try omega))))) (decide_eq_false e_ma.out)).mono ?_
    rintro e w3 ⟨rfl, hb3⟩
    have HB3 := Aside0.mk (HB2.out.trans (hb3.mono HB2.out.size))
    clear hb3
    clear bc bf
    obtain ⟨bc, bf⟩ := bcell HB3.out
    go_wp2_with fail
    go_ret
    refine ⟨?_, (BX.out.trans (HB3.out.mono (by simp; try omega)))⟩
    rw [HN.out]; rfl
  have e_ma := Aside0.mk q_ma
  clear q_ma
  have HY : Aside0 ((dExact a b) = true) := ⟨HD.out.2 ⟨e_sa.out, e_ho.out, e_ma.out⟩⟩
  go_enter Try.func44, Try.ntmps44
  go_wp2_with fail
  refine (bv (rdsame_calls a b _ _ _ (K_below Ka.out (BX.out.trans (HB0.out.mono (by simp; try omega)))) (K_below Kb.out (BX.out.trans (HB0.out.mono (by simp; try omega))))) (e_sa.out)).mono ?_
  rintro e w1 ⟨rfl, hb1⟩
  have HB1 := Aside0.mk (HB0.out.trans (hb1.mono HB0.out.size))
  clear hb1
  obtain ⟨bc, bf⟩ := bcell HB1.out
  go_wp2_with fail
  refine (bv (exact_calls _ _ a.host b.host _ (RHa.out.below pS (BX.out.trans (HB1.out.mono (by simp; try omega)))) (RHb.out.below pS (BX.out.trans (HB1.out.mono (by simp; try omega))))) (decide_eq_true e_ho.out)).mono ?_
  rintro e w2 ⟨rfl, hb2⟩
  have HB2 := Aside0.mk (HB1.out.trans (hb2.mono HB1.out.size))
  clear hb2
  clear bc bf
  obtain ⟨bc, bf⟩ := bcell HB2.out
  go_wp2_with fail
  refine (bv (exact_calls _ _ a.mail b.mail _ (RMa.out.below pS (BX.out.trans (HB2.out.mono (by simp; try omega)))) (RMb.out.below pS (BX.out.trans (HB2.out.mono (by simp; try omega))))) (decide_eq_true e_ma.out)).mono ?_
  rintro e w3 ⟨rfl, hb3⟩
  have HB3 := Aside0.mk (HB2.out.trans (hb3.mono HB2.out.size))
  clear hb3
  clear bc bf
  obtain ⟨bc, bf⟩ := bcell HB3.out
  go_wp2_with fail
  go_ret
  refine ⟨?_, (BX.out.trans (HB3.out.mono (by simp; try omega)))⟩
  rw [HY.out]; rfl
set_option maxHeartbeats 4000000 in
set_option maxRecDepth 100000 in
theorem samerr_calls (a b : RR) (ca cb : List Value) (w : World) (ha : kR.K w (fun _ => True) a ca) (hb : kR.K w (fun _ => True) b cb) :
    Calls Try.prog 17 #[.agg ca.toArray, .agg cb.toArray] w fun e w' => e = .returned (.bool (rrSame a b)) ∧ Below w.heap.size w w' := by
  have HD : Aside0 ((rrSame a b) = true ↔ (a.name = b.name ∧ a.typ = b.typ ∧ a.cls = b.cls ∧ a.ttl = b.ttl ∧ dExact a.data b.data = true)) := ⟨by unfold rrSame; simp [Bool.and_eq_true, and_assoc]⟩
  obtain ⟨vva, cda, rfl, hva, _, _, _, hda⟩ := ha
  have RVa := Aside0.mk hva
  have KDa := Aside0.mk hda
  obtain ⟨vba, vha, vma, vna, vta, rfl, _⟩ := hda
  clear hva
  obtain ⟨vvb, cdb, rfl, hvb, _, _, _, hdb⟩ := hb
  have RVb := Aside0.mk hvb
  have KDb := Aside0.mk hdb
  obtain ⟨vbb, vhb, vmb, vnb, vtb, rfl, _⟩ := hdb
  clear hvb
  have BX : Aside0 (Below w.heap.size w ((w.alloc (.cells #[vva, .int .i64 a.typ, .int .i64 a.cls, .int .i64 a.ttl, vba, vha, vma, vna, vta] 44)).alloc (.cells #[vvb, .int .i64 b.typ, .int .i64 b.cls, .int .i64 b.ttl, vbb, vhb, vmb, vnb, vtb] 44))) := ⟨below_alloc (below_alloc (Below.refl _ _) _) _⟩
  have HB0 : Aside0 (Below ((w.alloc (.cells #[vva, .int .i64 a.typ, .int .i64 a.cls, .int .i64 a.ttl, vba, vha, vma, vna, vta] 44)).alloc (.cells #[vvb, .int .i64 b.typ, .int .i64 b.cls, .int .i64 b.ttl, vbb, vhb, vmb, vnb, vtb] 44)).heap.size ((w.alloc (.cells #[vva, .int .i64 a.typ, .int .i64 a.cls, .int .i64 a.ttl, vba, vha, vma, vna, vta] 44)).alloc (.cells #[vvb, .int .i64 b.typ, .int .i64 b.cls, .int .i64 b.ttl, vbb, vhb, vmb, vnb, vtb] 44)) ((w.alloc (.cells #[vva, .int .i64 a.typ, .int .i64 a.cls, .int .i64 a.ttl, vba, vha, vma, vna, vta] 44)).alloc (.cells #[vvb, .int .i64 b.typ, .int .i64 b.cls, .int .i64 b.ttl, vbb, vhb, vmb, vnb, vtb] 44))) := ⟨Below.refl _ _⟩
  by_cases q_na : a.name = b.name
  rotate_left
  · have HN : Aside0 ((rrSame a b) = false) := ⟨eq_false_of_ne_true fun h => q_na (by obtain ⟨g_na, g_ty, g_cl, g_tt, g_da⟩ := HD.out.1 h; exact g_na)⟩
    have e_na := Aside0.mk q_na
    clear q_na
    go_enter Try.func17, Try.ntmps17
    go_wp2_with fail
    refine (bv (exact_calls _ _ a.name b.name _ (RVa.out.below pS (BX.out.trans (HB0.out.mono (by simp; try omega)))) (RVb.out.below pS (BX.out.trans (HB0.out.mono (by simp; try omega))))) (decide_eq_false e_na.out)).mono ?_
    rintro e w1 ⟨rfl, hb1⟩
    have HB1 := Aside0.mk (HB0.out.trans (hb1.mono HB0.out.size))
    clear hb1
    obtain ⟨bc, bf⟩ := bcell HB1.out
    go_wp2_with fail
    go_ret
    refine ⟨?_, (BX.out.trans (HB1.out.mono (by simp; try omega)))⟩
    rw [HN.out]; rfl
  have e_na := Aside0.mk q_na
  clear q_na
  by_cases q_ty : a.typ = b.typ
  rotate_left
  · have HN : Aside0 ((rrSame a b) = false) := ⟨eq_false_of_ne_true fun h => q_ty (by obtain ⟨g_na, g_ty, g_cl, g_tt, g_da⟩ := HD.out.1 h; exact g_ty)⟩
    have f_ty : (a.typ == b.typ) = false := beq_eq_false_iff_ne.mpr q_ty
    have e_ty := Aside0.mk q_ty
    clear q_ty
    go_enter Try.func17, Try.ntmps17
    go_wp2_with fail
    refine (bv (exact_calls _ _ a.name b.name _ (RVa.out.below pS (BX.out.trans (HB0.out.mono (by simp; try omega)))) (RVb.out.below pS (BX.out.trans (HB0.out.mono (by simp; try omega))))) (decide_eq_true e_na.out)).mono ?_
    rintro e w1 ⟨rfl, hb1⟩
    have HB1 := Aside0.mk (HB0.out.trans (hb1.mono HB0.out.size))
    clear hb1
    obtain ⟨bc, bf⟩ := bcell HB1.out
    go_wp2_with fail
    go_ret
    refine ⟨?_, (BX.out.trans (HB1.out.mono (by simp; try omega)))⟩
    rw [HN.out]; rfl
  have f_ty : (a.typ == b.typ) = true := beq_iff_eq.mpr q_ty
  have e_ty := Aside0.mk q_ty
  clear q_ty
  by_cases q_cl : a.cls = b.cls
  rotate_left
  · have HN : Aside0 ((rrSame a b) = false) := ⟨eq_false_of_ne_true fun h => q_cl (by obtain ⟨g_na, g_ty, g_cl, g_tt, g_da⟩ := HD.out.1 h; exact g_cl)⟩
    have f_cl : (a.cls == b.cls) = false := beq_eq_false_iff_ne.mpr q_cl
    have e_cl := Aside0.mk q_cl
    clear q_cl
    go_enter Try.func17, Try.ntmps17
    go_wp2_with fail
    refine (bv (exact_calls _ _ a.name b.name _ (RVa.out.below pS (BX.out.trans (HB0.out.mono (by simp; try omega)))) (RVb.out.below pS (BX.out.trans (HB0.out.mono (by simp; try omega))))) (decide_eq_true e_na.out)).mono ?_
    rintro e w1 ⟨rfl, hb1⟩
    have HB1 := Aside0.mk (HB0.out.trans (hb1.mono HB0.out.size))
    clear hb1
    obtain ⟨bc, bf⟩ := bcell HB1.out
    go_wp2_with fail
    go_ret
    refine ⟨?_, (BX.out.trans (HB1.out.mono (by simp; try omega)))⟩
    rw [HN.out]; rfl
  have f_cl : (a.cls == b.cls) = true := beq_iff_eq.mpr q_cl
  have e_cl := Aside0.mk q_cl
  clear q_cl
  by_cases q_tt : a.ttl = b.ttl
  rotate_left
  · have HN : Aside0 ((rrSame a b) = false) := ⟨eq_false_of_ne_true fun h => q_tt (by obtain ⟨g_na, g_ty, g_cl, g_tt, g_da⟩ := HD.out.1 h; exact g_tt)⟩
    have f_tt : (a.ttl == b.ttl) = false := beq_eq_false_iff_ne.mpr q_tt
    have e_tt := Aside0.mk q_tt
    clear q_tt
    go_enter Try.func17, Try.ntmps17
    go_wp2_with fail
    refine (bv (exact_calls _ _ a.name b.name _ (RVa.out.below pS (BX.out.trans (HB0.out.mono (by simp; try omega)))) (RVb.out.below pS (BX.out.trans (HB0.out.mono (by simp; try omega))))) (decide_eq_true e_na.out)).mono ?_
    rintro e w1 ⟨rfl, hb1⟩
    have HB1 := Aside0.mk (HB0.out.trans (hb1.mono HB0.out.size))
    clear hb1
    obtain ⟨bc, bf⟩ := bcell HB1.out
    go_wp2_with fail
    go_ret
    refine ⟨?_, (BX.out.trans (HB1.out.mono (by simp; try omega)))⟩
    rw [HN.out]; rfl
  have f_tt : (a.ttl == b.ttl) = true := beq_iff_eq.mpr q_tt
  have e_tt := Aside0.mk q_tt
  clear q_tt
  by_cases q_da : dExact a.data b.data = true
  rotate_left
  · have HN : Aside0 ((rrSame a b) = false) := ⟨eq_false_of_ne_true fun h => q_da (by obtain ⟨g_na, g_ty, g_cl, g_tt, g_da⟩ := HD.out.1 h; exact g_da)⟩
    have e_da := Aside0.mk q_da
    clear q_da
    go_enter Try.func17, Try.ntmps17
    go_wp2_with fail
    refine (bv (exact_calls _ _ a.name b.name _ (RVa.out.below pS (BX.out.trans (HB0.out.mono (by simp; try omega)))) (RVb.out.below pS (BX.out.trans (HB0.out.mono (by simp; try omega))))) (decide_eq_true e_na.out)).mono ?_
    rintro e w1 ⟨rfl, hb1⟩
    have HB1 := Aside0.mk (HB0.out.trans (hb1.mono HB0.out.size))
    clear hb1
    obtain ⟨bc, bf⟩ := bcell HB1.out
    go_wp2_with fail
    refine (bv (rexact_calls a.data b.data _ _ _ (K_below KDa.out (BX.out.trans (HB1.out.mono (by simp; try omega)))) (K_below KDb.out (BX.out.trans (HB1.out.mono (by simp; try omega))))) (eq_false_of_ne_true e_da.out)).mono ?_
    rintro e w2 ⟨rfl, hb2⟩
    have HB2 := Aside0.mk (HB1.out.trans (hb2.mono HB1.out.size))
    clear hb2
    clear bc bf
    obtain ⟨bc, bf⟩ := bcell HB2.out
    go_wp2_with fail
    go_ret
    refine ⟨?_, (BX.out.trans (HB2.out.mono (by simp; try omega)))⟩
    rw [HN.out]; rfl
  have e_da := Aside0.mk q_da
  clear q_da
  have HY : Aside0 ((rrSame a b) = true) := ⟨HD.out.2 ⟨e_na.out, e_ty.out, e_cl.out, e_tt.out, e_da.out⟩⟩
  go_enter Try.func17, Try.ntmps17
  go_wp2_with fail
  refine (bv (exact_calls _ _ a.name b.name _ (RVa.out.below pS (BX.out.trans (HB0.out.mono (by simp; try omega)))) (RVb.out.below pS (BX.out.trans (HB0.out.mono (by simp; try omega))))) (decide_eq_true e_na.out)).mono ?_
  rintro e w1 ⟨rfl, hb1⟩
  have HB1 := Aside0.mk (HB0.out.trans (hb1.mono HB0.out.size))
  clear hb1
  obtain ⟨bc, bf⟩ := bcell HB1.out
  go_wp2_with fail
  refine (bv (rexact_calls a.data b.data _ _ _ (K_below KDa.out (BX.out.trans (HB1.out.mono (by simp; try omega)))) (K_below KDb.out (BX.out.trans (HB1.out.mono (by simp; try omega))))) (e_da.out)).mono ?_
  rintro e w2 ⟨rfl, hb2⟩
  have HB2 := Aside0.mk (HB1.out.trans (hb2.mono HB1.out.size))
  clear hb2
  clear bc bf
  obtain ⟨bc, bf⟩ := bcell HB2.out
  go_wp2_with fail
  go_ret
  refine ⟨?_, (BX.out.trans (HB2.out.mono (by simp; try omega)))⟩
  rw [HY.out]; rfl
end Go.Proofs.Ytkbjbkmaokebgaa.Gz

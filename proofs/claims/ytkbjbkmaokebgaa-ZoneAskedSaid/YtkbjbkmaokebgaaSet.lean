import Derived.Test.YtkbjbkmaokebgaaKit2
import Derived.Test.YtkbjbkmaokebgaaAsk
set_option linter.unusedVariables false
set_option linter.unusedSimpArgs false
namespace Go.Proofs.Ytkbjbkmaokebgaa.Gz
open Go.RowKit Go.Proofs.YtkbjbkmaokebgaaW.PrintWords
open Ki
/-- The cells of a record's data in a row. -/
theorem cell_d {w : World} {ok : Nat → Prop} {A : Option Addr} {xs : List Dat} (h : kD.Row w ok A xs) (k : Nat) (hk : k < xs.length) :
    ∃ ad v0 v1 v2 v3 v4, A = some ad ∧ kD.K w ok xs[k] [v0, v1, v2, v3, v4] ∧ w.cell? (ad.add (k * 5)) = some v0 ∧ w.cell? ⟨(ad.add (k * 5)).block, (ad.add (k * 5)).off + 1, none⟩ = some v1 ∧ w.cell? ⟨(ad.add (k * 5)).block, (ad.add (k * 5)).off + 2, none⟩ = some v2 ∧ w.cell? ⟨(ad.add (k * 5)).block, (ad.add (k * 5)).off + 3, none⟩ = some v3 ∧ w.cell? ⟨(ad.add (k * 5)).block, (ad.add (k * 5)).off + 4, none⟩ = some v4 := by
  obtain ⟨ad, cs, e, _, hK, hc⟩ := h.at_ k hk
  have hK0 := hK
  obtain ⟨v0, v1, v2, v3, v4, rfl, _⟩ := hK
  have e1 : ∀ j, 0 < j → (ad.add (k * kD.sz + j)) = ⟨(ad.add (k * 5)).block, (ad.add (k * 5)).off + j, none⟩ := fun j hj => by
    show ad.add (k * 5 + j) = _
    rw [← add_add]
    generalize ad.add (k * 5) = b
    unfold Addr.add
    rw [if_neg (by omega)]
  refine ⟨ad, v0, v1, v2, v3, v4, e, hK0, ?_, ?_, ?_, ?_, ?_⟩
  · exact hc 0 _ rfl
  · rw [← e1 1 (by decide)]; exact hc 1 _ rfl
  · rw [← e1 2 (by decide)]; exact hc 2 _ rfl
  · rw [← e1 3 (by decide)]; exact hc 3 _ rfl
  · rw [← e1 4 (by decide)]; exact hc 4 _ rfl
theorem keep10 {W0 W w1 : World} (hb : Below W.heap.size W w1) {a0 a1 a2 a3 a4 a5 a6 a7 a8 a9 : Addr} {x0 x1 x2 x3 x4 x5 x6 x7 x8 x9 : Value} (h : Below W0.heap.size W0 W ∧ W.cell? a0 = some x0 ∧ W.cell? a1 = some x1 ∧ W.cell? a2 = some x2 ∧ W.cell? a3 = some x3 ∧ W.cell? a4 = some x4 ∧ W.cell? a5 = some x5 ∧ W.cell? a6 = some x6 ∧ W.cell? a7 = some x7 ∧ W.cell? a8 = some x8 ∧ W.cell? a9 = some x9) : Below W0.heap.size W0 w1 ∧ w1.cell? a0 = some x0 ∧ w1.cell? a1 = some x1 ∧ w1.cell? a2 = some x2 ∧ w1.cell? a3 = some x3 ∧ w1.cell? a4 = some x4 ∧ w1.cell? a5 = some x5 ∧ w1.cell? a6 = some x6 ∧ w1.cell? a7 = some x7 ∧ w1.cell? a8 = some x8 ∧ w1.cell? a9 = some x9 := by
  obtain ⟨h1, k0, k1, k2, k3, k4, k5, k6, k7, k8, k9⟩ := h
  exact ⟨h1.trans (hb.mono h1.size), (hb.cell (World.block_lt_of_cell? W _ k0)).trans k0, (hb.cell (World.block_lt_of_cell? W _ k1)).trans k1, (hb.cell (World.block_lt_of_cell? W _ k2)).trans k2, (hb.cell (World.block_lt_of_cell? W _ k3)).trans k3, (hb.cell (World.block_lt_of_cell? W _ k4)).trans k4, (hb.cell (World.block_lt_of_cell? W _ k5)).trans k5, (hb.cell (World.block_lt_of_cell? W _ k6)).trans k6, (hb.cell (World.block_lt_of_cell? W _ k7)).trans k7, (hb.cell (World.block_lt_of_cell? W _ k8)).trans k8, (hb.cell (World.block_lt_of_cell? W _ k9)).trans k9⟩
/-- In, up to a place. -/
theorem dIn_take (l : List Dat) (d : Dat) (k : Nat) (hk : k < l.length) (h : dIn (l.take k) d = false) (hs : dSame l[k] d = false) : dIn (l.take (k + 1)) d = false := by
  unfold dIn at h ⊢
  rw [List.take_succ_eq_append_getElem hk, List.any_append, h]
  simp [hs]
theorem dIn_hit (l : List Dat) (d : Dat) (k : Nat) (hk : k < l.length) (hs : dSame l[k] d = true) : dIn l d = true := List.any_eq_true.2 ⟨l[k], List.getElem_mem _, hs⟩
theorem kD_form' {w : World} {ok : Nat → Prop} {d : Dat} {v0 v1 v2 v3 v4 : Value} (h : kD.K w ok d [v0, v1, v2, v3, v4]) :
    ∃ A0 k0 A1 k1 A2 k2 A3 k3 A4 k4, v0 = .slice A0 d.bytes.length k0 ∧ v1 = .slice A1 d.host.length k1 ∧ v2 = .slice A2 d.mail.length k2 ∧ v3 = .slice A3 d.nums.length k3 ∧ v4 = .slice A4 d.texts.length k4 := by
  obtain ⟨A4, k4, A5, k5, A6, k6, A7, k7, A8, k8, h⟩ := kD_form h
  simp only [List.cons.injEq, and_true] at h
  exact ⟨_, _, _, _, _, _, _, _, _, _, h⟩
set_option maxHeartbeats 8000000 in
set_option maxRecDepth 100000 in
theorem din_calls (v : Value) (l : List Dat) (d : Dat) (cd : List Value) (w : World) (hl : kD.Rd w (fun _ => True) v l) (hd : kD.K w (fun _ => True) d cd) :
    Calls Try.prog 46 #[v, .agg cd.toArray] w fun e w' => e = .returned (.bool (dIn l d)) ∧ Below w.heap.size w w' := by
  have HL := Aside0.mk hl
  have hmax := hl.max
  obtain ⟨Al, cl, rfl, _, _⟩ := hl
  have hd0 := hd
  obtain ⟨w0, w1, w2, w3, w4, rfl, _⟩ := hd0
  obtain ⟨X0, j0, X1, j1, X2, j2, X3, j3, X4, j4, rfl, rfl, rfl, rfl, rfl⟩ := kD_form' hd
  have HD := Aside0.mk hd
  clear hd
  generalize hW0 : w.alloc (.cells #[.slice X0 d.bytes.length j0, .slice X1 d.host.length j1, .slice X2 d.mail.length j2, .slice X3 d.nums.length j3, .slice X4 d.texts.length j4] 42) = W0
  have HW0 := Aside0.mk hW0
  have BX : Aside0 (Below w.heap.size w W0) := ⟨by rw [← hW0]; exact below_alloc (Below.refl _ _) _⟩
  have hs0 : w.heap.size < W0.heap.size := by rw [← hW0]; simp
  have y0 : W0.cell? ⟨w.heap.size, 0, none⟩ = some (.slice X0 d.bytes.length j0) := by rw [← hW0, cellN rfl]; rfl
  have y1 : W0.cell? ⟨w.heap.size, 1, none⟩ = some (.slice X1 d.host.length j1) := by rw [← hW0, cellN rfl]; rfl
  have y2 : W0.cell? ⟨w.heap.size, 2, none⟩ = some (.slice X2 d.mail.length j2) := by rw [← hW0, cellN rfl]; rfl
  have y3 : W0.cell? ⟨w.heap.size, 3, none⟩ = some (.slice X3 d.nums.length j3) := by rw [← hW0, cellN rfl]; rfl
  have y4 : W0.cell? ⟨w.heap.size, 4, none⟩ = some (.slice X4 d.texts.length j4) := by rw [← hW0, cellN rfl]; rfl
  have HY := Aside0.mk (And.intro y0 (And.intro y1 (And.intro y2 (And.intro y3 y4))))
  clear hW0 y0 y1 y2 y3 y4
  go_enter Try.func46, Try.ntmps46
  go_wp2_with fail
  rw [HW0.out]
  go_loopg [5] l.length (fun gg s5 wr => ∃ k : Nat, k ≤ l.length ∧ l.length - k ≤ gg ∧ s5 = .int .i64 k ∧ Aside0 (Below W0.heap.size W0 wr) ∧ Aside0 (dIn (l.take k) d = false))
  case atStart => exact ⟨0, Nat.zero_le _, by omega, rfl, ⟨Below.refl _ _⟩, ⟨rfl⟩⟩
  case round =>
    obtain ⟨k, hk, hg, rfl, HB, HA⟩ := hrel
    have HB2 : Aside0 (Below w.heap.size w wr) := ⟨BX.out.trans (HB.out.mono BX.out.size)⟩
    by_cases hlt : k < l.length
    · have HLT := Aside0.mk hlt
      obtain ⟨A2, c2, he2, _, hrow2⟩ := HL.out.below pD HB2.out
      obtain ⟨rfl, rfl⟩ : Al = A2 ∧ cl = c2 := by injection he2 with h1 _ h3; exact ⟨h1, h3⟩
      obtain ⟨ad, b0, b1, b2, b3, b4, rfl, hK, e0, e1, e2, e3, e4⟩ := cell_d hrow2 k hlt
      have HHIT := Aside0.mk (dIn_hit l d k hlt)
      have HTK := Aside0.mk (dIn_take l d k hlt HA.out)
      generalize l[k] = x at hK HHIT HTK
      obtain ⟨A0, k0, A1, k1, A2, k2, A3, k3, A4, k4, rfl, rfl, rfl, rfl, rfl⟩ := kD_form' hK
      have HK := Aside0.mk hK
      have k0' : (0 : Int) ≤ (k : Int) := by omega
      have k1' : (k : Int) < (l.length : Int) := by omega
      have f0 := (HB.out.cell (p := ⟨w.heap.size, 0, none⟩) hs0).trans HY.out.1
      have f1 := (HB.out.cell (p := ⟨w.heap.size, 1, none⟩) hs0).trans HY.out.2.1
      have f2 := (HB.out.cell (p := ⟨w.heap.size, 2, none⟩) hs0).trans HY.out.2.2.1
      have f3 := (HB.out.cell (p := ⟨w.heap.size, 3, none⟩) hs0).trans HY.out.2.2.2.1
      have f4 := (HB.out.cell (p := ⟨w.heap.size, 4, none⟩) hs0).trans HY.out.2.2.2.2
      have hst2 : Below wr.heap.size wr wr.drew ∧ wr.drew.cell? (ad.add (k * 5)) = some (.slice A0 x.bytes.length k0) ∧ wr.drew.cell? ⟨(ad.add (k * 5)).block, (ad.add (k * 5)).off + 1, none⟩ = some (.slice A1 x.host.length k1) ∧ wr.drew.cell? ⟨(ad.add (k * 5)).block, (ad.add (k * 5)).off + 2, none⟩ = some (.slice A2 x.mail.length k2) ∧ wr.drew.cell? ⟨(ad.add (k * 5)).block, (ad.add (k * 5)).off + 3, none⟩ = some (.slice A3 x.nums.length k3) ∧ wr.drew.cell? ⟨(ad.add (k * 5)).block, (ad.add (k * 5)).off + 4, none⟩ = some (.slice A4 x.texts.length k4) ∧ wr.drew.cell? ⟨w.heap.size, 0, none⟩ = some (.slice X0 d.bytes.length j0) ∧ wr.drew.cell? ⟨w.heap.size, 1, none⟩ = some (.slice X1 d.host.length j1) ∧ wr.drew.cell? ⟨w.heap.size, 2, none⟩ = some (.slice X2 d.mail.length j2) ∧ wr.drew.cell? ⟨w.heap.size, 3, none⟩ = some (.slice X3 d.nums.length j3) ∧ wr.drew.cell? ⟨w.heap.size, 4, none⟩ = some (.slice X4 d.texts.length j4) := ⟨(Below.refl _ _).drew, e0, e1, e2, e3, e4, f0, f1, f2, f3, f4⟩
      have KD2 := Aside0.mk (K_below HD.out HB2.out)
      clear hK hrow2 he2
      cases hq : dSame x d with
      | true =>
        have HQ := Aside0.mk hq
        clear hq
        go_upto_region 4 with (fail)
        go_region_held3 (fun w' => Below wr.heap.size wr w' ∧ w'.cell? (ad.add (k * 5)) = some (.slice A0 x.bytes.length k0) ∧ w'.cell? ⟨(ad.add (k * 5)).block, (ad.add (k * 5)).off + 1, none⟩ = some (.slice A1 x.host.length k1) ∧ w'.cell? ⟨(ad.add (k * 5)).block, (ad.add (k * 5)).off + 2, none⟩ = some (.slice A2 x.mail.length k2) ∧ w'.cell? ⟨(ad.add (k * 5)).block, (ad.add (k * 5)).off + 3, none⟩ = some (.slice A3 x.nums.length k3) ∧ w'.cell? ⟨(ad.add (k * 5)).block, (ad.add (k * 5)).off + 4, none⟩ = some (.slice A4 x.texts.length k4) ∧ w'.cell? ⟨w.heap.size, 0, none⟩ = some (.slice X0 d.bytes.length j0) ∧ w'.cell? ⟨w.heap.size, 1, none⟩ = some (.slice X1 d.host.length j1) ∧ w'.cell? ⟨w.heap.size, 2, none⟩ = some (.slice X2 d.mail.length j2) ∧ w'.cell? ⟨w.heap.size, 3, none⟩ = some (.slice X3 d.nums.length j3) ∧ w'.cell? ⟨w.heap.size, 4, none⟩ = some (.slice X4 d.texts.length j4))
          (first | (with_reducible exact keep10 hb5 (by assumption)) | go_keep)
          ((go_at_call 37; refine (bv (rdsame_calls x d _ _ _ (K_below HK.out (And.left (by assumption))) (K_below KD2.out (And.left (by assumption)))) HQ.out).mono ?_; rintro e w5 ⟨rfl, hb5⟩))
        have hs5 : Below wr.heap.size wr w5 := And.left (by assumption)
        have B5 := Aside0.mk hs5
        clear hs5
        go_wp2_with fail
        go_ret
        refine ⟨?_, HB2.out.trans (B5.out.mono HB2.out.size)⟩
        rw [HHIT.out HQ.out]; rfl
      | false =>
        have HQ := Aside0.mk hq
        clear hq
        go_upto_region 4 with (fail)
        go_region_held3 (fun w' => Below wr.heap.size wr w' ∧ w'.cell? (ad.add (k * 5)) = some (.slice A0 x.bytes.length k0) ∧ w'.cell? ⟨(ad.add (k * 5)).block, (ad.add (k * 5)).off + 1, none⟩ = some (.slice A1 x.host.length k1) ∧ w'.cell? ⟨(ad.add (k * 5)).block, (ad.add (k * 5)).off + 2, none⟩ = some (.slice A2 x.mail.length k2) ∧ w'.cell? ⟨(ad.add (k * 5)).block, (ad.add (k * 5)).off + 3, none⟩ = some (.slice A3 x.nums.length k3) ∧ w'.cell? ⟨(ad.add (k * 5)).block, (ad.add (k * 5)).off + 4, none⟩ = some (.slice A4 x.texts.length k4) ∧ w'.cell? ⟨w.heap.size, 0, none⟩ = some (.slice X0 d.bytes.length j0) ∧ w'.cell? ⟨w.heap.size, 1, none⟩ = some (.slice X1 d.host.length j1) ∧ w'.cell? ⟨w.heap.size, 2, none⟩ = some (.slice X2 d.mail.length j2) ∧ w'.cell? ⟨w.heap.size, 3, none⟩ = some (.slice X3 d.nums.length j3) ∧ w'.cell? ⟨w.heap.size, 4, none⟩ = some (.slice X4 d.texts.length j4))
          (first | (with_reducible exact keep10 hb5 (by assumption)) | go_keep)
          ((go_at_call 37; refine (bv (rdsame_calls x d _ _ _ (K_below HK.out (And.left (by assumption))) (K_below KD2.out (And.left (by assumption)))) HQ.out).mono ?_; rintro e w5 ⟨rfl, hb5⟩))
        have hs5 : Below wr.heap.size wr w5 := And.left (by assumption)
        have B5 := Aside0.mk hs5
        clear hs5
        go_wp2_with fail
        go_roundg (l.length - (k + 1))
        case measure => have := HLT.out; omega
        case rel => exact ⟨k + 1, by have := HLT.out; omega, by omega, by go_num, ⟨HB.out.trans (B5.out.mono HB.out.size)⟩, ⟨HTK.out HQ.out⟩⟩
    · have hka : k = l.length := by omega
      have HR : Aside0 (dIn l d = false) := ⟨by have h := HA.out; rwa [hka, List.take_length] at h⟩
      clear hka
      go_wp2_with fail
      go_ret
      refine ⟨?_, HB2.out⟩
      rw [HR.out]; rfl
set_option maxHeartbeats 8000000 in
set_option maxRecDepth 100000 in
theorem sameset_calls (u v : Value) (l : List Dat) (w : World) (hu : kD.Rd w (fun _ => True) u l) (hv : kD.Rd w (fun _ => True) v l) :
    Calls Try.prog 20 #[u, v] w fun e w' => e = .returned (.bool true) ∧ Below w.heap.size w w' := by
  have HU := Aside0.mk hu
  have HV := Aside0.mk hv
  have hmax := hu.max
  obtain ⟨Au, cu, rfl, _, _⟩ := hu
  obtain ⟨Av, cv, rfl, _, _⟩ := hv
  go_enter Try.func20, Try.ntmps20
  go_wp2_with fail
  go_loopg [5] l.length (fun gg s5 wr => ∃ k : Nat, k ≤ l.length ∧ l.length - k ≤ gg ∧ s5 = .int .i64 k ∧ Aside0 (Below w.heap.size w wr))
  case atStart => exact ⟨0, Nat.zero_le _, by omega, rfl, ⟨Below.refl _ _⟩⟩
  case round =>
    obtain ⟨k, hk, hg, rfl, HB⟩ := hrel
    by_cases hlt : k < l.length
    · have HLT := Aside0.mk hlt
      obtain ⟨A2, c2, he2, _, hrow2⟩ := HU.out.below pD HB.out
      obtain ⟨rfl, rfl⟩ : Au = A2 ∧ cu = c2 := by injection he2 with h1 _ h3; exact ⟨h1, h3⟩
      obtain ⟨ad, b0, b1, b2, b3, b4, rfl, hK, e0, e1, e2, e3, e4⟩ := cell_d hrow2 k hlt
      have HIN : Aside0 (dIn l l[k] = true) := ⟨dIn_hit l _ k hlt (dSame_refl _)⟩
      generalize l[k] = x at hK HIN
      have HK := Aside0.mk hK
      clear hK hrow2 he2
      go_wp2_with fail
      refine (bv (din_calls _ l x _ wr (HV.out.below pD HB.out) HK.out) HIN.out).mono ?_
      rintro e w1 ⟨rfl, hb1⟩
      have B1 : Aside0 (Below w.heap.size w w1) := ⟨HB.out.trans (hb1.mono HB.out.size)⟩
      clear hb1 e0 e1 e2 e3 e4
      go_wp2_with fail
      go_roundg (l.length - (k + 1))
      case measure => have := HLT.out; omega
      case rel => exact ⟨k + 1, by have := HLT.out; omega, by omega, by go_num, B1⟩
    · have hka : k = l.length := by omega
      have HKA := Aside0.mk hka
      clear hka
      go_wp2_with fail
      go_loopg [6] l.length (fun gg s6 wr => ∃ k : Nat, k ≤ l.length ∧ l.length - k ≤ gg ∧ s6 = .int .i64 k ∧ Aside0 (Below w.heap.size w wr))
      case atStart => exact ⟨0, Nat.zero_le _, by omega, rfl, HB⟩
      case round =>
        obtain ⟨k, hk, hg, rfl, HB⟩ := hrel
        by_cases hlt : k < l.length
        · have HLT := Aside0.mk hlt
          obtain ⟨A2, c2, he2, _, hrow2⟩ := HV.out.below pD HB.out
          obtain ⟨rfl, rfl⟩ : Av = A2 ∧ cv = c2 := by injection he2 with h1 _ h3; exact ⟨h1, h3⟩
          obtain ⟨ad, b0, b1, b2, b3, b4, rfl, hK, e0, e1, e2, e3, e4⟩ := cell_d hrow2 k hlt
          have HIN : Aside0 (dIn l l[k] = true) := ⟨dIn_hit l _ k hlt (dSame_refl _)⟩
          generalize l[k] = x at hK HIN
          have HK := Aside0.mk hK
          clear hK hrow2 he2
          go_wp2_with fail
          refine (bv (din_calls _ l x _ wr (HU.out.below pD HB.out) HK.out) HIN.out).mono ?_
          rintro e w1 ⟨rfl, hb1⟩
          have B1 : Aside0 (Below w.heap.size w w1) := ⟨HB.out.trans (hb1.mono HB.out.size)⟩
          clear hb1 e0 e1 e2 e3 e4
          go_wp2_with fail
          go_roundg (l.length - (k + 1))
          case measure => have := HLT.out; omega
          case rel => exact ⟨k + 1, by have := HLT.out; omega, by omega, by go_num, B1⟩
        · have hka : k = l.length := by omega
          have HKA := Aside0.mk hka
          clear hka
          go_wp2_with fail
          go_ret
          exact ⟨rfl, HB.out⟩
theorem rsetG_len (n : List ByteArray) (kind : Int) (l : List RR) (out : List Dat) (ttl : Int) (any : Bool) : (rsetG n kind l out ttl any).1.length ≤ out.length + l.length := by
  induction l generalizing out ttl any with
  | nil => exact Nat.le_refl _
  | cons r l ih =>
    unfold rsetG
    split
    · refine Nat.le_trans (ih _ _ _) ?_
      split
      · simp only [List.length_cons]; omega
      · simp only [List.length_append, List.length_cons, List.length_nil]; omega
    · refine Nat.le_trans (ih _ _ _) ?_
      simp only [List.length_cons]; omega
theorem rsetG_drop (n : List ByteArray) (kind : Int) (l : List RR) (k : Nat) (hk : k < l.length) (out : List Dat) (ttl : Int) (any : Bool) :
    rsetG n kind (l.drop k) out ttl any = if (decide (l[k].cls = 1) && decide (l[k].typ = kind) && nEq l[k].name n) = true then rsetG n kind (l.drop (k + 1)) (if dIn out l[k].data = true then out else out ++ [l[k].data]) (if (!any || decide (l[k].ttl < ttl)) = true then l[k].ttl else ttl) true else rsetG n kind (l.drop (k + 1)) out ttl any := by
  rw [List.drop_eq_getElem_cons hk]
  rfl
theorem kR_data {w : World} {ok : Nat → Prop} {r : RR} {v0 v4 v5 v6 v7 v8 : Value} {a b c : Value} (h : kR.K w ok r [v0, a, b, c, v4, v5, v6, v7, v8]) : kD.K w ok r.data [v4, v5, v6, v7, v8] := by
  obtain ⟨v0, cd0, hcs, hv0, _, _, _, hd⟩ := h
  simp only [List.cons.injEq] at hcs
  rw [hcs.2.2.2.2]; exact hd
theorem infoD0 : (Try.prog.info? 42).map (fun i => (i.zero, i.size, i.bytes)) = some (some (.agg #[.slice none 0 0, .slice none 0 0, .slice none 0 0, .slice none 0 0, .slice none 0 0]), kD.sz, kD.bytes) := by kernel_rfl
/-- A set of data that a call hands back, and the least TTL. -/
def GivesSet (w : World) (x : List Dat × Int) (e : Ending) (w' : World) : Prop :=
  ∃ v, e = .returned (.tuple #[v, .int .i64 x.2]) ∧ kD.Own 42 w' w.heap.size (fun k => k < w.heap.size) v x.1 ∧ Below w.heap.size w w'
set_option maxHeartbeats 16000000 in
set_option maxRecDepth 100000 in
theorem rset_calls (u v : Value) (l : List RR) (n : List ByteArray) (kind : Int) (w : World) (hu : kR.Rd w (fun _ => True) u l) (hv : kS.Rd w (fun _ => True) v n) :
    Calls Try.prog 19 #[u, v, .int .i64 kind] w (GivesSet w (rset l n kind)) := by
  have HU := Aside0.mk (hu.low pR)
  have HV := Aside0.mk hv
  have hmax := hu.max
  have hroom := Aside0.mk hu.room
  obtain ⟨Au, cu, rfl, _, _⟩ := hu
  obtain ⟨Av, cv, rfl, _, _⟩ := hv
  go_enter Try.func19, Try.ntmps19
  go_wp2_with fail
  go_loopg [8, 9, 10, 11] l.length (fun gg s8 s9 s10 s11 wr => ∃ (k : Nat) (out : List Dat) (ttl : Int) (any : Bool), k ≤ l.length ∧ l.length - k ≤ gg ∧ s11 = .int .i64 k ∧ s9 = .int .i64 ttl ∧ s10 = .bool any ∧ Aside0 (out.length ≤ k) ∧ Aside0 (Below w.heap.size w wr) ∧ Aside0 (rset l n kind = rsetG n kind (l.drop k) out ttl any) ∧ Aside0 (kD.Own 42 wr w.heap.size (fun k => k < w.heap.size) s8 out))
  case atStart => exact ⟨0, [], 0, false, Nat.zero_le _, by omega, rfl, rfl, rfl, ⟨Nat.le_refl _⟩, ⟨Below.refl _ _⟩, ⟨rfl⟩, ⟨Own.nil _ _ _ _ _⟩⟩
  case round =>
    obtain ⟨k, out, ttl, any, hk, hg, rfl, rfl, rfl, HOL, HB, HA, HO⟩ := hrel
    obtain ⟨As, ks, rfl, _⟩ := HO.out.slice_
    by_cases hlt : k < l.length
    · obtain ⟨Ar', cr', he, _, hrow⟩ := HU.out.below pR HB.out
      obtain ⟨rfl, rfl⟩ : Au = Ar' ∧ cu = cr' := by injection he with h1 _ h3; exact ⟨h1, h3⟩
      obtain ⟨ad, vv, c4, c5, c6, c7, c8, rfl, hK, e0, e1, e2, e3, e4, e5, e6, e7, e8⟩ := cell_r hrow k hlt
      have HLT := Aside0.mk hlt
      have HST := Aside0.mk (rsetG_drop n kind l k hlt out ttl any)
      have HRM : Aside0 ((out.length + 1) * kD.bytes ≤ B47) := ⟨by
        have h1 := HOL.out
        have h2 := hroom.out
        have e1 : kR.bytes = 168 := rfl
        have e2 : kD.bytes = 120 := rfl
        rw [e1] at h2
        rw [e2]
        unfold B47 at h2 ⊢
        omega⟩
      generalize l[k] = r at hK e1 e2 e3 HST
      obtain ⟨A0, k0, A4, k4, A5, k5, A6, k6, A7, k7, A8, k8, rfl, rfl, rfl, rfl, rfl, rfl⟩ := kR_form hK
      have HK := Aside0.mk hK
      have hKn := hK
      obtain ⟨v0, cd0, hcs, hv0, _⟩ := hKn
      obtain rfl : Value.slice A0 r.name.length k0 = v0 := by injection hcs
      have HVN := Aside0.mk hv0.any
      have HDT := Aside0.mk (kR_data hK)
      clear hcs hv0 hK hrow he
      go_upto_region 8 with (fail)
      generalize hW1 : wr.alloc (.cells #[.slice A0 r.name.length k0, .int .i64 r.typ, .int .i64 r.cls, .int .i64 r.ttl, .slice A4 r.data.bytes.length k4, .slice A5 r.data.host.length k5, .slice A6 r.data.mail.length k6, .slice A7 r.data.nums.length k7, .slice A8 r.data.texts.length k8] 44) = W1
      have hs1 : W1.heap.size = wr.heap.size + 1 := by rw [← hW1]; simp
      have BWr : Below wr.heap.size wr W1 := by rw [← hW1]; exact below_alloc (Below.refl _ _) _
      have BWr := Aside0.mk BWr
      have BW : Aside0 (Below w.heap.size w W1) := ⟨HB.out.trans (BWr.out.mono HB.out.size)⟩
      have x0 : W1.cell? ⟨wr.heap.size, 0, none⟩ = some (.slice A0 r.name.length k0) := by rw [← hW1, cellN rfl]; rfl
      have x1 : W1.cell? ⟨wr.heap.size, 1, none⟩ = some (.int .i64 r.typ) := by rw [← hW1, cellN rfl]; rfl
      have x2 : W1.cell? ⟨wr.heap.size, 2, none⟩ = some (.int .i64 r.cls) := by rw [← hW1, cellN rfl]; rfl
      have x3 : W1.cell? ⟨wr.heap.size, 3, none⟩ = some (.int .i64 r.ttl) := by rw [← hW1, cellN rfl]; rfl
      have x4 : W1.cell? ⟨wr.heap.size, 4, none⟩ = some (.slice A4 r.data.bytes.length k4) := by rw [← hW1, cellN rfl]; rfl
      have x5 : W1.cell? ⟨wr.heap.size, 5, none⟩ = some (.slice A5 r.data.host.length k5) := by rw [← hW1, cellN rfl]; rfl
      have x6 : W1.cell? ⟨wr.heap.size, 6, none⟩ = some (.slice A6 r.data.mail.length k6) := by rw [← hW1, cellN rfl]; rfl
      have x7 : W1.cell? ⟨wr.heap.size, 7, none⟩ = some (.slice A7 r.data.nums.length k7) := by rw [← hW1, cellN rfl]; rfl
      have x8 : W1.cell? ⟨wr.heap.size, 8, none⟩ = some (.slice A8 r.data.texts.length k8) := by rw [← hW1, cellN rfl]; rfl
      have hl2 : wr.heap.size < W1.heap.size := by omega
      have OW1 := Aside0.mk (HO.out.below BWr.out)
      clear hW1 hs1 e0 e1 e2 e3 e4 e5 e6 e7 e8
      by_cases q1 : r.cls = 1
      rotate_left
      · have f1 : (r.cls == 1) = false := beq_eq_false_iff_ne.mpr q1
        have Q1 := Aside0.mk q1
        clear q1
        go_wp2_with fail
        go_roundg (l.length - (k + 1))
        case measure => have := HLT.out; omega
        case rel =>
          refine ⟨k + 1, out, ttl, any, by have := HLT.out; omega, by omega, by go_num, rfl, rfl, ⟨by have := HOL.out; omega⟩, BW, ⟨?_⟩, OW1⟩
          rw [HA.out, HST.out, if_neg (by rw [decide_eq_false Q1.out]; simp)]
      have f1 : (r.cls == 1) = true := beq_iff_eq.mpr q1
      have Q1 := Aside0.mk q1
      clear q1
      by_cases q2 : r.typ = kind
      rotate_left
      · have f2 : (r.typ == kind) = false := beq_eq_false_iff_ne.mpr q2
        have Q2 := Aside0.mk q2
        clear q2
        go_wp2_with fail
        go_roundg (l.length - (k + 1))
        case measure => have := HLT.out; omega
        case rel =>
          refine ⟨k + 1, out, ttl, any, by have := HLT.out; omega, by omega, by go_num, rfl, rfl, ⟨by have := HOL.out; omega⟩, BW, ⟨?_⟩, OW1⟩
          rw [HA.out, HST.out, if_neg (by rw [decide_eq_false Q2.out]; simp)]
      have f2 : (r.typ == kind) = true := beq_iff_eq.mpr q2
      have Q2 := Aside0.mk q2
      clear q2
      cases q3 : nEq r.name n with
      | false =>
        have Q3 := Aside0.mk q3
        clear q3
        go_wp2_with fail
        refine (bv (requal_calls _ _ r.name n _ (HVN.out.below pS BWr.out) (HV.out.below pS BW.out)) Q3.out).mono ?_
        rintro e w2 ⟨rfl, hb2⟩
        have HB2 := Aside0.mk hb2
        obtain ⟨bc, bf⟩ := bcell hb2
        clear hb2
        have BR2 : Aside0 (Below w.heap.size w w2) := ⟨BW.out.trans (HB2.out.mono BW.out.size)⟩
        have OW2 := Aside0.mk (OW1.out.below HB2.out)
        go_wp2_with fail
        go_roundg (l.length - (k + 1))
        case measure => have := HLT.out; omega
        case rel =>
          refine ⟨k + 1, out, ttl, any, by have := HLT.out; omega, by omega, by go_num, rfl, rfl, ⟨by have := HOL.out; omega⟩, BR2, ⟨?_⟩, OW2⟩
          rw [HA.out, HST.out, if_neg (by rw [Q3.out]; simp)]
      | true =>
        have Q3 := Aside0.mk q3
        clear q3
        go_wp2_with fail
        refine (bv (requal_calls _ _ r.name n _ (HVN.out.below pS BWr.out) (HV.out.below pS BW.out)) Q3.out).mono ?_
        rintro e w2 ⟨rfl, hb2⟩
        have HB2 := Aside0.mk hb2
        obtain ⟨bc, bf⟩ := bcell hb2
        clear hb2
        have BR2 : Aside0 (Below w.heap.size w w2) := ⟨BW.out.trans (HB2.out.mono BW.out.size)⟩
        have OW2 := Aside0.mk (OW1.out.below HB2.out)
        have COND : Aside0 ((decide (r.cls = 1) && decide (r.typ = kind) && nEq r.name n) = true) := ⟨by rw [decide_eq_true Q1.out, decide_eq_true Q2.out, Q3.out]; rfl⟩
        have DR2 := Aside0.mk (K_below HDT.out (BWr.out.trans (HB2.out.mono BWr.out.size)))
        have z3 := (HB2.out.cell (p := ⟨wr.heap.size, 3, none⟩) hl2).trans x3
        have z4 := (HB2.out.cell (p := ⟨wr.heap.size, 4, none⟩) hl2).trans x4
        have z5 := (HB2.out.cell (p := ⟨wr.heap.size, 5, none⟩) hl2).trans x5
        have z6 := (HB2.out.cell (p := ⟨wr.heap.size, 6, none⟩) hl2).trans x6
        have z7 := (HB2.out.cell (p := ⟨wr.heap.size, 7, none⟩) hl2).trans x7
        have z8 := (HB2.out.cell (p := ⟨wr.heap.size, 8, none⟩) hl2).trans x8
        clear x0 x1 x2 x3 x4 x5 x6 x7 x8 bc bf
        cases any with
        | false =>
          cases q5 : dIn out r.data with
          | true =>
            have Q5 := Aside0.mk q5
            clear q5
            go_wp2_with fail
            refine (bv (din_calls _ out r.data _ w2 (OW2.out.rd (fun _ _ => trivial) (fun _ _ => trivial)) (kD.mono (fun _ _ => trivial) DR2.out)) Q5.out).mono ?_
            rintro e w3 ⟨rfl, hb3⟩
            have HB3 := Aside0.mk hb3
            clear hb3 z3 z4 z5 z6 z7 z8
            go_wp2_with fail
            go_roundg (l.length - (k + 1))
            case measure => have := HLT.out; omega
            case rel =>
              refine ⟨k + 1, out, r.ttl, true, by have := HLT.out; omega, by omega, by go_num, rfl, rfl, ⟨by have := HOL.out; omega⟩, ⟨BR2.out.trans (HB3.out.mono BR2.out.size)⟩, ⟨?_⟩, ⟨OW2.out.below HB3.out⟩⟩
              rw [HA.out, HST.out, if_pos COND.out, if_pos Q5.out, if_pos (by rfl)]
          | false =>
            have Q5 := Aside0.mk q5
            clear q5
            go_wp2_with fail
            refine (bv (din_calls _ out r.data _ w2 (OW2.out.rd (fun _ _ => trivial) (fun _ _ => trivial)) (kD.mono (fun _ _ => trivial) DR2.out)) Q5.out).mono ?_
            rintro e w3 ⟨rfl, hb3⟩
            have HB3 := Aside0.mk hb3
            have hl3 : wr.heap.size < w2.heap.size := Nat.lt_of_lt_of_le hl2 HB2.out.size
            have g4 := (HB3.out.cell (p := ⟨wr.heap.size, 4, none⟩) hl3).trans z4
            have g5 := (HB3.out.cell (p := ⟨wr.heap.size, 5, none⟩) hl3).trans z5
            have g6 := (HB3.out.cell (p := ⟨wr.heap.size, 6, none⟩) hl3).trans z6
            have g7 := (HB3.out.cell (p := ⟨wr.heap.size, 7, none⟩) hl3).trans z7
            have g8 := (HB3.out.cell (p := ⟨wr.heap.size, 8, none⟩) hl3).trans z8
            have BR3 : Aside0 (Below w.heap.size w w3) := ⟨BR2.out.trans (HB3.out.mono BR2.out.size)⟩
            have OW3 := Aside0.mk (OW2.out.below HB3.out)
            have HP : Aside0 (kD.K w3 (fun k => k < w.heap.size ∧ some k ≠ (Value.slice As out.length ks).ownBlock) r.data [.slice A4 r.data.bytes.length k4, .slice A5 r.data.host.length k5, .slice A6 r.data.mail.length k6, .slice A7 r.data.nums.length k7, .slice A8 r.data.texts.length k8]) := ⟨kD.mono (fun kk hkk => ⟨hkk.2, fun he => by have h1 := (OW3.out.lt kk he.symm).1; have h2 := hkk.2; omega⟩) (K_below DR2.out HB3.out)⟩
            clear hb3 z3 z4 z5 z6 z7 z8
            go_wp2_with (at_builtin; refine Own.append kD w.heap.size rfl (.tmp 53) (.tmp 56) 48 42 (.agg #[.slice none 0 0, .slice none 0 0, .slice none 0 0, .slice none 0 0, .slice none 0 0]) rfl Try.underlying48 infoD0 rfl (by decide) (by decide) _ _ _ _ _ rfl rfl HP.out OW3.out BR3.out BR3.out.size HRM.out ?_; intro v4 w4 ho4 hb4 hg4 ha4)
            go_roundg (l.length - (k + 1))
            case measure => have := HLT.out; omega
            case rel =>
              refine ⟨k + 1, out ++ [r.data], r.ttl, true, by have := HLT.out; omega, by omega, by go_num, rfl, rfl, ⟨by have := HOL.out; simp only [List.length_append, List.length_cons, List.length_nil]; omega⟩, ⟨hb4⟩, ⟨?_⟩, ⟨ho4⟩⟩
              rw [HA.out, HST.out, if_pos COND.out, if_neg (by rw [Q5.out]; simp), if_pos (by rfl)]
        | true =>
          by_cases q4 : r.ttl < ttl
          · have Q4 := Aside0.mk q4
            cases q5 : dIn out r.data with
            | true =>
              have Q5 := Aside0.mk q5
              clear q5
              go_wp2_with fail
              refine (bv (din_calls _ out r.data _ w2 (OW2.out.rd (fun _ _ => trivial) (fun _ _ => trivial)) (kD.mono (fun _ _ => trivial) DR2.out)) Q5.out).mono ?_
              rintro e w3 ⟨rfl, hb3⟩
              have HB3 := Aside0.mk hb3
              clear hb3 z3 z4 z5 z6 z7 z8
              go_wp2_with fail
              go_roundg (l.length - (k + 1))
              case measure => have := HLT.out; omega
              case rel =>
                refine ⟨k + 1, out, r.ttl, true, by have := HLT.out; omega, by omega, by go_num, rfl, rfl, ⟨by have := HOL.out; omega⟩, ⟨BR2.out.trans (HB3.out.mono BR2.out.size)⟩, ⟨?_⟩, ⟨OW2.out.below HB3.out⟩⟩
                rw [HA.out, HST.out, if_pos COND.out, if_pos Q5.out, if_pos (by rw [decide_eq_true Q4.out]; rfl)]
            | false =>
              have Q5 := Aside0.mk q5
              clear q5
              go_wp2_with fail
              refine (bv (din_calls _ out r.data _ w2 (OW2.out.rd (fun _ _ => trivial) (fun _ _ => trivial)) (kD.mono (fun _ _ => trivial) DR2.out)) Q5.out).mono ?_
              rintro e w3 ⟨rfl, hb3⟩
              have HB3 := Aside0.mk hb3
              have hl3 : wr.heap.size < w2.heap.size := Nat.lt_of_lt_of_le hl2 HB2.out.size
              have g4 := (HB3.out.cell (p := ⟨wr.heap.size, 4, none⟩) hl3).trans z4
              have g5 := (HB3.out.cell (p := ⟨wr.heap.size, 5, none⟩) hl3).trans z5
              have g6 := (HB3.out.cell (p := ⟨wr.heap.size, 6, none⟩) hl3).trans z6
              have g7 := (HB3.out.cell (p := ⟨wr.heap.size, 7, none⟩) hl3).trans z7
              have g8 := (HB3.out.cell (p := ⟨wr.heap.size, 8, none⟩) hl3).trans z8
              have BR3 : Aside0 (Below w.heap.size w w3) := ⟨BR2.out.trans (HB3.out.mono BR2.out.size)⟩
              have OW3 := Aside0.mk (OW2.out.below HB3.out)
              have HP : Aside0 (kD.K w3 (fun k => k < w.heap.size ∧ some k ≠ (Value.slice As out.length ks).ownBlock) r.data [.slice A4 r.data.bytes.length k4, .slice A5 r.data.host.length k5, .slice A6 r.data.mail.length k6, .slice A7 r.data.nums.length k7, .slice A8 r.data.texts.length k8]) := ⟨kD.mono (fun kk hkk => ⟨hkk.2, fun he => by have h1 := (OW3.out.lt kk he.symm).1; have h2 := hkk.2; omega⟩) (K_below DR2.out HB3.out)⟩
              clear hb3 z3 z4 z5 z6 z7 z8
              go_wp2_with (at_builtin; refine Own.append kD w.heap.size rfl (.tmp 53) (.tmp 56) 48 42 (.agg #[.slice none 0 0, .slice none 0 0, .slice none 0 0, .slice none 0 0, .slice none 0 0]) rfl Try.underlying48 infoD0 rfl (by decide) (by decide) _ _ _ _ _ rfl rfl HP.out OW3.out BR3.out BR3.out.size HRM.out ?_; intro v4 w4 ho4 hb4 hg4 ha4)
              go_roundg (l.length - (k + 1))
              case measure => have := HLT.out; omega
              case rel =>
                refine ⟨k + 1, out ++ [r.data], r.ttl, true, by have := HLT.out; omega, by omega, by go_num, rfl, rfl, ⟨by have := HOL.out; simp only [List.length_append, List.length_cons, List.length_nil]; omega⟩, ⟨hb4⟩, ⟨?_⟩, ⟨ho4⟩⟩
                rw [HA.out, HST.out, if_pos COND.out, if_neg (by rw [Q5.out]; simp), if_pos (by rw [decide_eq_true Q4.out]; rfl)]
          · have Q4 := Aside0.mk q4
            cases q5 : dIn out r.data with
            | true =>
              have Q5 := Aside0.mk q5
              clear q5
              go_wp2_with fail
              refine (bv (din_calls _ out r.data _ w2 (OW2.out.rd (fun _ _ => trivial) (fun _ _ => trivial)) (kD.mono (fun _ _ => trivial) DR2.out)) Q5.out).mono ?_
              rintro e w3 ⟨rfl, hb3⟩
              have HB3 := Aside0.mk hb3
              clear hb3 z3 z4 z5 z6 z7 z8
              go_wp2_with fail
              go_roundg (l.length - (k + 1))
              case measure => have := HLT.out; omega
              case rel =>
                refine ⟨k + 1, out, ttl, true, by have := HLT.out; omega, by omega, by go_num, rfl, rfl, ⟨by have := HOL.out; omega⟩, ⟨BR2.out.trans (HB3.out.mono BR2.out.size)⟩, ⟨?_⟩, ⟨OW2.out.below HB3.out⟩⟩
                rw [HA.out, HST.out, if_pos COND.out, if_pos Q5.out, if_neg (by rw [decide_eq_false (by have := Q4.out; omega)]; simp)]
            | false =>
              have Q5 := Aside0.mk q5
              clear q5
              go_wp2_with fail
              refine (bv (din_calls _ out r.data _ w2 (OW2.out.rd (fun _ _ => trivial) (fun _ _ => trivial)) (kD.mono (fun _ _ => trivial) DR2.out)) Q5.out).mono ?_
              rintro e w3 ⟨rfl, hb3⟩
              have HB3 := Aside0.mk hb3
              have hl3 : wr.heap.size < w2.heap.size := Nat.lt_of_lt_of_le hl2 HB2.out.size
              have g4 := (HB3.out.cell (p := ⟨wr.heap.size, 4, none⟩) hl3).trans z4
              have g5 := (HB3.out.cell (p := ⟨wr.heap.size, 5, none⟩) hl3).trans z5
              have g6 := (HB3.out.cell (p := ⟨wr.heap.size, 6, none⟩) hl3).trans z6
              have g7 := (HB3.out.cell (p := ⟨wr.heap.size, 7, none⟩) hl3).trans z7
              have g8 := (HB3.out.cell (p := ⟨wr.heap.size, 8, none⟩) hl3).trans z8
              have BR3 : Aside0 (Below w.heap.size w w3) := ⟨BR2.out.trans (HB3.out.mono BR2.out.size)⟩
              have OW3 := Aside0.mk (OW2.out.below HB3.out)
              have HP : Aside0 (kD.K w3 (fun k => k < w.heap.size ∧ some k ≠ (Value.slice As out.length ks).ownBlock) r.data [.slice A4 r.data.bytes.length k4, .slice A5 r.data.host.length k5, .slice A6 r.data.mail.length k6, .slice A7 r.data.nums.length k7, .slice A8 r.data.texts.length k8]) := ⟨kD.mono (fun kk hkk => ⟨hkk.2, fun he => by have h1 := (OW3.out.lt kk he.symm).1; have h2 := hkk.2; omega⟩) (K_below DR2.out HB3.out)⟩
              clear hb3 z3 z4 z5 z6 z7 z8
              go_wp2_with (at_builtin; refine Own.append kD w.heap.size rfl (.tmp 53) (.tmp 56) 48 42 (.agg #[.slice none 0 0, .slice none 0 0, .slice none 0 0, .slice none 0 0, .slice none 0 0]) rfl Try.underlying48 infoD0 rfl (by decide) (by decide) _ _ _ _ _ rfl rfl HP.out OW3.out BR3.out BR3.out.size HRM.out ?_; intro v4 w4 ho4 hb4 hg4 ha4)
              go_roundg (l.length - (k + 1))
              case measure => have := HLT.out; omega
              case rel =>
                refine ⟨k + 1, out ++ [r.data], ttl, true, by have := HLT.out; omega, by omega, by go_num, rfl, rfl, ⟨by have := HOL.out; simp only [List.length_append, List.length_cons, List.length_nil]; omega⟩, ⟨hb4⟩, ⟨?_⟩, ⟨ho4⟩⟩
                rw [HA.out, HST.out, if_pos COND.out, if_neg (by rw [Q5.out]; simp), if_neg (by rw [decide_eq_false (by have := Q4.out; omega)]; simp)]
    · have hka : k = l.length := by omega
      have HKA := Aside0.mk hka
      clear hka
      go_wp2_with fail
      go_ret2
      have hfin : rset l n kind = (out, ttl) := by rw [HA.out, HKA.out, List.drop_length]; rfl
      rw [hfin]
      exact ⟨_, rfl, HO.out, HB.out⟩
end Go.Proofs.Ytkbjbkmaokebgaa.Gz

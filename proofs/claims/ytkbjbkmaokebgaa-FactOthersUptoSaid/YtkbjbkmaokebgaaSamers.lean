import Derived.Test.YtkbjbkmaokebgaaKit2
set_option linter.unusedVariables false
set_option linter.unusedSimpArgs false
namespace Go.Proofs.Ytkbjbkmaokebgaa.Gz
open Go.RowKit Go.Proofs.YtkbjbkmaokebgaaW.PrintWords
open Ki
theorem keep18 {W0 W w1 : World} (hb : Below W.heap.size W w1) {a0 a1 a2 a3 a4 a5 a6 a7 a8 a9 a10 a11 a12 a13 a14 a15 a16 a17 : Addr} {x0 x1 x2 x3 x4 x5 x6 x7 x8 x9 x10 x11 x12 x13 x14 x15 x16 x17 : Value} (h : Below W0.heap.size W0 W ∧ W.cell? a0 = some x0 ∧ W.cell? a1 = some x1 ∧ W.cell? a2 = some x2 ∧ W.cell? a3 = some x3 ∧ W.cell? a4 = some x4 ∧ W.cell? a5 = some x5 ∧ W.cell? a6 = some x6 ∧ W.cell? a7 = some x7 ∧ W.cell? a8 = some x8 ∧ W.cell? a9 = some x9 ∧ W.cell? a10 = some x10 ∧ W.cell? a11 = some x11 ∧ W.cell? a12 = some x12 ∧ W.cell? a13 = some x13 ∧ W.cell? a14 = some x14 ∧ W.cell? a15 = some x15 ∧ W.cell? a16 = some x16 ∧ W.cell? a17 = some x17) : Below W0.heap.size W0 w1 ∧ w1.cell? a0 = some x0 ∧ w1.cell? a1 = some x1 ∧ w1.cell? a2 = some x2 ∧ w1.cell? a3 = some x3 ∧ w1.cell? a4 = some x4 ∧ w1.cell? a5 = some x5 ∧ w1.cell? a6 = some x6 ∧ w1.cell? a7 = some x7 ∧ w1.cell? a8 = some x8 ∧ w1.cell? a9 = some x9 ∧ w1.cell? a10 = some x10 ∧ w1.cell? a11 = some x11 ∧ w1.cell? a12 = some x12 ∧ w1.cell? a13 = some x13 ∧ w1.cell? a14 = some x14 ∧ w1.cell? a15 = some x15 ∧ w1.cell? a16 = some x16 ∧ w1.cell? a17 = some x17 := by
  obtain ⟨h1, k0, k1, k2, k3, k4, k5, k6, k7, k8, k9, k10, k11, k12, k13, k14, k15, k16, k17⟩ := h
  exact ⟨h1.trans (hb.mono h1.size), (hb.cell (World.block_lt_of_cell? W _ k0)).trans k0, (hb.cell (World.block_lt_of_cell? W _ k1)).trans k1, (hb.cell (World.block_lt_of_cell? W _ k2)).trans k2, (hb.cell (World.block_lt_of_cell? W _ k3)).trans k3, (hb.cell (World.block_lt_of_cell? W _ k4)).trans k4, (hb.cell (World.block_lt_of_cell? W _ k5)).trans k5, (hb.cell (World.block_lt_of_cell? W _ k6)).trans k6, (hb.cell (World.block_lt_of_cell? W _ k7)).trans k7, (hb.cell (World.block_lt_of_cell? W _ k8)).trans k8, (hb.cell (World.block_lt_of_cell? W _ k9)).trans k9, (hb.cell (World.block_lt_of_cell? W _ k10)).trans k10, (hb.cell (World.block_lt_of_cell? W _ k11)).trans k11, (hb.cell (World.block_lt_of_cell? W _ k12)).trans k12, (hb.cell (World.block_lt_of_cell? W _ k13)).trans k13, (hb.cell (World.block_lt_of_cell? W _ k14)).trans k14, (hb.cell (World.block_lt_of_cell? W _ k15)).trans k15, (hb.cell (World.block_lt_of_cell? W _ k16)).trans k16, (hb.cell (World.block_lt_of_cell? W _ k17)).trans k17⟩
set_option maxHeartbeats 8000000 in
set_option maxRecDepth 100000 in
theorem samers_calls (u v : Value) (l : List RR) (w : World) (hu : kR.Rd w (fun _ => True) u l) (hv : kR.Rd w (fun _ => True) v l) :
    Calls Try.prog 25 #[u, v] w fun e w' => e = .returned (.bool true) ∧ Below w.heap.size w w' := by
  have HU := Aside0.mk hu
  have HV := Aside0.mk hv
  have hmax := hu.max
  obtain ⟨Au, cu, rfl, _, _⟩ := hu
  obtain ⟨Av, cv, rfl, _, _⟩ := hv
  go_enter Try.func25, Try.ntmps25
  go_wp2_with fail
  go_loopg [5] l.length (fun gg s5 wr => ∃ k : Nat, k ≤ l.length ∧ l.length - k ≤ gg ∧ s5 = .int .i64 k ∧ Aside0 (Below w.heap.size w wr))
  case atStart => exact ⟨0, Nat.zero_le _, by omega, rfl, ⟨Below.refl _ _⟩⟩
  case round =>
    obtain ⟨k, hk, hg, rfl, HB⟩ := hrel
    by_cases hlt : k < l.length
    · have HLT := Aside0.mk hlt
      obtain ⟨A2, c2, he2, _, hrow2⟩ := HU.out.below pR HB.out
      obtain ⟨rfl, rfl⟩ : Au = A2 ∧ cu = c2 := by injection he2 with h1 _ h3; exact ⟨h1, h3⟩
      obtain ⟨ad, vw, d4, d5, d6, d7, d8, rfl, hKr, e0, e1, e2, e3, e4, e5, e6, e7, e8⟩ := cell_r hrow2 k hlt
      obtain ⟨A3, c3, he3, _, hrow3⟩ := HV.out.below pR HB.out
      obtain ⟨rfl, rfl⟩ : Av = A3 ∧ cv = c3 := by injection he3 with h1 _ h3; exact ⟨h1, h3⟩
      obtain ⟨ae, vx, g4, g5, g6, g7, g8, rfl, hKs, a0, a1, a2, a3, a4, a5, a6, a7, a8⟩ := cell_r hrow3 k hlt
      generalize l[k] = r at hKr hKs e1 e2 e3 a1 a2 a3
      obtain ⟨A0, k0, A4, k4, A5, k5, A6, k6, A7, k7, A8, k8, rfl, rfl, rfl, rfl, rfl, rfl⟩ := kR_form hKr
      obtain ⟨A0s, k0s, A4s, k4s, A5s, k5s, A6s, k6s, A7s, k7s, A8s, k8s, rfl, rfl, rfl, rfl, rfl, rfl⟩ := kR_form hKs
      have HKr := Aside0.mk hKr
      have HKs := Aside0.mk hKs
      have k0' : (0 : Int) ≤ (k : Int) := by omega
      have k1' : (k : Int) < (l.length : Int) := by omega
      have hst2 : Below wr.heap.size wr wr.drew ∧ wr.drew.cell? (ad.add (k * 9)) = some (.slice A0 r.name.length k0) ∧ wr.drew.cell? ⟨(ad.add (k * 9)).block, (ad.add (k * 9)).off + 1, none⟩ = some (.int .i64 r.typ) ∧ wr.drew.cell? ⟨(ad.add (k * 9)).block, (ad.add (k * 9)).off + 2, none⟩ = some (.int .i64 r.cls) ∧ wr.drew.cell? ⟨(ad.add (k * 9)).block, (ad.add (k * 9)).off + 3, none⟩ = some (.int .i64 r.ttl) ∧ wr.drew.cell? ⟨(ad.add (k * 9)).block, (ad.add (k * 9)).off + 4, none⟩ = some (.slice A4 r.data.bytes.length k4) ∧ wr.drew.cell? ⟨(ad.add (k * 9)).block, (ad.add (k * 9)).off + 5, none⟩ = some (.slice A5 r.data.host.length k5) ∧ wr.drew.cell? ⟨(ad.add (k * 9)).block, (ad.add (k * 9)).off + 6, none⟩ = some (.slice A6 r.data.mail.length k6) ∧ wr.drew.cell? ⟨(ad.add (k * 9)).block, (ad.add (k * 9)).off + 7, none⟩ = some (.slice A7 r.data.nums.length k7) ∧ wr.drew.cell? ⟨(ad.add (k * 9)).block, (ad.add (k * 9)).off + 8, none⟩ = some (.slice A8 r.data.texts.length k8) ∧ wr.drew.cell? (ae.add (k * 9)) = some (.slice A0s r.name.length k0s) ∧ wr.drew.cell? ⟨(ae.add (k * 9)).block, (ae.add (k * 9)).off + 1, none⟩ = some (.int .i64 r.typ) ∧ wr.drew.cell? ⟨(ae.add (k * 9)).block, (ae.add (k * 9)).off + 2, none⟩ = some (.int .i64 r.cls) ∧ wr.drew.cell? ⟨(ae.add (k * 9)).block, (ae.add (k * 9)).off + 3, none⟩ = some (.int .i64 r.ttl) ∧ wr.drew.cell? ⟨(ae.add (k * 9)).block, (ae.add (k * 9)).off + 4, none⟩ = some (.slice A4s r.data.bytes.length k4s) ∧ wr.drew.cell? ⟨(ae.add (k * 9)).block, (ae.add (k * 9)).off + 5, none⟩ = some (.slice A5s r.data.host.length k5s) ∧ wr.drew.cell? ⟨(ae.add (k * 9)).block, (ae.add (k * 9)).off + 6, none⟩ = some (.slice A6s r.data.mail.length k6s) ∧ wr.drew.cell? ⟨(ae.add (k * 9)).block, (ae.add (k * 9)).off + 7, none⟩ = some (.slice A7s r.data.nums.length k7s) ∧ wr.drew.cell? ⟨(ae.add (k * 9)).block, (ae.add (k * 9)).off + 8, none⟩ = some (.slice A8s r.data.texts.length k8s) := ⟨(Below.refl _ _).drew, e0, e1, e2, e3, e4, e5, e6, e7, e8, a0, a1, a2, a3, a4, a5, a6, a7, a8⟩
      clear hKr hKs hrow2 hrow3 he2 he3
      go_upto_region 6 with (fail)
      go_region_held3 (fun w' => Below wr.heap.size wr w' ∧ w'.cell? (ad.add (k * 9)) = some (.slice A0 r.name.length k0) ∧ w'.cell? ⟨(ad.add (k * 9)).block, (ad.add (k * 9)).off + 1, none⟩ = some (.int .i64 r.typ) ∧ w'.cell? ⟨(ad.add (k * 9)).block, (ad.add (k * 9)).off + 2, none⟩ = some (.int .i64 r.cls) ∧ w'.cell? ⟨(ad.add (k * 9)).block, (ad.add (k * 9)).off + 3, none⟩ = some (.int .i64 r.ttl) ∧ w'.cell? ⟨(ad.add (k * 9)).block, (ad.add (k * 9)).off + 4, none⟩ = some (.slice A4 r.data.bytes.length k4) ∧ w'.cell? ⟨(ad.add (k * 9)).block, (ad.add (k * 9)).off + 5, none⟩ = some (.slice A5 r.data.host.length k5) ∧ w'.cell? ⟨(ad.add (k * 9)).block, (ad.add (k * 9)).off + 6, none⟩ = some (.slice A6 r.data.mail.length k6) ∧ w'.cell? ⟨(ad.add (k * 9)).block, (ad.add (k * 9)).off + 7, none⟩ = some (.slice A7 r.data.nums.length k7) ∧ w'.cell? ⟨(ad.add (k * 9)).block, (ad.add (k * 9)).off + 8, none⟩ = some (.slice A8 r.data.texts.length k8) ∧ w'.cell? (ae.add (k * 9)) = some (.slice A0s r.name.length k0s) ∧ w'.cell? ⟨(ae.add (k * 9)).block, (ae.add (k * 9)).off + 1, none⟩ = some (.int .i64 r.typ) ∧ w'.cell? ⟨(ae.add (k * 9)).block, (ae.add (k * 9)).off + 2, none⟩ = some (.int .i64 r.cls) ∧ w'.cell? ⟨(ae.add (k * 9)).block, (ae.add (k * 9)).off + 3, none⟩ = some (.int .i64 r.ttl) ∧ w'.cell? ⟨(ae.add (k * 9)).block, (ae.add (k * 9)).off + 4, none⟩ = some (.slice A4s r.data.bytes.length k4s) ∧ w'.cell? ⟨(ae.add (k * 9)).block, (ae.add (k * 9)).off + 5, none⟩ = some (.slice A5s r.data.host.length k5s) ∧ w'.cell? ⟨(ae.add (k * 9)).block, (ae.add (k * 9)).off + 6, none⟩ = some (.slice A6s r.data.mail.length k6s) ∧ w'.cell? ⟨(ae.add (k * 9)).block, (ae.add (k * 9)).off + 7, none⟩ = some (.slice A7s r.data.nums.length k7s) ∧ w'.cell? ⟨(ae.add (k * 9)).block, (ae.add (k * 9)).off + 8, none⟩ = some (.slice A8s r.data.texts.length k8s))
        (first | (with_reducible exact keep18 hb5 (by assumption)) | go_keep)
        ((go_at_call 17; refine (bv (samerr_calls r r _ _ _ (K_below HKr.out (And.left (by assumption))) (K_below HKs.out (And.left (by assumption)))) (rrSame_refl r)).mono ?_; rintro e w5 ⟨rfl, hb5⟩))
      have hs5 : Below wr.heap.size wr w5 := And.left (by assumption)
      have B5 := Aside0.mk hs5
      clear hs5
      go_wp2_with fail
      go_roundg (l.length - (k + 1))
      case measure => have := HLT.out; omega
      case rel => exact ⟨k + 1, by have := HLT.out; omega, by omega, by go_num, ⟨HB.out.trans (B5.out.mono HB.out.size)⟩⟩
    · have hka : k = l.length := by omega
      have HK := Aside0.mk hka
      clear hka
      go_wp2_with fail
      go_ret
      exact ⟨rfl, HB.out⟩
theorem keep8 {W0 W w1 : World} (hb : Below W.heap.size W w1) {a0 a1 a2 a3 a4 a5 a6 a7 : Addr} {x0 x1 x2 x3 x4 x5 x6 x7 : Value} (h : Below W0.heap.size W0 W ∧ W.cell? a0 = some x0 ∧ W.cell? a1 = some x1 ∧ W.cell? a2 = some x2 ∧ W.cell? a3 = some x3 ∧ W.cell? a4 = some x4 ∧ W.cell? a5 = some x5 ∧ W.cell? a6 = some x6 ∧ W.cell? a7 = some x7) : Below W0.heap.size W0 w1 ∧ w1.cell? a0 = some x0 ∧ w1.cell? a1 = some x1 ∧ w1.cell? a2 = some x2 ∧ w1.cell? a3 = some x3 ∧ w1.cell? a4 = some x4 ∧ w1.cell? a5 = some x5 ∧ w1.cell? a6 = some x6 ∧ w1.cell? a7 = some x7 := by
  obtain ⟨h1, k0, k1, k2, k3, k4, k5, k6, k7⟩ := h
  exact ⟨h1.trans (hb.mono h1.size), (hb.cell (World.block_lt_of_cell? W _ k0)).trans k0, (hb.cell (World.block_lt_of_cell? W _ k1)).trans k1, (hb.cell (World.block_lt_of_cell? W _ k2)).trans k2, (hb.cell (World.block_lt_of_cell? W _ k3)).trans k3, (hb.cell (World.block_lt_of_cell? W _ k4)).trans k4, (hb.cell (World.block_lt_of_cell? W _ k5)).trans k5, (hb.cell (World.block_lt_of_cell? W _ k6)).trans k6, (hb.cell (World.block_lt_of_cell? W _ k7)).trans k7⟩
/-- The cells of a question in a row, as the walk asks for them. -/
theorem cell_q {w : World} {ok : Nat → Prop} {A : Option Addr} {xs : List Qn} (h : kQ.Row w ok A xs) (k : Nat) (hk : k < xs.length) :
    ∃ ad vv, A = some ad ∧ kQ.K w ok xs[k] [vv, .int .i64 xs[k].typ, .int .i64 xs[k].cls] ∧
      w.cell? (ad.add (k * 3)) = some vv ∧ w.cell? ⟨(ad.add (k * 3)).block, (ad.add (k * 3)).off + 1, none⟩ = some (.int .i64 xs[k].typ) ∧ w.cell? ⟨(ad.add (k * 3)).block, (ad.add (k * 3)).off + 2, none⟩ = some (.int .i64 xs[k].cls) := by
  obtain ⟨ad, cs, e, _, hK, hc⟩ := h.at_ k hk
  have hK0 := hK
  obtain ⟨vv, rfl, _, _, _⟩ := hK
  have e1 : ∀ j, 0 < j → (ad.add (k * kQ.sz + j)) = ⟨(ad.add (k * 3)).block, (ad.add (k * 3)).off + j, none⟩ := fun j hj => by
    show ad.add (k * 3 + j) = _
    rw [← add_add]
    generalize ad.add (k * 3) = b
    unfold Addr.add
    rw [if_neg (by omega)]
  refine ⟨ad, vv, e, hK0, ?_, ?_, ?_⟩
  · exact hc 0 _ rfl
  · rw [← e1 1 (by decide)]; exact hc 1 _ rfl
  · rw [← e1 2 (by decide)]; exact hc 2 _ rfl
theorem kM_form {w : World} {ok : Nat → Prop} {m : Msg} {cs : List Value} (h : kM.K w ok m cs) : ∃ A8 k8 A9 k9 A10 k10 A11 k11, cs = [.int .i64 m.id, .bool m.resp, .int .i64 m.opc, .bool m.aa, .bool m.tc, .bool m.rd, .bool m.ra, .int .i64 m.rcode, .slice A8 m.qs.length k8, .slice A9 m.ans.length k9, .slice A10 m.auth.length k10, .slice A11 m.extra.length k11, .bool m.edns, .int .i64 m.size] ∧
    kQ.Rd w ok (.slice A8 m.qs.length k8) m.qs ∧ kR.Rd w ok (.slice A9 m.ans.length k9) m.ans ∧ kR.Rd w ok (.slice A10 m.auth.length k10) m.auth ∧ kR.Rd w ok (.slice A11 m.extra.length k11) m.extra := by
  obtain ⟨v1, v2, v3, v4, rfl, _, _, _, h1, h2, h3, h4, _⟩ := h
  obtain ⟨A8, k8, rfl, _⟩ := (⟨_, _, h1.choose_spec.choose_spec.1, trivial⟩ : ∃ A k, v1 = .slice A m.qs.length k ∧ True)
  obtain ⟨A9, k9, rfl, _⟩ := (⟨_, _, h2.choose_spec.choose_spec.1, trivial⟩ : ∃ A k, v2 = .slice A m.ans.length k ∧ True)
  obtain ⟨A10, k10, rfl, _⟩ := (⟨_, _, h3.choose_spec.choose_spec.1, trivial⟩ : ∃ A k, v3 = .slice A m.auth.length k ∧ True)
  obtain ⟨A11, k11, rfl, _⟩ := (⟨_, _, h4.choose_spec.choose_spec.1, trivial⟩ : ∃ A k, v4 = .slice A m.extra.length k ∧ True)
  exact ⟨_, _, _, _, _, _, _, _, rfl, h1, h2, h3, h4⟩
set_option maxHeartbeats 16000000 in
set_option maxRecDepth 100000 in
theorem samemsg_calls (m : Msg) (cu cv : List Value) (w : World) (hu : kM.K w (fun _ => True) m cu) (hv : kM.K w (fun _ => True) m cv) :
    Calls Try.prog 24 #[.agg cu.toArray, .agg cv.toArray] w fun e w' => e = .returned (.bool true) ∧ Below w.heap.size w w' := by
  obtain ⟨A8u, k8u, A9u, k9u, A10u, k10u, A11u, k11u, rfl, hq1, ha1, hb1, hx1⟩ := kM_form hu
  obtain ⟨A8v, k8v, A9v, k9v, A10v, k10v, A11v, k11v, rfl, hq2, ha2, hb2, hx2⟩ := kM_form hv
  have Q1 := Aside0.mk hq1
  have Q2 := Aside0.mk hq2
  have N1 := Aside0.mk ha1
  have N2 := Aside0.mk ha2
  have U1 := Aside0.mk hb1
  have U2 := Aside0.mk hb2
  have E1 := Aside0.mk hx1
  have E2 := Aside0.mk hx2
  have hmax := hq1.max
  clear hu hv hq1 hq2 ha1 ha2 hb1 hb2 hx1 hx2
  generalize hW0 : (w.alloc (.cells #[.int .i64 m.id, .bool m.resp, .int .i64 m.opc, .bool m.aa, .bool m.tc, .bool m.rd, .bool m.ra, .int .i64 m.rcode, .slice A8u m.qs.length k8u, .slice A9u m.ans.length k9u, .slice A10u m.auth.length k10u, .slice A11u m.extra.length k11u, .bool m.edns, .int .i64 m.size] 35)).alloc (.cells #[.int .i64 m.id, .bool m.resp, .int .i64 m.opc, .bool m.aa, .bool m.tc, .bool m.rd, .bool m.ra, .int .i64 m.rcode, .slice A8v m.qs.length k8v, .slice A9v m.ans.length k9v, .slice A10v m.auth.length k10v, .slice A11v m.extra.length k11v, .bool m.edns, .int .i64 m.size] 35) = W0
  have HW0 := Aside0.mk hW0
  have BX : Aside0 (Below w.heap.size w W0) := ⟨by rw [← hW0]; exact below_alloc (below_alloc (Below.refl _ _) _) _⟩
  have hs0 : W0.heap.size = w.heap.size + 2 := by rw [← hW0]; simp
  have u0 : W0.cell? ⟨w.heap.size, 0, none⟩ = some (.int .i64 m.id) := by rw [← hW0, cellA (by simp), cellN rfl]; rfl
  have v0 : W0.cell? ⟨w.heap.size + 1, 0, none⟩ = some (.int .i64 m.id) := by rw [← hW0, cellN (by simp)]; rfl
  have u1 : W0.cell? ⟨w.heap.size, 1, none⟩ = some (.bool m.resp) := by rw [← hW0, cellA (by simp), cellN rfl]; rfl
  have v1 : W0.cell? ⟨w.heap.size + 1, 1, none⟩ = some (.bool m.resp) := by rw [← hW0, cellN (by simp)]; rfl
  have u2 : W0.cell? ⟨w.heap.size, 2, none⟩ = some (.int .i64 m.opc) := by rw [← hW0, cellA (by simp), cellN rfl]; rfl
  have v2 : W0.cell? ⟨w.heap.size + 1, 2, none⟩ = some (.int .i64 m.opc) := by rw [← hW0, cellN (by simp)]; rfl
  have u3 : W0.cell? ⟨w.heap.size, 3, none⟩ = some (.bool m.aa) := by rw [← hW0, cellA (by simp), cellN rfl]; rfl
  have v3 : W0.cell? ⟨w.heap.size + 1, 3, none⟩ = some (.bool m.aa) := by rw [← hW0, cellN (by simp)]; rfl
  have u4 : W0.cell? ⟨w.heap.size, 4, none⟩ = some (.bool m.tc) := by rw [← hW0, cellA (by simp), cellN rfl]; rfl
  have v4 : W0.cell? ⟨w.heap.size + 1, 4, none⟩ = some (.bool m.tc) := by rw [← hW0, cellN (by simp)]; rfl
  have u5 : W0.cell? ⟨w.heap.size, 5, none⟩ = some (.bool m.rd) := by rw [← hW0, cellA (by simp), cellN rfl]; rfl
  have v5 : W0.cell? ⟨w.heap.size + 1, 5, none⟩ = some (.bool m.rd) := by rw [← hW0, cellN (by simp)]; rfl
  have u6 : W0.cell? ⟨w.heap.size, 6, none⟩ = some (.bool m.ra) := by rw [← hW0, cellA (by simp), cellN rfl]; rfl
  have v6 : W0.cell? ⟨w.heap.size + 1, 6, none⟩ = some (.bool m.ra) := by rw [← hW0, cellN (by simp)]; rfl
  have u7 : W0.cell? ⟨w.heap.size, 7, none⟩ = some (.int .i64 m.rcode) := by rw [← hW0, cellA (by simp), cellN rfl]; rfl
  have v7 : W0.cell? ⟨w.heap.size + 1, 7, none⟩ = some (.int .i64 m.rcode) := by rw [← hW0, cellN (by simp)]; rfl
  have u8 : W0.cell? ⟨w.heap.size, 8, none⟩ = some (.slice A8u m.qs.length k8u) := by rw [← hW0, cellA (by simp), cellN rfl]; rfl
  have v8 : W0.cell? ⟨w.heap.size + 1, 8, none⟩ = some (.slice A8v m.qs.length k8v) := by rw [← hW0, cellN (by simp)]; rfl
  have u9 : W0.cell? ⟨w.heap.size, 9, none⟩ = some (.slice A9u m.ans.length k9u) := by rw [← hW0, cellA (by simp), cellN rfl]; rfl
  have v9 : W0.cell? ⟨w.heap.size + 1, 9, none⟩ = some (.slice A9v m.ans.length k9v) := by rw [← hW0, cellN (by simp)]; rfl
  have u10 : W0.cell? ⟨w.heap.size, 10, none⟩ = some (.slice A10u m.auth.length k10u) := by rw [← hW0, cellA (by simp), cellN rfl]; rfl
  have v10 : W0.cell? ⟨w.heap.size + 1, 10, none⟩ = some (.slice A10v m.auth.length k10v) := by rw [← hW0, cellN (by simp)]; rfl
  have u11 : W0.cell? ⟨w.heap.size, 11, none⟩ = some (.slice A11u m.extra.length k11u) := by rw [← hW0, cellA (by simp), cellN rfl]; rfl
  have v11 : W0.cell? ⟨w.heap.size + 1, 11, none⟩ = some (.slice A11v m.extra.length k11v) := by rw [← hW0, cellN (by simp)]; rfl
  have u12 : W0.cell? ⟨w.heap.size, 12, none⟩ = some (.bool m.edns) := by rw [← hW0, cellA (by simp), cellN rfl]; rfl
  have v12 : W0.cell? ⟨w.heap.size + 1, 12, none⟩ = some (.bool m.edns) := by rw [← hW0, cellN (by simp)]; rfl
  have u13 : W0.cell? ⟨w.heap.size, 13, none⟩ = some (.int .i64 m.size) := by rw [← hW0, cellA (by simp), cellN rfl]; rfl
  have v13 : W0.cell? ⟨w.heap.size + 1, 13, none⟩ = some (.int .i64 m.size) := by rw [← hW0, cellN (by simp)]; rfl
  have hl0 : w.heap.size < W0.heap.size := by omega
  have hl1 : w.heap.size + 1 < W0.heap.size := by omega
  have Z8 := Aside0.mk (And.intro u8 (And.intro v8 (And.intro u9 (And.intro v9 (And.intro u10 (And.intro v10 (And.intro u11 v11)))))))
  clear hW0 hs0
  go_enter Try.func24, Try.ntmps24
  go_upto_region 3 with (fail)
  rw [HW0.out]
  clear u0 v0 u1 v1 u2 v2 u3 v3 u4 v4 u5 v5 u6 v6 u7 v7 u9 v9 u10 v10 u11 v11 u12 v12 u13 v13
  go_wp2_with fail
  go_loopg [5] m.qs.length (fun gg s5 wr => ∃ k : Nat, k ≤ m.qs.length ∧ m.qs.length - k ≤ gg ∧ s5 = .int .i64 k ∧ Aside0 (Below W0.heap.size W0 wr))
  case atStart => exact ⟨0, Nat.zero_le _, by omega, rfl, ⟨Below.refl _ _⟩⟩
  case round =>
    obtain ⟨k, hk, hg, rfl, HB⟩ := hrel
    have c8 := (HB.out.cell (p := ⟨w.heap.size, 8, none⟩) hl0).trans u8
    have d8 := (HB.out.cell (p := ⟨w.heap.size + 1, 8, none⟩) hl1).trans v8
    have HB2 : Aside0 (Below w.heap.size w wr) := ⟨BX.out.trans (HB.out.mono BX.out.size)⟩
    by_cases hlt : k < m.qs.length
    · have HLT := Aside0.mk hlt
      obtain ⟨A2, c2, he2, _, hrow2⟩ := Q1.out.below pQ HB2.out
      obtain ⟨rfl, rfl⟩ : A8u = A2 ∧ k8u = c2 := by injection he2 with h1 _ h3; exact ⟨h1, h3⟩
      obtain ⟨ad, vw, rfl, hKr, e0, e1, e2⟩ := cell_q hrow2 k hlt
      obtain ⟨A3, c3, he3, _, hrow3⟩ := Q2.out.below pQ HB2.out
      obtain ⟨rfl, rfl⟩ : A8v = A3 ∧ k8v = c3 := by injection he3 with h1 _ h3; exact ⟨h1, h3⟩
      obtain ⟨ae, vx, rfl, hKs, g0, g1, g2⟩ := cell_q hrow3 k hlt
      generalize m.qs[k] = q at hKr hKs e1 e2 g1 g2
      obtain ⟨vv, hvv, hn1, _, _⟩ := hKr
      obtain rfl : vw = vv := by simpa using hvv
      obtain ⟨A0, k0, rfl, hn1'⟩ : ∃ A0 k0, vw = .slice A0 q.name.length k0 ∧ Aside0 (kS.Rd wr (fun _ => True) vw q.name) := ⟨_, _, hn1.choose_spec.choose_spec.1, ⟨hn1⟩⟩
      obtain ⟨vv2, hvv2, hn2, _, _⟩ := hKs
      obtain rfl : vx = vv2 := by simpa using hvv2
      obtain ⟨B0, l0, rfl, hn2'⟩ : ∃ B0 l0, vx = .slice B0 q.name.length l0 ∧ Aside0 (kS.Rd wr (fun _ => True) vx q.name) := ⟨_, _, hn2.choose_spec.choose_spec.1, ⟨hn2⟩⟩
      have k0' : (0 : Int) ≤ (k : Int) := by omega
      have k1' : (k : Int) < (m.qs.length : Int) := by omega
      have hst2 : Below wr.heap.size wr wr.drew ∧ wr.drew.cell? ⟨w.heap.size, 8, none⟩ = some (.slice (some ad) m.qs.length k8u) ∧ wr.drew.cell? ⟨w.heap.size + 1, 8, none⟩ = some (.slice (some ae) m.qs.length k8v) ∧ wr.drew.cell? (ad.add (k * 3)) = some (.slice A0 q.name.length k0) ∧ wr.drew.cell? ⟨(ad.add (k * 3)).block, (ad.add (k * 3)).off + 1, none⟩ = some (.int .i64 q.typ) ∧ wr.drew.cell? ⟨(ad.add (k * 3)).block, (ad.add (k * 3)).off + 2, none⟩ = some (.int .i64 q.cls) ∧ wr.drew.cell? (ae.add (k * 3)) = some (.slice B0 q.name.length l0) ∧ wr.drew.cell? ⟨(ae.add (k * 3)).block, (ae.add (k * 3)).off + 1, none⟩ = some (.int .i64 q.typ) ∧ wr.drew.cell? ⟨(ae.add (k * 3)).block, (ae.add (k * 3)).off + 2, none⟩ = some (.int .i64 q.cls) := ⟨(Below.refl _ _).drew, c8, d8, e0, e1, e2, g0, g1, g2⟩
      clear hn1 hn2 hrow2 hrow3 he2 he3 hvv hvv2
      go_upto_region 6 with (fail)
      go_region_held3 (fun w' => Below wr.heap.size wr w' ∧ w'.cell? ⟨w.heap.size, 8, none⟩ = some (.slice (some ad) m.qs.length k8u) ∧ w'.cell? ⟨w.heap.size + 1, 8, none⟩ = some (.slice (some ae) m.qs.length k8v) ∧ w'.cell? (ad.add (k * 3)) = some (.slice A0 q.name.length k0) ∧ w'.cell? ⟨(ad.add (k * 3)).block, (ad.add (k * 3)).off + 1, none⟩ = some (.int .i64 q.typ) ∧ w'.cell? ⟨(ad.add (k * 3)).block, (ad.add (k * 3)).off + 2, none⟩ = some (.int .i64 q.cls) ∧ w'.cell? (ae.add (k * 3)) = some (.slice B0 q.name.length l0) ∧ w'.cell? ⟨(ae.add (k * 3)).block, (ae.add (k * 3)).off + 1, none⟩ = some (.int .i64 q.typ) ∧ w'.cell? ⟨(ae.add (k * 3)).block, (ae.add (k * 3)).off + 2, none⟩ = some (.int .i64 q.cls))
        (first | (with_reducible exact keep8 hb5 (by assumption)) | go_keep)
        ((go_at_call 23; refine (bv (exact_calls _ _ q.name q.name _ (hn1'.out.below pS (And.left (by assumption))) (hn2'.out.below pS (And.left (by assumption)))) (decide_eq_true rfl)).mono ?_; rintro e w5 ⟨rfl, hb5⟩))
      have hs5 : Below wr.heap.size wr w5 := And.left (by assumption)
      have B5 := Aside0.mk hs5
      clear hs5
      go_wp2_with fail
      go_roundg (m.qs.length - (k + 1))
      case measure => have := HLT.out; omega
      case rel => exact ⟨k + 1, by have := HLT.out; omega, by omega, by go_num, ⟨HB.out.trans (B5.out.mono HB.out.size)⟩⟩
    · have hka : k = m.qs.length := by omega
      have HK := Aside0.mk hka
      clear hka
      have c9 := (HB.out.cell (p := ⟨w.heap.size, 9, none⟩) hl0).trans Z8.out.2.2.1
      have d9 := (HB.out.cell (p := ⟨w.heap.size + 1, 9, none⟩) hl1).trans Z8.out.2.2.2.1
      go_wp2_with fail
      refine (samers_calls _ _ m.ans _ (N1.out.below pR HB2.out) (N2.out.below pR HB2.out)).mono ?_
      rintro e w1 ⟨rfl, hb1⟩
      have HB1 : Aside0 (Below W0.heap.size W0 w1) := ⟨HB.out.trans (hb1.mono HB.out.size)⟩
      have HBW1 : Aside0 (Below w.heap.size w w1) := ⟨HB2.out.trans (hb1.mono HB2.out.size)⟩
      clear hb1
      have c10 := (HB1.out.cell (p := ⟨w.heap.size, 10, none⟩) hl0).trans Z8.out.2.2.2.2.1
      have d10 := (HB1.out.cell (p := ⟨w.heap.size + 1, 10, none⟩) hl1).trans Z8.out.2.2.2.2.2.1
      go_wp2_with fail
      refine (samers_calls _ _ m.auth _ (U1.out.below pR HBW1.out) (U2.out.below pR HBW1.out)).mono ?_
      rintro e w2 ⟨rfl, hb2⟩
      have HB3 : Aside0 (Below W0.heap.size W0 w2) := ⟨HB1.out.trans (hb2.mono HB1.out.size)⟩
      have HBW2 : Aside0 (Below w.heap.size w w2) := ⟨HBW1.out.trans (hb2.mono HBW1.out.size)⟩
      clear hb2
      have c11 := (HB3.out.cell (p := ⟨w.heap.size, 11, none⟩) hl0).trans Z8.out.2.2.2.2.2.2.1
      have d11 := (HB3.out.cell (p := ⟨w.heap.size + 1, 11, none⟩) hl1).trans Z8.out.2.2.2.2.2.2.2
      go_wp2_with fail
      refine (samers_calls _ _ m.extra _ (E1.out.below pR HBW2.out) (E2.out.below pR HBW2.out)).mono ?_
      rintro e w3 ⟨rfl, hb3⟩
      have HBW3 : Aside0 (Below w.heap.size w w3) := ⟨HBW2.out.trans (hb3.mono HBW2.out.size)⟩
      clear hb3
      go_wp2_with fail
      go_ret
      exact ⟨rfl, HBW3.out⟩
end Go.Proofs.Ytkbjbkmaokebgaa.Gz

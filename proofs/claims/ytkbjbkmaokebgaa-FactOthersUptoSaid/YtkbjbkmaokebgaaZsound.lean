import Derived.Test.YtkbjbkmaokebgaaRrs
import Derived.Deep.LoopGhost
set_option linter.unusedVariables false
set_option linter.unusedSimpArgs false
namespace Go.Proofs.Ytkbjbkmaokebgaa.Gz
open Go.RowKit Go.Proofs.YtkbjbkmaokebgaaW.PrintWords
open Ki
/-- May a record be in a zone, behind others? -/
def zrec (zn : List ByteArray) (pre : List RR) (r : RR) : Bool :=
  rrSound r && decide (r.cls = 1) && nUnder r.name zn && !decide (r.typ = 41) && !decide (r.typ = 255) && !(pre.any fun o => clash o r) && (!decide (r.typ = 6) || decide (r.name.length = zn.length))
def zall (zn : List ByteArray) : List RR → List RR → Bool
  | _, [] => true
  | pre, r :: rs => zrec zn pre r && zall zn (pre ++ [r]) rs
def soas (l : List RR) : Nat := (l.filter fun r => decide (r.typ = 6)).length
/-- May a zone be? -/
def zSound (z : Zone) : Bool := nSound z.name && decide (1 ≤ z.recs.length) && decide (z.recs.length ≤ 256) && zall z.name [] z.recs && decide (soas z.recs = 1)

theorem soas_snoc (l : List RR) (r : RR) : soas (l ++ [r]) = soas l + if r.typ = 6 then 1 else 0 := by
  unfold soas
  rw [List.filter_append, List.length_append]
  by_cases h : r.typ = 6 <;> simp [h]
theorem soas_le (l : List RR) : soas l ≤ l.length := List.length_filter_le _ _
theorem drop_cons {α : Type} (l : List α) (k : Nat) (h : k < l.length) : l.drop k = l[k] :: l.drop (k + 1) := List.drop_eq_getElem_cons h
theorem infoR0 : (Try.prog.info? 44).map (fun i => (i.zero, i.size, i.bytes)) = some (some (.agg #[.slice none 0 0, .int .i64 0, .int .i64 0, .int .i64 0, .slice none 0 0, .slice none 0 0, .slice none 0 0, .slice none 0 0, .slice none 0 0]), kR.sz, kR.bytes) := by kernel_rfl
theorem infoR : ∃ i, Try.prog.info? 44 = some i ∧ i.size = kR.sz := by
  obtain ⟨i, h1, h2⟩ := Option.map_eq_some_iff.1 infoR0
  simp only [Prod.mk.injEq] at h2
  exact ⟨i, h1, h2.2.1⟩
/-- The cells of a record in a row, as the walk asks for them. -/
theorem cell_r {w : World} {ok : Nat → Prop} {A : Option Addr} {xs : List RR} (h : kR.Row w ok A xs) (k : Nat) (hk : k < xs.length) :
    ∃ ad vv c4 c5 c6 c7 c8, A = some ad ∧ kR.K w ok xs[k] [vv, .int .i64 xs[k].typ, .int .i64 xs[k].cls, .int .i64 xs[k].ttl, c4, c5, c6, c7, c8] ∧
      w.cell? (ad.add (k * 9)) = some vv ∧ w.cell? ⟨(ad.add (k * 9)).block, (ad.add (k * 9)).off + 1, none⟩ = some (.int .i64 xs[k].typ) ∧ w.cell? ⟨(ad.add (k * 9)).block, (ad.add (k * 9)).off + 2, none⟩ = some (.int .i64 xs[k].cls) ∧ w.cell? ⟨(ad.add (k * 9)).block, (ad.add (k * 9)).off + 3, none⟩ = some (.int .i64 xs[k].ttl) ∧
      w.cell? ⟨(ad.add (k * 9)).block, (ad.add (k * 9)).off + 4, none⟩ = some c4 ∧ w.cell? ⟨(ad.add (k * 9)).block, (ad.add (k * 9)).off + 5, none⟩ = some c5 ∧ w.cell? ⟨(ad.add (k * 9)).block, (ad.add (k * 9)).off + 6, none⟩ = some c6 ∧ w.cell? ⟨(ad.add (k * 9)).block, (ad.add (k * 9)).off + 7, none⟩ = some c7 ∧ w.cell? ⟨(ad.add (k * 9)).block, (ad.add (k * 9)).off + 8, none⟩ = some c8 := by
  obtain ⟨ad, cs, e, _, hK, hc⟩ := h.at_ k hk
  have hK0 := hK
  obtain ⟨vv, cd, rfl, hv, h1, h2, h3, hd⟩ := hK
  obtain ⟨c4, c5, c6, c7, c8, rfl, _⟩ := hd
  obtain ⟨e0, e1, e2, e3, e4, e5, e6, e7, e8⟩ := cells9 (k * 9) hc
  exact ⟨ad, vv, c4, c5, c6, c7, c8, e, hK0, e0, e1, e2, e3, e4, e5, e6, e7, e8⟩

theorem kR_form {w : World} {ok : Nat → Prop} {r : RR} {vv c4 c5 c6 c7 c8 t1 t2 t3 : Value} (h : kR.K w ok r [vv, t1, t2, t3, c4, c5, c6, c7, c8]) :
    ∃ A0 k0 A4 k4 A5 k5 A6 k6 A7 k7 A8 k8, vv = .slice A0 r.name.length k0 ∧ c4 = .slice A4 r.data.bytes.length k4 ∧ c5 = .slice A5 r.data.host.length k5 ∧ c6 = .slice A6 r.data.mail.length k6 ∧ c7 = .slice A7 r.data.nums.length k7 ∧ c8 = .slice A8 r.data.texts.length k8 := by
  obtain ⟨v0, cd, he, h0, _, _, _, hd⟩ := h
  obtain ⟨d4, d5, d6, d7, d8, rfl, h4, h5, h6, h7, h8⟩ := hd
  simp only [List.cons.injEq] at he
  obtain ⟨rfl, _, _, _, rfl, rfl, rfl, rfl, rfl, _⟩ := he
  obtain ⟨A0, k0, rfl, _⟩ := h0
  obtain ⟨A4, k4, rfl, _⟩ := h4
  obtain ⟨A5, k5, rfl, _⟩ := h5
  obtain ⟨A6, k6, rfl, _⟩ := h6
  obtain ⟨A7, k7, rfl, _⟩ := h7
  obtain ⟨A8, k8, rfl, _⟩ := h8
  exact ⟨A0, k0, A4, k4, A5, k5, A6, k6, A7, k7, A8, k8, rfl, rfl, rfl, rfl, rfl, rfl⟩
set_option maxHeartbeats 1000000 in
theorem zsound1_calls (o r : RR) (co : List Value) (B : Nat) (vv c4 c5 c6 c7 c8 : Value) (w : World) (ho : kR.K w (fun _ => True) o co)
    (hr : kR.K w (fun _ => True) r [vv, .int .i64 r.typ, .int .i64 r.cls, .int .i64 r.ttl, c4, c5, c6, c7, c8]) (hB : B < w.heap.size)
    (h0 : w.cell? ⟨B, 0, none⟩ = some vv) (h1 : w.cell? ⟨B, 1, none⟩ = some (.int .i64 r.typ)) (h2 : w.cell? ⟨B, 2, none⟩ = some (.int .i64 r.cls)) (h3 : w.cell? ⟨B, 3, none⟩ = some (.int .i64 r.ttl))
    (h4 : w.cell? ⟨B, 4, none⟩ = some c4) (h5 : w.cell? ⟨B, 5, none⟩ = some c5) (h6 : w.cell? ⟨B, 6, none⟩ = some c6) (h7 : w.cell? ⟨B, 7, none⟩ = some c7) (h8 : w.cell? ⟨B, 8, none⟩ = some c8) :
    Calls Try.prog 71 #[.agg co.toArray, .pointer (some ⟨B, 0, none⟩)] w fun e w' => e = .returned (.bool (clash o r)) ∧ Below w.heap.size w w' := by
  have KO := Aside0.mk ho
  have KR := Aside0.mk hr
  obtain ⟨vo, cd, rfl, _, _, _, _, hd⟩ := ho
  obtain ⟨d4, d5, d6, d7, d8, rfl, _⟩ := hd
  have BX : Aside0 (Below w.heap.size w (w.alloc (.cells #[vo, .int .i64 o.typ, .int .i64 o.cls, .int .i64 o.ttl, d4, d5, d6, d7, d8] 44))) := ⟨below_alloc (Below.refl _ _) _⟩
  have hne : ¬ (B = w.heap.size) := by omega
  go_enter Try.func71, Try.ntmps71
  go_wp2_with fail
  refine (clash_calls o r _ _ _ (K_below KO.out BX.out) (K_below KR.out BX.out)).mono ?_
  rintro e w1 ⟨rfl, hb1⟩
  have HB := Aside0.mk (BX.out.trans (hb1.mono (by simp)))
  clear hb1
  go_wp2_with fail
  go_ret
  exact ⟨rfl, HB.out⟩

theorem pays_clash (r : RR) (B : Nat) (vv c4 c5 c6 c7 c8 : Value) (w : World) (xs : List RR)
    (hr : kR.K w (fun _ => True) r [vv, .int .i64 r.typ, .int .i64 r.cls, .int .i64 r.ttl, c4, c5, c6, c7, c8]) (hB : B < w.heap.size)
    (hc : ∀ j u, ([vv, .int .i64 r.typ, .int .i64 r.cls, .int .i64 r.ttl, c4, c5, c6, c7, c8] : List Value)[j]? = some u → w.cell? ⟨B, j, none⟩ = some u) :
    Pays kR valN 71 #[.pointer (some ⟨B, 0, none⟩)] w xs (fun o => clash o r) := by
  intro W x cs hx hb hK
  have c : ∀ j u, ([vv, .int .i64 r.typ, .int .i64 r.cls, .int .i64 r.ttl, c4, c5, c6, c7, c8] : List Value)[j]? = some u → W.cell? ⟨B, j, none⟩ = some u := fun j u hu => (hb.cell (p := ⟨B, j, none⟩) hB).trans (hc j u hu)
  exact zsound1_calls x r cs B vv c4 c5 c6 c7 c8 W hK (K_below hr hb) (Nat.lt_of_lt_of_le hB hb.size) (c 0 _ rfl) (c 1 _ rfl) (c 2 _ rfl) (c 3 _ rfl) (c 4 _ rfl) (c 5 _ rfl) (c 6 _ rfl) (c 7 _ rfl) (c 8 _ rfl)
theorem zall_step (zn : List ByteArray) (l : List RR) (k : Nat) (h : k < l.length) : zall zn (l.take k) (l.drop k) = (zrec zn (l.take k) l[k] && zall zn (l.take (k + 1)) (l.drop (k + 1))) := by
  rw [drop_cons l k h, List.take_succ_eq_append_getElem h]; rfl
/-- One false is enough. -/
theorem zSound_no {z : Zone} (k : Nat) (hk : k < z.recs.length) (h : zall z.name [] z.recs = zall z.name (z.recs.take k) (z.recs.drop k)) (hr : zrec z.name (z.recs.take k) z.recs[k] = false) : zSound z = false := by
  unfold zSound
  rw [h, zall_step _ _ k hk, hr]
  simp

set_option maxHeartbeats 8000000 in
set_option maxRecDepth 100000 in
theorem zsound_calls (z : Zone) (cz : List Value) (w : World) (hz : kZ.K w (fun _ => True) z cz) :
    Calls Try.prog 39 #[.agg cz.toArray] w fun e w' => e = .returned (.bool (zSound z)) ∧ Below w.heap.size w w' := by
  obtain ⟨vn, vr, rfl, hn, hr⟩ := hz
  have RN := Aside0.mk hn
  have RR' := Aside0.mk hr
  have hmax := hr.max
  obtain ⟨An, cn, rfl, hln, _⟩ := hn
  obtain ⟨Ar, cr, rfl, hlr, _⟩ := hr
  generalize hW0 : w.alloc (.cells #[.slice An z.name.length cn, .slice Ar z.recs.length cr] 25) = W0
  have BX : Aside0 (Below w.heap.size w W0) := ⟨by rw [← hW0]; exact below_alloc (Below.refl _ _) _⟩
  have hs0 : W0.heap.size = w.heap.size + 1 := by rw [← hW0]; simp
  have z0 : Aside0 (W0.cell? ⟨w.heap.size, 0, none⟩ = some (.slice An z.name.length cn) ∧ W0.cell? ⟨w.heap.size, 1, none⟩ = some (.slice Ar z.recs.length cr)) := ⟨by rw [← hW0]; simp, by rw [← hW0]; simp⟩
  have HW0 := Aside0.mk hW0
  have HS0 := Aside0.mk hs0
  clear hW0 hs0
  cases h1 : nSound z.name with
  | false =>
    have HR : Aside0 (zSound z = false) := ⟨by unfold zSound; rw [h1]; rfl⟩
    have H1 := Aside0.mk h1
    clear h1
    go_enter Try.func39, Try.ntmps39
    go_wp2_with fail
    refine (bv (sound_calls _ z.name _ (RN.out.below pS (below_alloc (Below.refl _ _) _))) H1.out).mono ?_
    rintro e w1 ⟨rfl, hb1⟩
    have HB := Aside0.mk ((below_alloc (Below.refl w.heap.size w) _).trans (hb1.mono (by simp)))
    clear hb1
    go_wp2_with fail
    go_ret
    refine ⟨?_, HB.out⟩
    rw [HR.out]; rfl
  | true =>
    have H1 := Aside0.mk h1
    clear h1
    by_cases q1 : 1 ≤ z.recs.length
    rotate_left
    · have f1 : z.recs.length < 1 := by omega
      have HR : Aside0 (zSound z = false) := ⟨by unfold zSound; rw [decide_eq_false q1]; simp⟩
      clear q1
      go_enter Try.func39, Try.ntmps39
      go_wp2_with fail
      refine (bv (sound_calls _ z.name _ (RN.out.below pS (below_alloc (Below.refl _ _) _))) H1.out).mono ?_
      rintro e w1 ⟨rfl, hb1⟩
      have HB := Aside0.mk ((below_alloc (Below.refl w.heap.size w) _).trans (hb1.mono (by simp)))
      obtain ⟨bc, bf⟩ := bcell hb1
      clear hb1
      go_wp2_with fail
      go_ret
      refine ⟨?_, HB.out⟩
      rw [HR.out]; rfl
    by_cases q2 : z.recs.length ≤ 256
    rotate_left
    · have f1 : ¬ z.recs.length < 1 := by omega
      have f2 : 256 < z.recs.length := by omega
      have HR : Aside0 (zSound z = false) := ⟨by unfold zSound; rw [decide_eq_false q2]; simp⟩
      clear q1 q2
      go_enter Try.func39, Try.ntmps39
      go_wp2_with fail
      refine (bv (sound_calls _ z.name _ (RN.out.below pS (below_alloc (Below.refl _ _) _))) H1.out).mono ?_
      rintro e w1 ⟨rfl, hb1⟩
      have HB := Aside0.mk ((below_alloc (Below.refl w.heap.size w) _).trans (hb1.mono (by simp)))
      obtain ⟨bc, bf⟩ := bcell hb1
      clear hb1
      go_wp2_with fail
      go_ret
      refine ⟨?_, HB.out⟩
      rw [HR.out]; rfl
    have f1 : ¬ z.recs.length < 1 := by omega
    have f2 : ¬ 256 < z.recs.length := by omega
    have Q1 := Aside0.mk q1
    have Q2 := Aside0.mk q2
    clear q1 q2
    have eg : ∀ args w, (callFunc 71 args).run Try.prog w = .ok (.enter 71 args) w := enters Try.func71 (by kernel_rfl) rfl
    go_enter Try.func39, Try.ntmps39
    go_wp2_with fail
    refine (bv (sound_calls _ z.name _ (RN.out.below pS (below_alloc (Below.refl _ _) _))) H1.out).mono ?_
    rw [HW0.out]
    rintro e w1 ⟨rfl, hb1⟩
    obtain ⟨bc, bf⟩ := bcell hb1
    have y0 := (bc w.heap.size 0 (by rw [HS0.out]; omega)).trans z0.out.1
    have y1 := (bc w.heap.size 1 (by rw [HS0.out]; omega)).trans z0.out.2
    have HB1 := Aside0.mk hb1
    clear hb1 bc bf
    go_wp2_with fail
    go_loopg [3, 4, 5, 25] z.recs.length (fun gg s3 _ _ s25 wr => ∃ k : Nat, k ≤ z.recs.length ∧ z.recs.length - k ≤ gg ∧ s25 = .int .i64 k ∧ s3 = .int .i64 (soas (z.recs.take k) : Nat) ∧ Aside0 (Below W0.heap.size W0 wr) ∧ Aside0 (zall z.name [] z.recs = zall z.name (z.recs.take k) (z.recs.drop k)))
    case atStart => exact ⟨0, Nat.zero_le _, by omega, rfl, rfl, HB1, ⟨rfl⟩⟩
    case round =>
      obtain ⟨k, hk, hg, rfl, rfl, HB, HA⟩ := hrel
      clear y0 y1
      have y0 := (HB.out.cell (p := ⟨w.heap.size, 0, none⟩) (by rw [HS0.out]; simp)).trans z0.out.1
      have y1 := (HB.out.cell (p := ⟨w.heap.size, 1, none⟩) (by rw [HS0.out]; simp)).trans z0.out.2
      by_cases hlt : k < z.recs.length
      · have hbw := BX.out.trans (HB.out.mono BX.out.size)
        have hszr : w.heap.size < wr.heap.size := by have := HB.out.size; rw [HS0.out] at this; omega
        obtain ⟨Ar', cr', he, _, hrow⟩ := RR'.out.below pR hbw
        obtain ⟨rfl, rfl⟩ : Ar = Ar' ∧ cr = cr' := by injection he with h1 _ h3; exact ⟨h1, h3⟩
        obtain ⟨iR, hiR, hsR⟩ := infoR
        obtain ⟨vsl, hsl, hslR⟩ := take_run kR 23 44 Try.underlying23 hiR Ar cr z.recs (k : Int) (by omega) (by omega) hlr
        rw [Int.toNat_natCast] at hslR
        have HSL := Aside0.mk (fun w' hw' => hslR w' (fun _ => True) (by obtain ⟨A2, c2, he2, _, h2⟩ := (RR'.out.below pR hw' : kR.Rd w' (fun _ => True) (.slice Ar z.recs.length cr) z.recs); obtain ⟨rfl, rfl⟩ : Ar = A2 ∧ cr = c2 := (by injection he2 with h1 _ h3; exact ⟨h1, h3⟩); exact h2))
        clear hslR hiR hsR
        obtain ⟨ad, vv, c4, c5, c6, c7, c8, rfl, hK, e0, e1, e2, e3, e4, e5, e6, e7, e8⟩ := cell_r hrow k hlt
        have HLT := Aside0.mk hlt
        have HA2 := Aside0.mk (zall_step z.name z.recs k hlt)
        have HC2 : Aside0 (soas (z.recs.take (k + 1)) = soas (z.recs.take k) + if z.recs[k].typ = 6 then 1 else 0) := ⟨by rw [List.take_succ_eq_append_getElem hlt, soas_snoc]⟩
        have hcl : soas (z.recs.take k) ≤ 256 := by have := soas_le (z.recs.take k); rw [List.length_take] at this; have := Q2.out; omega
        generalize soas (z.recs.take k) = S at hcl HC2
        generalize hy : z.recs[k] = r at hK e1 e2 e3 HA2 HC2
        have HY := Aside0.mk hy
        obtain ⟨A0, k0, A4, k4, A5, k5, A6, k6, A7, k7, A8, k8, rfl, rfl, rfl, rfl, rfl, rfl⟩ := kR_form hK
        have HK := Aside0.mk hK
        clear hy hK hrow he
        have HX : Aside0 (∀ j u, ([.slice A0 r.name.length k0, .int .i64 r.typ, .int .i64 r.cls, .int .i64 r.ttl, .slice A4 r.data.bytes.length k4, .slice A5 r.data.host.length k5, .slice A6 r.data.mail.length k6, .slice A7 r.data.nums.length k7, .slice A8 r.data.texts.length k8] : List Value)[j]? = some u → (wr.alloc (.cells #[.slice A0 r.name.length k0, .int .i64 r.typ, .int .i64 r.cls, .int .i64 r.ttl, .slice A4 r.data.bytes.length k4, .slice A5 r.data.host.length k5, .slice A6 r.data.mail.length k6, .slice A7 r.data.nums.length k7, .slice A8 r.data.texts.length k8] 44)).cell? ⟨wr.heap.size, j, none⟩ = some u) := ⟨fun j u hu => by
          have := cell_of_row (wr.alloc (.cells #[.slice A0 r.name.length k0, .int .i64 r.typ, .int .i64 r.cls, .int .i64 r.ttl, .slice A4 r.data.bytes.length k4, .slice A5 r.data.host.length k5, .slice A6 r.data.mail.length k6, .slice A7 r.data.nums.length k7, .slice A8 r.data.texts.length k8] 44)) wr.heap.size j _ _ _ (heap_alloc_new wr _)
          rw [this]; simpa using hu⟩
        go_wp2_with fail
        generalize hW1 : wr.alloc (.cells #[.slice A0 r.name.length k0, .int .i64 r.typ, .int .i64 r.cls, .int .i64 r.ttl, .slice A4 r.data.bytes.length k4, .slice A5 r.data.host.length k5, .slice A6 r.data.mail.length k6, .slice A7 r.data.nums.length k7, .slice A8 r.data.texts.length k8] 44) = W1 at HX
        have hs1 : W1.heap.size = wr.heap.size + 1 := by rw [← hW1]; simp
        have BWr : Below wr.heap.size wr W1 := by rw [← hW1]; exact below_alloc (Below.refl _ _) _
        have BW : Aside0 (Below w.heap.size w W1) := ⟨hbw.trans (BWr.mono hbw.size)⟩
        have BWr := Aside0.mk BWr
        have x0 := HX.out 0 _ rfl
        have x1 := HX.out 1 _ rfl
        have x2 := HX.out 2 _ rfl
        have x3 := HX.out 3 _ rfl
        have y0' := (BWr.out.cell (p := ⟨w.heap.size, 0, none⟩) hszr).trans y0
        have y1' := (BWr.out.cell (p := ⟨w.heap.size, 1, none⟩) hszr).trans y1
        have hl1 : w.heap.size < W1.heap.size := by omega
        have hl2 : wr.heap.size < W1.heap.size := by omega
        have HS1 := Aside0.mk hs1
        clear hW1 hs1 e0 e1 e2 e3 e4 e5 e6 e7 e8 y0 y1 hbw
        cases p1 : rrSound r with
        | false =>
          have P1 := Aside0.mk p1
          clear p1
          refine (bv (rrsound_calls r _ _ (K_below HK.out BWr.out)) P1.out).mono ?_
          rintro e w1 ⟨rfl, hb1⟩
          have HB1 := Aside0.mk (hb1)
          clear hb1
          obtain ⟨bc, bf⟩ := bcell HB1.out
          have HR : Aside0 (zSound z = false) := ⟨zSound_no k HLT.out HA.out (by rw [HY.out]; unfold zrec; rw [P1.out]; rfl)⟩
          go_wp2_with fail
          go_ret
          refine ⟨?_, BW.out.trans (HB1.out.mono (by have := BW.out.size; omega))⟩
          rw [HR.out]; rfl
        | true =>
          have P1 := Aside0.mk p1
          clear p1
          refine (bv (rrsound_calls r _ _ (K_below HK.out BWr.out)) P1.out).mono ?_
          rintro e w1 ⟨rfl, hb1⟩
          have HB1 := Aside0.mk (hb1)
          clear hb1
          obtain ⟨bc, bf⟩ := bcell HB1.out
          by_cases p2 : r.cls = 1
          rotate_left
          · have f3 : (r.cls != 1) = true := bne_iff_ne.mpr p2
            have P2 := Aside0.mk p2
            clear p2
            have HR : Aside0 (zSound z = false) := ⟨zSound_no k HLT.out HA.out (by rw [HY.out]; unfold zrec; rw [decide_eq_false P2.out]; simp)⟩
            go_wp2_with fail
            go_ret
            refine ⟨?_, BW.out.trans (HB1.out.mono (by have := BW.out.size; omega))⟩
            rw [HR.out]; rfl
          have f3 : (r.cls != 1) = false := bne_eq_false_iff_eq.mpr p2
          have P2 := Aside0.mk p2
          clear p2
          go_wp2_with fail
          cases p3 : nUnder r.name z.name with
          | false =>
            have P3 := Aside0.mk p3
            clear p3
            have hKn := HK.out
            obtain ⟨v0, cd0, hcs, hv0, _⟩ := hKn
            obtain rfl : Value.slice A0 r.name.length k0 = v0 := by injection hcs
            have HV := Aside0.mk hv0
            clear hcs hv0
            refine (bv (under_calls _ _ r.name z.name _ (HV.out.below pS (BWr.out.trans (HB1.out.mono BWr.out.size))) (RN.out.below pS (BW.out.trans (HB1.out.mono BW.out.size)))) P3.out).mono ?_
            rintro e w2 ⟨rfl, hb2⟩
            have HB2 := Aside0.mk (HB1.out.trans (hb2.mono HB1.out.size))
            clear hb2 bc bf
            obtain ⟨bc, bf⟩ := bcell HB2.out
            have HR : Aside0 (zSound z = false) := ⟨zSound_no k HLT.out HA.out (by rw [HY.out]; unfold zrec; rw [P3.out]; simp)⟩
            go_wp2_with fail
            go_ret
            refine ⟨?_, BW.out.trans (HB2.out.mono (by have := BW.out.size; omega))⟩
            rw [HR.out]; rfl
          | true =>
            have P3 := Aside0.mk p3
            clear p3
            have hKn := HK.out
            obtain ⟨v0, cd0, hcs, hv0, _⟩ := hKn
            obtain rfl : Value.slice A0 r.name.length k0 = v0 := by injection hcs
            have HV := Aside0.mk hv0
            clear hcs hv0
            refine (bv (under_calls _ _ r.name z.name _ (HV.out.below pS (BWr.out.trans (HB1.out.mono BWr.out.size))) (RN.out.below pS (BW.out.trans (HB1.out.mono BW.out.size)))) P3.out).mono ?_
            rintro e w2 ⟨rfl, hb2⟩
            have HB2 := Aside0.mk (HB1.out.trans (hb2.mono HB1.out.size))
            clear hb2 bc bf
            obtain ⟨bc, bf⟩ := bcell HB2.out
            by_cases p4 : r.typ = 41
            · have f4 : (r.typ == 41) = true := beq_iff_eq.mpr p4
              have P4 := Aside0.mk p4
              clear p4
              have HR : Aside0 (zSound z = false) := ⟨zSound_no k HLT.out HA.out (by rw [HY.out]; unfold zrec; rw [decide_eq_true P4.out]; simp)⟩
              go_wp2_with fail
              go_ret
              refine ⟨?_, BW.out.trans (HB2.out.mono (by have := BW.out.size; omega))⟩
              rw [HR.out]; rfl
            have f4 : (r.typ == 41) = false := beq_eq_false_iff_ne.mpr p4
            have P4 := Aside0.mk p4
            clear p4
            by_cases p5 : r.typ = 255
            · have f5 : (r.typ == 255) = true := beq_iff_eq.mpr p5
              have P5 := Aside0.mk p5
              clear p5
              have HR : Aside0 (zSound z = false) := ⟨zSound_no k HLT.out HA.out (by rw [HY.out]; unfold zrec; rw [decide_eq_true P5.out]; simp)⟩
              go_wp2_with fail
              go_ret
              refine ⟨?_, BW.out.trans (HB2.out.mono (by have := BW.out.size; omega))⟩
              rw [HR.out]; rfl
            have f5 : (r.typ == 255) = false := beq_eq_false_iff_ne.mpr p5
            have P5 := Aside0.mk p5
            clear p5
            go_wp2_with fail
            have hpay := pays_clash r wr.heap.size _ _ _ _ _ _ w2 (z.recs.take k) (K_below HK.out (BWr.out.trans (HB2.out.mono BWr.out.size))) (Nat.lt_of_lt_of_le hl2 HB2.out.size) (fun j u hu => (HB2.out.cell (p := ⟨wr.heap.size, j, none⟩) hl2).trans (HX.out j u hu))
            have HP := Aside0.mk hpay
            clear hpay
            cases p6 : (z.recs.take k).any (fun o => clash o r) with
            | true =>
              have P6 := Aside0.mk p6
              clear p6
              refine (contains_r_v true _ _ _ (HSL.out _ (BW.out.trans (HB2.out.mono BW.out.size))) _ _ _ eg HP.out P6.out).mono ?_
              rintro e w3 ⟨rfl, hb3⟩
              have HB3 := Aside0.mk (HB2.out.trans (hb3.mono HB2.out.size))
              clear hb3 bc bf
              obtain ⟨bc, bf⟩ := bcell HB3.out
              have HR : Aside0 (zSound z = false) := ⟨zSound_no k HLT.out HA.out (by rw [HY.out]; unfold zrec; rw [P6.out]; simp)⟩
              go_wp2_with fail
              go_ret
              refine ⟨?_, BW.out.trans (HB3.out.mono (by have := BW.out.size; omega))⟩
              rw [HR.out]; rfl
            | false =>
              have P6 := Aside0.mk p6
              clear p6
              refine (contains_r_v false _ _ _ (HSL.out _ (BW.out.trans (HB2.out.mono BW.out.size))) _ _ _ eg HP.out P6.out).mono ?_
              rintro e w3 ⟨rfl, hb3⟩
              have HB3 := Aside0.mk (HB2.out.trans (hb3.mono HB2.out.size))
              clear hb3 bc bf
              obtain ⟨bc, bf⟩ := bcell HB3.out
              have BR3 : Aside0 (Below W0.heap.size W0 w3) := ⟨(HB.out.trans (BWr.out.mono HB.out.size)).trans (HB3.out.mono (HB.out.trans (BWr.out.mono HB.out.size)).size)⟩
              by_cases p7 : r.typ = 6
              · have f7 : (r.typ == 6) = true := beq_iff_eq.mpr p7
                have P7 := Aside0.mk p7
                clear p7
                by_cases p8 : r.name.length = z.name.length
                · have f8 : ((r.name.length : Int) != (z.name.length : Int)) = false := bne_eq_false_iff_eq.mpr (by omega)
                  have P8 := Aside0.mk p8
                  clear p8
                  go_wp2_with fail
                  go_roundg (z.recs.length - (k + 1))
                  case measure => have := HLT.out; omega
                  case rel =>
                    refine ⟨k + 1, by have := HLT.out; omega, by omega, by go_num, by rw [HC2.out, if_pos P7.out]; go_num, BR3, ⟨?_⟩⟩
                    rw [HA.out, HA2.out]
                    unfold zrec
                    rw [P1.out, decide_eq_true P2.out, P3.out, decide_eq_false P4.out, decide_eq_false P5.out, P6.out, decide_eq_true P7.out, decide_eq_true P8.out]; rfl
                · have f8 : ((r.name.length : Int) != (z.name.length : Int)) = true := bne_iff_ne.mpr (by omega)
                  have P8 := Aside0.mk p8
                  clear p8
                  have HR : Aside0 (zSound z = false) := ⟨zSound_no k HLT.out HA.out (by rw [HY.out]; unfold zrec; rw [decide_eq_true P7.out, decide_eq_false P8.out]; simp)⟩
                  go_wp2_with fail
                  go_ret
                  refine ⟨?_, BW.out.trans (HB3.out.mono (by have := BW.out.size; omega))⟩
                  rw [HR.out]; rfl
              · have f7 : (r.typ == 6) = false := beq_eq_false_iff_ne.mpr p7
                have P7 := Aside0.mk p7
                clear p7
                go_wp2_with fail
                go_roundg (z.recs.length - (k + 1))
                case measure => have := HLT.out; omega
                case rel =>
                  refine ⟨k + 1, by have := HLT.out; omega, by omega, by go_num, by rw [HC2.out, if_neg P7.out]; rfl, BR3, ⟨?_⟩⟩
                  rw [HA.out, HA2.out]
                  unfold zrec
                  rw [P1.out, decide_eq_true P2.out, P3.out, decide_eq_false P4.out, decide_eq_false P5.out, P6.out, decide_eq_false P7.out]; rfl
      · have hka : k = z.recs.length := by omega
        have HK := Aside0.mk hka
        clear hka
        go_wp2
        go_ret
        refine ⟨?_, BX.out.trans (HB.out.mono BX.out.size)⟩
        have h1 := HA.out
        rw [HK.out, List.take_length, List.drop_length] at h1
        have h2 : zSound z = (((soas (z.recs.take k) : Nat) : Int) == 1) := by
          unfold zSound
          rw [H1.out, decide_eq_true Q1.out, decide_eq_true Q2.out, h1, HK.out, List.take_length]
          simp only [zall, Bool.true_and]
          rw [Bool.eq_iff_iff, decide_eq_true_eq, beq_iff_eq]; omega
        rw [h2]; rfl
end Go.Proofs.Ytkbjbkmaokebgaa.Gz

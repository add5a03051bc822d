import Derived.Test.YtkbjbkmaokebgaaFo
import Derived.Test.YtkbjbkmaokebgaaOwnM
set_option linter.unusedVariables false
set_option linter.unusedSimpArgs false
namespace Go.Proofs.Ytkbjbkmaokebgaa.Gz
open Go.RowKit Go.Proofs.YtkbjbkmaokebgaaW.PrintWords
open Ki
def fact0 : Fact := ⟨[], 1, 1, 1, 0, 0, [⟨[1, 2, 3, 4], [], [], [], []⟩], [], ⟨[], [], [], [], []⟩⟩
theorem fact0_sound : fSound fact0 = true := by decide +kernel
theorem r8_of (x : Int) (h : 0 ≤ x ∧ x ≤ 255) : R8 x := h
theorem bytes4 (w : World) : kU.Rd (w.alloc (.cells #[.int .u8 1, .int .u8 2, .int .u8 3, .int .u8 4] 5)) (fun _ => True) (.slice (some ⟨w.heap.size, 0, none⟩) 4 4) [1, 2, 3, 4] := by
  have k : ∀ x : Int, 0 ≤ x ∧ x ≤ 255 → kU.K w (fun _ => True) x [.int .u8 x] := fun x h => ⟨rfl, h⟩
  have g0 := Reps.none (kU.K w (fun _ => True)) kU.sz
  have g1 := g0.snoc (k 1 (by omega)) (kU.len (k 1 (by omega)))
  have g2 := g1.snoc (k 2 (by omega)) (kU.len (k 2 (by omega)))
  have g3 := g2.snoc (k 3 (by omega)) (kU.len (k 3 (by omega)))
  have h0 := g3.snoc (k 4 (by omega)) (kU.len (k 4 (by omega)))
  have h1 := Own.lit (d := kU) (e := 5) (base := w.heap.size) (ok := fun _ => True) (xs := [1, 2, 3, 4]) (inner := [.int .u8 1, .int .u8 2, .int .u8 3, .int .u8 4]) w (by simpa using h0) (Nat.le_refl _) (by simp) (by decide)
  exact h1.rd (fun _ _ => trivial) (fun _ _ => trivial)
set_option maxHeartbeats 4000000 in
set_option maxRecDepth 100000 in
theorem answers13_calls (w : World) : Calls Try.prog 28 #[] w fun e w' => e = .returned (.bool true) ∧ Below w.heap.size w w' := by
  go_enter Try.func28, Try.ntmps28
  go_wp2_with fail
  generalize hW1 : w.alloc (.cells #[.int .u8 1, .int .u8 2, .int .u8 3, .int .u8 4] 5) = W1
  have B1 : Below w.heap.size w W1 := by rw [← hW1]; exact below_alloc (Below.refl _ _) _
  have hd : kD.K W1 (fun _ => True) ⟨[1, 2, 3, 4], [], [], [], []⟩ [.slice (some ⟨w.heap.size, 0, none⟩) 4 4, .slice none 0 0, .slice none 0 0, .slice none 0 0, .slice none 0 0] := ⟨_, _, _, _, _, rfl, by rw [← hW1]; exact bytes4 w, Rd.nil _ _ _, Rd.nil _ _ _, Rd.nil _ _ _, Rd.nil _ _ _⟩
  have hs := rd_box (d := kD) (e := 42) (p := ⟨[1, 2, 3, 4], [], [], [], []⟩) hd (by decide) (fun _ _ => trivial)
  have hsz : W1.heap.size = w.heap.size + 1 := by rw [← hW1]; simp
  rw [hsz] at hs
  have B2 : Aside0 (Below w.heap.size w (W1.alloc (.cells #[.slice (some ⟨w.heap.size, 0, none⟩) 4 4, .slice none 0 0, .slice none 0 0, .slice none 0 0, .slice none 0 0] 42))) := ⟨below_alloc B1 _⟩
  have hf : kF.K (W1.alloc (.cells #[.slice (some ⟨w.heap.size, 0, none⟩) 4 4, .slice none 0 0, .slice none 0 0, .slice none 0 0, .slice none 0 0] 42)) (fun _ => True) fact0 [.slice none 0 0, .int .i64 1, .int .i64 1, .int .i64 1, .int .i64 0, .int .i64 0, .slice (some ⟨w.heap.size + 1, 0, none⟩) 1 1, .slice none 0 0, .slice none 0 0, .slice none 0 0, .slice none 0 0, .slice none 0 0, .slice none 0 0] :=
    ⟨_, _, _, _, rfl, Rd.nil _ _ _, by show R64 1; unfold R64; omega, by show R64 1; unfold R64; omega, by show R64 1; unfold R64; omega, by show R64 0; unfold R64; omega, by show R64 0; unfold R64; omega, hs, Rd.nil _ _ _, ⟨_, _, _, _, _, rfl, Rd.nil _ _ _, Rd.nil _ _ _, Rd.nil _ _ _, Rd.nil _ _ _, Rd.nil _ _ _⟩⟩
  refine (bv (fsound_calls fact0 _ _ hf) fact0_sound).mono ?_
  rintro e w2 ⟨rfl, hb2⟩
  have BF : Aside0 (Below w.heap.size w w2) := ⟨B2.out.trans (hb2.mono B2.out.size)⟩
  clear hb2 hf hs hd hsz hW1 B1
  go_wp2_with fail
  go_ret
  exact ⟨rfl, BF.out⟩
/-- Some Boolean. -/
def SomeBool (w : World) (e : Ending) (w' : World) : Prop := ∃ b, e = .returned (.bool b) ∧ Below w.heap.size w w'
set_option maxHeartbeats 16000000 in
set_option maxRecDepth 100000 in
theorem lightmsg_calls (m : Msg) (cm : List Value) (w : World) (hm : kM.K w (fun _ => True) m cm) (hB : (m.ans.length + m.auth.length + m.extra.length) * kR.bytes ≤ B47) :
    Calls Try.prog 29 #[.agg cm.toArray] w (SomeBool w) := by
  obtain ⟨A8, k8, A9, k9, A10, k10, A11, k11, rfl, r8, r9, r10, r11⟩ := kM_form hm
  have hq8 := qs_small r8
  generalize hW0 : w.alloc (.cells #[.int .i64 m.id, .bool m.resp, .int .i64 m.opc, .bool m.aa, .bool m.tc, .bool m.rd, .bool m.ra, .int .i64 m.rcode, .slice A8 m.qs.length k8, .slice A9 m.ans.length k9, .slice A10 m.auth.length k10, .slice A11 m.extra.length k11, .bool m.edns, .int .i64 m.size] 35) = W
  have HW0 := Aside0.mk hW0
  have BX : Aside0 (Below w.heap.size w W) := ⟨by rw [← hW0]; exact below_alloc (Below.refl _ _) _⟩
  have hMl : w.heap.size < W.heap.size := by rw [← hW0]; simp
  have m8 : W.cell? ⟨w.heap.size, 8, none⟩ = some (.slice A8 m.qs.length k8) := by rw [← hW0, cellN rfl]; rfl
  have m9 : W.cell? ⟨w.heap.size, 9, none⟩ = some (.slice A9 m.ans.length k9) := by rw [← hW0, cellN rfl]; rfl
  have m10 : W.cell? ⟨w.heap.size, 10, none⟩ = some (.slice A10 m.auth.length k10) := by rw [← hW0, cellN rfl]; rfl
  have m11 : W.cell? ⟨w.heap.size, 11, none⟩ = some (.slice A11 m.extra.length k11) := by rw [← hW0, cellN rfl]; rfl
  have M8 := Aside0.mk m8
  have HA := Aside0.mk (r9.below pR BX.out)
  have HBb := Aside0.mk (r10.below pR BX.out)
  have HXx := Aside0.mk (r11.below pR BX.out)
  clear hm r8 r9 r10 r11 hW0
  have HA1 : Aside0 (∀ W1, Below W.heap.size W W1 → kR.Rd W1 (fun k => k < W.heap.size) (.slice A9 m.ans.length k9) m.ans) := ⟨fun W1 h => ((HA.out.low pR).mono (fun _ h => h.2)).below pR h⟩
  have HB1' : Aside0 (∀ W1, Below W.heap.size W W1 → kR.Rd W1 (fun k => k < W.heap.size) (.slice A10 m.auth.length k10) m.auth) := ⟨fun W1 h => ((HBb.out.low pR).mono (fun _ h => h.2)).below pR h⟩
  have HX1 : Aside0 (∀ W1, Below W.heap.size W W1 → kR.Rd W1 (fun k => k < W.heap.size) (.slice A11 m.extra.length k11) m.extra) := ⟨fun W1 h => ((HXx.out.low pR).mono (fun _ h => h.2)).below pR h⟩
  have OL : Aside0 (kR.Own 44 (W.alloc (.cells #[] 44)).drew W.heap.size (fun k => k < W.heap.size) (.slice (some ⟨W.heap.size, 0, none⟩) 0 0) []) := ⟨Own.lit0 kR 44 W.drew W.heap.size (fun k => k < W.heap.size) (Nat.le_refl _)⟩
  have BD1 : Aside0 (Below W.heap.size W (W.alloc (.cells #[] 44)).drew) := ⟨(below_alloc (Below.refl _ _) _).drew⟩
  have hle : m.ans.length * kR.bytes ≤ B47 := Nat.le_trans (Nat.mul_le_mul_right _ (by omega)) hB
  have hle2 : (m.ans.length + m.auth.length) * kR.bytes ≤ B47 := Nat.le_trans (Nat.mul_le_mul_right _ (by omega)) hB
  have L1 := Aside0.mk hle
  have L2 := Aside0.mk hle2
  have L3 : Aside0 (∀ mid, mid = m.ans ++ m.auth → (mid.length + m.extra.length) * kR.bytes ≤ B47) := ⟨fun mid h => by rw [h, List.length_append]; exact hB⟩
  have LB := Aside0.mk hB
  clear hle hle2 hB
  have hst : Below W.heap.size W W.drew ∧ W.drew.cell? ⟨w.heap.size, 9, none⟩ = some (.slice A9 m.ans.length k9) ∧ W.drew.cell? ⟨w.heap.size, 10, none⟩ = some (.slice A10 m.auth.length k10) ∧ W.drew.cell? ⟨w.heap.size, 11, none⟩ = some (.slice A11 m.extra.length k11) := ⟨(Below.refl _ _).drew, m9, m10, m11⟩
  have HST2 : Aside0 (Below W.heap.size W (W.alloc (.cells #[] 44)).drew ∧ (W.alloc (.cells #[] 44)).drew.cell? ⟨w.heap.size, 9, none⟩ = some (.slice A9 m.ans.length k9) ∧ (W.alloc (.cells #[] 44)).drew.cell? ⟨w.heap.size, 10, none⟩ = some (.slice A10 m.auth.length k10) ∧ (W.alloc (.cells #[] 44)).drew.cell? ⟨w.heap.size, 11, none⟩ = some (.slice A11 m.extra.length k11)) := ⟨BD1.out, (BD1.out.cell (p := ⟨w.heap.size, 9, none⟩) hMl).trans m9, (BD1.out.cell (p := ⟨w.heap.size, 10, none⟩) hMl).trans m10, (BD1.out.cell (p := ⟨w.heap.size, 11, none⟩) hMl).trans m11⟩
  clear m8
  go_enter Try.func29, Try.ntmps29
  go_upto_region 1 with (fail)
  rw [HW0.out]
  go_region_held3 (fun w' => Below W.heap.size W w' ∧ w'.cell? ⟨w.heap.size, 9, none⟩ = some (.slice A9 m.ans.length k9) ∧ w'.cell? ⟨w.heap.size, 10, none⟩ = some (.slice A10 m.auth.length k10) ∧ w'.cell? ⟨w.heap.size, 11, none⟩ = some (.slice A11 m.extra.length k11))
    (first | (with_reducible exact HST2.out) | (with_reducible exact keepM hb1 (by assumption)) | (with_reducible exact keepG hg3 (fun k hk => (ho2.lt k hk).1) hMl hMl hMl (by assumption)) | (with_reducible exact keepG hg2 (fun k hk => (ho1.lt k hk).1) hMl hMl hMl (by assumption)) | go_keep)
    ((first
      | (refine step_append_zero kR W.heap.size ?_ (.tmp 6) (.tmp 8) 23 44 (.agg #[.slice none 0 0, .int .i64 0, .int .i64 0, .int .i64 0, .slice none 0 0, .slice none 0 0, .slice none 0 0, .slice none 0 0, .slice none 0 0]) ?_ ?_ ?_ ?_ ?_ ?_ (some ⟨W.heap.size, 0, none⟩) (.slice A9 m.ans.length k9) m.ans (fun k => k < W.heap.size) ?_ ?_ ?_ ?_ ?_ ?_ ?_; rfl; rfl; exact Try.underlying23; exact infoR0; rfl; decide; decide; rfl; rfl; exact OL.out; exact HA1.out _ BD1.out; exact BD1.out.size; exact L1.out; intro v1 w1 ho1 hb1; obtain ⟨A1, k1, rfl, _⟩ := ho1.slice_)
      | (refine step_append_own kR W.heap.size ?_ (.tmp 9) (.tmp 11) 23 44 (.agg #[.slice none 0 0, .int .i64 0, .int .i64 0, .int .i64 0, .slice none 0 0, .slice none 0 0, .slice none 0 0, .slice none 0 0, .slice none 0 0]) ?_ ?_ ?_ ?_ ?_ ?_ (.slice A1 m.ans.length k1) (.slice A10 m.auth.length k10) m.ans m.auth (fun k => k < W.heap.size) ?_ ?_ ?_ ?_ ?_ ?_ ?_; rfl; rfl; exact Try.underlying23; exact infoR0; rfl; decide; decide; rfl; rfl; exact ho1; exact rd_apart (HB1'.out _ (And.left (by assumption))) ho1; exact (And.left (by assumption) : Below W.heap.size W w1).size; exact L2.out; intro v2 w2 ho2 hg2 _; generalize hMid : m.ans ++ m.auth = mid at ho2; obtain ⟨A2, k2, rfl, _⟩ := ho2.slice_)
      | (refine step_append_own kR W.heap.size ?_ (.tmp 12) (.tmp 14) 23 44 (.agg #[.slice none 0 0, .int .i64 0, .int .i64 0, .int .i64 0, .slice none 0 0, .slice none 0 0, .slice none 0 0, .slice none 0 0, .slice none 0 0]) ?_ ?_ ?_ ?_ ?_ ?_ (.slice A2 mid.length k2) (.slice A11 m.extra.length k11) mid m.extra (fun k => k < W.heap.size) ?_ ?_ ?_ ?_ ?_ ?_ ?_; rfl; rfl; exact Try.underlying23; exact infoR0; rfl; decide; decide; rfl; rfl; exact ho2; exact rd_apart (HX1.out _ (And.left (by assumption))) ho2; exact (And.left (by assumption) : Below W.heap.size W w2).size; exact L3.out mid hMid.symm; intro v3 w3 ho3 hg3 _; generalize hAll : mid ++ m.extra = all at ho3; obtain ⟨A3, k3, rfl, _⟩ := ho3.slice_)))
  have hs3 : Below W.heap.size W w3 ∧ w3.cell? ⟨w.heap.size, 9, none⟩ = some (.slice A9 m.ans.length k9) ∧ w3.cell? ⟨w.heap.size, 10, none⟩ = some (.slice A10 m.auth.length k10) ∧ w3.cell? ⟨w.heap.size, 11, none⟩ = some (.slice A11 m.extra.length k11) := by assumption
  have B3 := Aside0.mk hs3.1
  have N8 := Aside0.mk ((B3.out.cell (p := ⟨w.heap.size, 8, none⟩) hMl).trans M8.out)
  have hax : all.length ≤ 1000000000000 := by
    have h1 := LB.out
    have e : kR.bytes = 168 := rfl
    rw [e] at h1
    unfold B47 at h1
    rw [← hAll, ← hMid, List.length_append, List.length_append]
    omega
  have AL : Aside0 (kR.Rd w3 (fun _ => True) (.slice A3 all.length k3) all) := ⟨(ho3.rd (ok' := fun _ => True) (fun _ _ => trivial) (fun _ _ => trivial))⟩
  have BW3 : Aside0 (Below w.heap.size w w3) := ⟨BX.out.trans (B3.out.mono BX.out.size)⟩
  have hM3 : w.heap.size < w3.heap.size := Nat.lt_of_lt_of_le hMl B3.out.size
  clear hs3 ho1 ho2 ho3 hb1 hg2 hg3 hst m9 m10 m11 hAll hMid
  go_wp2_with fail
  go_loopg [4, 5] all.length (fun gg s4 _ wr => ∃ k : Nat, k ≤ all.length ∧ all.length - k ≤ gg ∧ s4 = .int .i64 k ∧ Aside0 (Below w3.heap.size w3 wr))
  case atStart => exact ⟨0, Nat.zero_le _, by omega, rfl, ⟨Below.refl _ _⟩⟩
  case round =>
    obtain ⟨k, hk, hg, rfl, HB⟩ := hrel
    have BWR : Aside0 (Below w.heap.size w wr) := ⟨BW3.out.trans (HB.out.mono BW3.out.size)⟩
    by_cases hlt : k < all.length
    · have HLT := Aside0.mk hlt
      have k0' : (0 : Int) ≤ (k : Int) := by omega
      have k1' : (k : Int) < (all.length : Int) := by omega
      obtain ⟨A2, c2, he2, _, hrow2⟩ := AL.out.below pR HB.out
      obtain ⟨rfl, rfl⟩ : A3 = A2 ∧ k3 = c2 := by injection he2 with h1 _ h3; exact ⟨h1, h3⟩
      obtain ⟨ad, vv, c4, c5, c6, c7, c8, rfl, hK, e0, e1, e2, e3, e4, e5, e6, e7, e8⟩ := cell_r hrow2 k hlt
      generalize all[k] = r at hK e1 e2 e3
      obtain ⟨A0, k0, A4, k4, A5, k5, A6, k6, A7, k7, A8r, k8r, rfl, rfl, rfl, rfl, rfl, rfl⟩ := kR_form hK
      clear hK hrow2 he2 e1 e2 e3
      have hblk : (ad.add (k * 9)).block < wr.heap.size := World.block_lt_of_cell? wr _ e0
      go_upto_region 6 with (fail)
      generalize hW1 : wr.alloc (.cells #[.slice A4 r.data.bytes.length k4, .slice A5 r.data.host.length k5, .slice A6 r.data.mail.length k6, .slice A7 r.data.nums.length k7, .slice A8r r.data.texts.length k8r] 42) = W1
      have B1 : Aside0 (Below wr.heap.size wr W1) := ⟨by rw [← hW1]; exact below_alloc (Below.refl _ _) _⟩
      have x0 : W1.cell? ⟨wr.heap.size, 0, none⟩ = some (.slice A4 r.data.bytes.length k4) := by rw [← hW1, cellN rfl]; rfl
      have x1 : W1.cell? ⟨wr.heap.size, 1, none⟩ = some (.slice A5 r.data.host.length k5) := by rw [← hW1, cellN rfl]; rfl
      have x2 : W1.cell? ⟨wr.heap.size, 2, none⟩ = some (.slice A6 r.data.mail.length k6) := by rw [← hW1, cellN rfl]; rfl
      have x3 : W1.cell? ⟨wr.heap.size, 3, none⟩ = some (.slice A7 r.data.nums.length k7) := by rw [← hW1, cellN rfl]; rfl
      have x4 : W1.cell? ⟨wr.heap.size, 4, none⟩ = some (.slice A8r r.data.texts.length k8r) := by rw [← hW1, cellN rfl]; rfl
      have n0 := (B1.out.cell (p := ad.add (k * 9)) hblk).trans e0
      have BF : Aside0 (Below w.heap.size w W1) := ⟨BWR.out.trans (B1.out.mono BWR.out.size)⟩
      clear hW1 e0 e4 e5 e6 e7 e8
      by_cases b0 : 200 < r.name.length
      · go_wp2_with fail
        go_ret
        exact ⟨_, rfl, BF.out⟩
      by_cases b1 : 3000 < r.data.bytes.length
      · go_wp2_with fail
        go_ret
        exact ⟨_, rfl, BF.out⟩
      by_cases b2 : 200 < r.data.host.length
      · go_wp2_with fail
        go_ret
        exact ⟨_, rfl, BF.out⟩
      by_cases b3 : 200 < r.data.mail.length
      · go_wp2_with fail
        go_ret
        exact ⟨_, rfl, BF.out⟩
      by_cases b4 : 100 < r.data.texts.length
      · go_wp2_with fail
        go_ret
        exact ⟨_, rfl, BF.out⟩
      by_cases b5 : 100 < r.data.nums.length
      · go_wp2_with fail
        go_ret
        exact ⟨_, rfl, BF.out⟩
      go_wp2_with fail
      go_roundg (all.length - (k + 1))
      case measure => have := HLT.out; omega
      case rel => exact ⟨k + 1, by have := HLT.out; omega, by omega, by go_num, ⟨HB.out.trans (B1.out.mono HB.out.size)⟩⟩
    · have hka : ¬ k < all.length := hlt
      have n8 := (HB.out.cell (p := ⟨w.heap.size, 8, none⟩) hM3).trans N8.out
      by_cases g1 : all.length ≤ 150
      · have hg1 : (all.length : Int) ≤ 150 := by omega
        go_wp2_with fail
        go_ret
        exact ⟨_, rfl, BWR.out⟩
      · have hg1 : ¬ (all.length : Int) ≤ 150 := by omega
        go_wp2_with fail
        go_ret
        exact ⟨_, rfl, BWR.out⟩
set_option maxHeartbeats 16000000 in
set_option maxRecDepth 100000 in
theorem from_none (q : Qn) (cqs : List Value) (m : Msg) (cm : List Value) (vz : Value) (zn : List ByteArray) (now : Int) (w : World) (hq : kQ.K w (fun _ => True) q cqs) (hm : kM.K w (fun _ => True) m cm) (hz : kS.Rd w (fun _ => True) vz zn) (hn : ¬ AskOk q m) :
    Calls Try.prog 30 #[.agg cqs.toArray, .agg cm.toArray, vz, .int .i64 now] w fun e w' => e = .returned (.slice none 0 0) ∧ Below w.heap.size w w' := by
  obtain ⟨A8, k8, A9, k9, A10, k10, A11, k11, rfl, r8, _⟩ := kM_form hm
  have HM := Aside0.mk hm
  obtain ⟨vq, rfl, hqn, _, _⟩ := hq
  have HQN := Aside0.mk hqn
  have HZ := Aside0.mk hz
  have HN := Aside0.mk hn
  obtain ⟨Aq, cq, rfl, _, _⟩ := hqn
  obtain ⟨Az, cz, rfl, _, _⟩ := hz
  clear hm r8 hn
  generalize hW0 : (w.alloc (.cells #[.slice Aq q.name.length cq, .int .i64 q.typ, .int .i64 q.cls] 27)).alloc (.cells #[.int .i64 m.id, .bool m.resp, .int .i64 m.opc, .bool m.aa, .bool m.tc, .bool m.rd, .bool m.ra, .int .i64 m.rcode, .slice A8 m.qs.length k8, .slice A9 m.ans.length k9, .slice A10 m.auth.length k10, .slice A11 m.extra.length k11, .bool m.edns, .int .i64 m.size] 35) = W0
  have HW0 := Aside0.mk hW0
  have BX : Aside0 (Below w.heap.size w W0) := ⟨by rw [← hW0]; exact below_alloc (below_alloc (Below.refl _ _) _) _⟩
  have hs0 : W0.heap.size = w.heap.size + 2 := by rw [← hW0]; simp
  have q0 : W0.cell? ⟨w.heap.size, 0, none⟩ = some (.slice Aq q.name.length cq) := by rw [← hW0, cellA (by simp), cellN rfl]; rfl
  have q1 : W0.cell? ⟨w.heap.size, 1, none⟩ = some (.int .i64 q.typ) := by rw [← hW0, cellA (by simp), cellN rfl]; rfl
  have q2 : W0.cell? ⟨w.heap.size, 2, none⟩ = some (.int .i64 q.cls) := by rw [← hW0, cellA (by simp), cellN rfl]; rfl
  have u0 : W0.cell? ⟨w.heap.size + 1, 0, none⟩ = some (.int .i64 m.id) := by rw [← hW0, cellN (by simp)]; rfl
  have u1 : W0.cell? ⟨w.heap.size + 1, 1, none⟩ = some (.bool m.resp) := by rw [← hW0, cellN (by simp)]; rfl
  have u2 : W0.cell? ⟨w.heap.size + 1, 2, none⟩ = some (.int .i64 m.opc) := by rw [← hW0, cellN (by simp)]; rfl
  have u3 : W0.cell? ⟨w.heap.size + 1, 3, none⟩ = some (.bool m.aa) := by rw [← hW0, cellN (by simp)]; rfl
  have u4 : W0.cell? ⟨w.heap.size + 1, 4, none⟩ = some (.bool m.tc) := by rw [← hW0, cellN (by simp)]; rfl
  have u5 : W0.cell? ⟨w.heap.size + 1, 5, none⟩ = some (.bool m.rd) := by rw [← hW0, cellN (by simp)]; rfl
  have u6 : W0.cell? ⟨w.heap.size + 1, 6, none⟩ = some (.bool m.ra) := by rw [← hW0, cellN (by simp)]; rfl
  have u7 : W0.cell? ⟨w.heap.size + 1, 7, none⟩ = some (.int .i64 m.rcode) := by rw [← hW0, cellN (by simp)]; rfl
  have u8 : W0.cell? ⟨w.heap.size + 1, 8, none⟩ = some (.slice A8 m.qs.length k8) := by rw [← hW0, cellN (by simp)]; rfl
  have u9 : W0.cell? ⟨w.heap.size + 1, 9, none⟩ = some (.slice A9 m.ans.length k9) := by rw [← hW0, cellN (by simp)]; rfl
  have u10 : W0.cell? ⟨w.heap.size + 1, 10, none⟩ = some (.slice A10 m.auth.length k10) := by rw [← hW0, cellN (by simp)]; rfl
  have u11 : W0.cell? ⟨w.heap.size + 1, 11, none⟩ = some (.slice A11 m.extra.length k11) := by rw [← hW0, cellN (by simp)]; rfl
  have u12 : W0.cell? ⟨w.heap.size + 1, 12, none⟩ = some (.bool m.edns) := by rw [← hW0, cellN (by simp)]; rfl
  have u13 : W0.cell? ⟨w.heap.size + 1, 13, none⟩ = some (.int .i64 m.size) := by rw [← hW0, cellN (by simp)]; rfl
  have hl0 : w.heap.size < W0.heap.size := by omega
  have HS0 : Aside0 (W0.heap.size = w.heap.size + 1 + 1) := ⟨by omega⟩
  clear hW0 hs0
  go_enter Try.func30, Try.ntmps30
  go_upto_region 2 with (fail)
  rw [HW0.out]
  generalize hW1 : W0.alloc (.cells #[.slice Aq q.name.length cq, .int .i64 q.typ, .int .i64 q.cls, .int .i64 m.id, .bool m.resp, .int .i64 m.opc, .bool m.aa, .bool m.tc, .bool m.rd, .bool m.ra, .int .i64 m.rcode, .slice A8 m.qs.length k8, .slice A9 m.ans.length k9, .slice A10 m.auth.length k10, .slice A11 m.extra.length k11, .bool m.edns, .int .i64 m.size, .slice Az zn.length cz, .int .i64 now, .slice none 0 0] 95) = W1
  have B1 : Aside0 (Below W0.heap.size W0 W1) := ⟨by rw [← hW1]; exact below_alloc (Below.refl _ _) _⟩
  have BW1 : Aside0 (Below w.heap.size w W1) := ⟨BX.out.trans (B1.out.mono BX.out.size)⟩
  have hT : W0.heap.size < W1.heap.size := by rw [← hW1]; simp
  have t0 : W1.cell? ⟨W0.heap.size, 0, none⟩ = some (.slice Aq q.name.length cq) := by rw [← hW1, cellN rfl]; rfl
  have t1 : W1.cell? ⟨W0.heap.size, 1, none⟩ = some (.int .i64 q.typ) := by rw [← hW1, cellN rfl]; rfl
  have t2 : W1.cell? ⟨W0.heap.size, 2, none⟩ = some (.int .i64 q.cls) := by rw [← hW1, cellN rfl]; rfl
  have t3 : W1.cell? ⟨W0.heap.size, 3, none⟩ = some (.int .i64 m.id) := by rw [← hW1, cellN rfl]; rfl
  have t4 : W1.cell? ⟨W0.heap.size, 4, none⟩ = some (.bool m.resp) := by rw [← hW1, cellN rfl]; rfl
  have t5 : W1.cell? ⟨W0.heap.size, 5, none⟩ = some (.int .i64 m.opc) := by rw [← hW1, cellN rfl]; rfl
  have t6 : W1.cell? ⟨W0.heap.size, 6, none⟩ = some (.bool m.aa) := by rw [← hW1, cellN rfl]; rfl
  have t7 : W1.cell? ⟨W0.heap.size, 7, none⟩ = some (.bool m.tc) := by rw [← hW1, cellN rfl]; rfl
  have t8 : W1.cell? ⟨W0.heap.size, 8, none⟩ = some (.bool m.rd) := by rw [← hW1, cellN rfl]; rfl
  have t9 : W1.cell? ⟨W0.heap.size, 9, none⟩ = some (.bool m.ra) := by rw [← hW1, cellN rfl]; rfl
  have t10 : W1.cell? ⟨W0.heap.size, 10, none⟩ = some (.int .i64 m.rcode) := by rw [← hW1, cellN rfl]; rfl
  have t11 : W1.cell? ⟨W0.heap.size, 11, none⟩ = some (.slice A8 m.qs.length k8) := by rw [← hW1, cellN rfl]; rfl
  have t12 : W1.cell? ⟨W0.heap.size, 12, none⟩ = some (.slice A9 m.ans.length k9) := by rw [← hW1, cellN rfl]; rfl
  have t13 : W1.cell? ⟨W0.heap.size, 13, none⟩ = some (.slice A10 m.auth.length k10) := by rw [← hW1, cellN rfl]; rfl
  have t14 : W1.cell? ⟨W0.heap.size, 14, none⟩ = some (.slice A11 m.extra.length k11) := by rw [← hW1, cellN rfl]; rfl
  have t15 : W1.cell? ⟨W0.heap.size, 15, none⟩ = some (.bool m.edns) := by rw [← hW1, cellN rfl]; rfl
  have t16 : W1.cell? ⟨W0.heap.size, 16, none⟩ = some (.int .i64 m.size) := by rw [← hW1, cellN rfl]; rfl
  have p0 := (B1.out.cell (p := ⟨w.heap.size, 0, none⟩) hl0).trans q0
  have TT : Aside0 (W1.cell? ⟨W0.heap.size, 0, none⟩ = some (.slice Aq q.name.length cq) ∧ W1.cell? ⟨W0.heap.size, 1, none⟩ = some (.int .i64 q.typ) ∧ W1.cell? ⟨W0.heap.size, 2, none⟩ = some (.int .i64 q.cls) ∧ W1.cell? ⟨W0.heap.size, 3, none⟩ = some (.int .i64 m.id) ∧ W1.cell? ⟨W0.heap.size, 4, none⟩ = some (.bool m.resp) ∧ W1.cell? ⟨W0.heap.size, 5, none⟩ = some (.int .i64 m.opc) ∧ W1.cell? ⟨W0.heap.size, 6, none⟩ = some (.bool m.aa) ∧ W1.cell? ⟨W0.heap.size, 7, none⟩ = some (.bool m.tc) ∧ W1.cell? ⟨W0.heap.size, 8, none⟩ = some (.bool m.rd) ∧ W1.cell? ⟨W0.heap.size, 9, none⟩ = some (.bool m.ra) ∧ W1.cell? ⟨W0.heap.size, 10, none⟩ = some (.int .i64 m.rcode) ∧ W1.cell? ⟨W0.heap.size, 11, none⟩ = some (.slice A8 m.qs.length k8) ∧ W1.cell? ⟨W0.heap.size, 12, none⟩ = some (.slice A9 m.ans.length k9) ∧ W1.cell? ⟨W0.heap.size, 13, none⟩ = some (.slice A10 m.auth.length k10) ∧ W1.cell? ⟨W0.heap.size, 14, none⟩ = some (.slice A11 m.extra.length k11) ∧ W1.cell? ⟨W0.heap.size, 15, none⟩ = some (.bool m.edns) ∧ W1.cell? ⟨W0.heap.size, 16, none⟩ = some (.int .i64 m.size)) := ⟨t0, t1, t2, t3, t4, t5, t6, t7, t8, t9, t10, t11, t12, t13, t14, t15, t16⟩
  clear hW1 t0 t1 t2 t3 t4 t5 t6 t7 t8 t9 t10 t11 t12 t13 t14 t15 t16 u0 u1 u2 u3 u4 u5 u6 u7 u8 u9 u10 u11 u12 u13 q0 q1 q2
  cases h1 : nSound q.name with
  | false =>
    have H1 := Aside0.mk h1
    clear h1
    go_wp2_with fail
    refine (bv (sound_calls _ q.name _ (HQN.out.below pS BW1.out)) H1.out).mono ?_
    rintro e w2 ⟨rfl, hb2⟩
    have BF : Aside0 (Below w.heap.size w w2) := ⟨BW1.out.trans (hb2.mono BW1.out.size)⟩
    clear hb2
    go_wp2_with fail
    go_ret
    exact ⟨rfl, BF.out⟩
  | true =>
    have H1 := Aside0.mk h1
    clear h1
    go_wp2_with fail
    refine (bv (sound_calls _ q.name _ (HQN.out.below pS BW1.out)) H1.out).mono ?_
    rintro e w2 ⟨rfl, hb2⟩
    have HB2 := Aside0.mk hb2
    have BW2 : Aside0 (Below w.heap.size w w2) := ⟨BW1.out.trans (hb2.mono BW1.out.size)⟩
    clear hb2 p0
    go_wp2_with fail
    cases h2 : nSound zn with
    | false =>
      have H2 := Aside0.mk h2
      clear h2
      refine (bv (sound_calls _ zn _ (HZ.out.below pS BW2.out)) H2.out).mono ?_
      rintro e w3 ⟨rfl, hb3⟩
      have BF : Aside0 (Below w.heap.size w w3) := ⟨BW2.out.trans (hb3.mono BW2.out.size)⟩
      clear hb3
      go_wp2_with fail
      go_ret
      exact ⟨rfl, BF.out⟩
    | true =>
      have H2 := Aside0.mk h2
      clear h2
      refine (bv (sound_calls _ zn _ (HZ.out.below pS BW2.out)) H2.out).mono ?_
      rintro e w3 ⟨rfl, hb3⟩
      have HB3 : Aside0 (Below W1.heap.size W1 w3) := ⟨HB2.out.trans (hb3.mono HB2.out.size)⟩
      have BW3 : Aside0 (Below w.heap.size w w3) := ⟨BW2.out.trans (hb3.mono BW2.out.size)⟩
      clear hb3
      go_wp2_with fail
      cases h3 : timeB now with
      | false =>
        have H3 := Aside0.mk h3
        clear h3
        refine (bv (time_calls now _) H3.out).mono ?_
        rintro e w4 ⟨rfl, hb4⟩
        have BF : Aside0 (Below w.heap.size w w4) := ⟨BW3.out.trans (hb4.mono BW3.out.size)⟩
        clear hb4
        go_wp2_with fail
        go_ret
        exact ⟨rfl, BF.out⟩
      | true =>
        have H3 := Aside0.mk h3
        clear h3
        refine (bv (time_calls now _) H3.out).mono ?_
        rintro e w4 ⟨rfl, hb4⟩
        have HB4 : Aside0 (Below W1.heap.size W1 w4) := ⟨HB3.out.trans (hb4.mono HB3.out.size)⟩
        have BW4 : Aside0 (Below w.heap.size w w4) := ⟨BW3.out.trans (hb4.mono BW3.out.size)⟩
        clear hb4
        go_wp2_with fail
        have hT4 : W0.heap.size < w4.heap.size := Nat.lt_of_lt_of_le hT HB4.out.size
        have s0 : w4.cell? ⟨W0.heap.size, 0, none⟩ = some (.slice Aq q.name.length cq) := (HB4.out.cell (p := ⟨W0.heap.size, 0, none⟩) hT).trans TT.out.1
        have s1 : w4.cell? ⟨W0.heap.size, 1, none⟩ = some (.int .i64 q.typ) := (HB4.out.cell (p := ⟨W0.heap.size, 1, none⟩) hT).trans TT.out.2.1
        have s2 : w4.cell? ⟨W0.heap.size, 2, none⟩ = some (.int .i64 q.cls) := (HB4.out.cell (p := ⟨W0.heap.size, 2, none⟩) hT).trans TT.out.2.2.1
        have s3 : w4.cell? ⟨W0.heap.size, 3, none⟩ = some (.int .i64 m.id) := (HB4.out.cell (p := ⟨W0.heap.size, 3, none⟩) hT).trans TT.out.2.2.2.1
        have s4 : w4.cell? ⟨W0.heap.size, 4, none⟩ = some (.bool m.resp) := (HB4.out.cell (p := ⟨W0.heap.size, 4, none⟩) hT).trans TT.out.2.2.2.2.1
        have s5 : w4.cell? ⟨W0.heap.size, 5, none⟩ = some (.int .i64 m.opc) := (HB4.out.cell (p := ⟨W0.heap.size, 5, none⟩) hT).trans TT.out.2.2.2.2.2.1
        have s6 : w4.cell? ⟨W0.heap.size, 6, none⟩ = some (.bool m.aa) := (HB4.out.cell (p := ⟨W0.heap.size, 6, none⟩) hT).trans TT.out.2.2.2.2.2.2.1
        have s7 : w4.cell? ⟨W0.heap.size, 7, none⟩ = some (.bool m.tc) := (HB4.out.cell (p := ⟨W0.heap.size, 7, none⟩) hT).trans TT.out.2.2.2.2.2.2.2.1
        have s8 : w4.cell? ⟨W0.heap.size, 8, none⟩ = some (.bool m.rd) := (HB4.out.cell (p := ⟨W0.heap.size, 8, none⟩) hT).trans TT.out.2.2.2.2.2.2.2.2.1
        have s9 : w4.cell? ⟨W0.heap.size, 9, none⟩ = some (.bool m.ra) := (HB4.out.cell (p := ⟨W0.heap.size, 9, none⟩) hT).trans TT.out.2.2.2.2.2.2.2.2.2.1
        have s10 : w4.cell? ⟨W0.heap.size, 10, none⟩ = some (.int .i64 m.rcode) := (HB4.out.cell (p := ⟨W0.heap.size, 10, none⟩) hT).trans TT.out.2.2.2.2.2.2.2.2.2.2.1
        have s11 : w4.cell? ⟨W0.heap.size, 11, none⟩ = some (.slice A8 m.qs.length k8) := (HB4.out.cell (p := ⟨W0.heap.size, 11, none⟩) hT).trans TT.out.2.2.2.2.2.2.2.2.2.2.2.1
        have s12 : w4.cell? ⟨W0.heap.size, 12, none⟩ = some (.slice A9 m.ans.length k9) := (HB4.out.cell (p := ⟨W0.heap.size, 12, none⟩) hT).trans TT.out.2.2.2.2.2.2.2.2.2.2.2.2.1
        have s13 : w4.cell? ⟨W0.heap.size, 13, none⟩ = some (.slice A10 m.auth.length k10) := (HB4.out.cell (p := ⟨W0.heap.size, 13, none⟩) hT).trans TT.out.2.2.2.2.2.2.2.2.2.2.2.2.2.1
        have s14 : w4.cell? ⟨W0.heap.size, 14, none⟩ = some (.slice A11 m.extra.length k11) := (HB4.out.cell (p := ⟨W0.heap.size, 14, none⟩) hT).trans TT.out.2.2.2.2.2.2.2.2.2.2.2.2.2.2.1
        have s15 : w4.cell? ⟨W0.heap.size, 15, none⟩ = some (.bool m.edns) := (HB4.out.cell (p := ⟨W0.heap.size, 15, none⟩) hT).trans TT.out.2.2.2.2.2.2.2.2.2.2.2.2.2.2.2.1
        have s16 : w4.cell? ⟨W0.heap.size, 16, none⟩ = some (.int .i64 m.size) := (HB4.out.cell (p := ⟨W0.heap.size, 16, none⟩) hT).trans TT.out.2.2.2.2.2.2.2.2.2.2.2.2.2.2.2.2
        have hcall := asked_calls W0.heap.size q m Aq cq A8 A9 A10 A11 k8 k9 k10 k11 w4 hT4 (HQN.out.below pS BW4.out) (K_below HM.out BW4.out) s0 s1 s2 s3 s4 s5 s6 s7 s8 s9 s10 s11 s12 s13 s14 s15 s16
        rw [HS0.out] at hcall
        have HCALL := Aside0.mk hcall
        clear hcall s0 s1 s2 s3 s4 s5 s6 s7 s8 s9 s10 s11 s12 s13 s14 s15 s16
        refine HCALL.out.mono ?_
        rintro e w5 ⟨b5, rfl, hok, hb5⟩
        have BF : Aside0 (Below w.heap.size w w5) := ⟨BW4.out.trans (hb5.mono BW4.out.size)⟩
        obtain rfl : b5 = false := by
          cases b5 with
          | false => rfl
          | true => exact absurd (hok rfl) HN.out
        clear hok hb5
        go_wp2_with fail
        go_ret
        exact ⟨rfl, BF.out⟩
end Go.Proofs.Ytkbjbkmaokebgaa.Gz

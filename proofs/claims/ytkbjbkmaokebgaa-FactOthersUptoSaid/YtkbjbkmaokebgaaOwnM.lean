import Derived.Test.YtkbjbkmaokebgaaMid
set_option linter.unusedVariables false
set_option linter.unusedSimpArgs false
namespace Go.Proofs.Ytkbjbkmaokebgaa.Gz
open Go.RowKit Go.Proofs.YtkbjbkmaokebgaaW.PrintWords
open Ki
theorem infoQ0 : (Try.prog.info? 27).map (fun i => (i.zero, i.size, i.bytes)) = some (some (.agg #[.slice none 0 0, .int .i64 0, .int .i64 0]), kQ.sz, kQ.bytes) := by kernel_rfl
theorem range_at {w : World} {b : Nat} {cs : List Value} (h : w.rangeAt b 0 cs) (j : Nat) (v : Value) (hv : cs[j]? = some v) : w.cell? ⟨b, j, none⟩ = some v := by
  have := h j v hv
  rwa [Nat.zero_add] at this
theorem froz_at {w : World} {b n : Nat} (h : w.there b 0 n) (j : Nat) (hj : j < n) : w.frozen? ⟨b, j, none⟩ = false := by
  have := (h j hj).2
  rwa [Nat.zero_add] at this
theorem there_set' {w : World} {b o m : Nat} (h : w.there b o m) {p : Addr} (v : Value) : (w.setCell p v).there b o m := fun j hj => by
  refine ⟨?_, by rw [World.frozen?_setCell]; exact (h j hj).2⟩
  by_cases e : p = ⟨b, o + j, none⟩
  · subst e
    obtain ⟨u, hu⟩ := Option.isSome_iff_exists.1 (h j hj).1
    rw [set_same hu]; rfl
  · rw [set_other e]; exact (h j hj).1
/-- A row of the call's own that leans on blocks from n on, behind a store below n. -/
theorem rd_new_set {α : Type} {d : Ki α} {n : Nat} {w : World} {v : Value} {xs : List α} (hp : 0 < d.sz) (h : d.Rd w (fun k => n ≤ k) v xs) {p : Addr} (hb : p.block < n) (u : Value) : d.Rd (w.setCell p u) (fun k => n ≤ k) v xs :=
  h.step hp (fun k hk _ => Below.heap_setCell w p u k (by have h0 : n ≤ k := hk; omega))
theorem rd_new_setCells {α : Type} {d : Ki α} {n b o : Nat} {w : World} {v : Value} {xs : List α} (hp : 0 < d.sz) (h : d.Rd w (fun k => n ≤ k) v xs) (hb : b < n) (us : List Value) : d.Rd (w.setCells b o us) (fun k => n ≤ k) v xs :=
  h.step hp (fun k hk _ => heap_setCells us o w k (by have h0 : n ≤ k := hk; omega))
set_option maxHeartbeats 16000000 in
set_option maxRecDepth 100000 in
theorem ownm_calls (m : Msg) (cm : List Value) (w : World) (hm : kM.K w (fun _ => True) m cm) :
    Calls Try.prog 31 #[.agg cm.toArray] w (GivesK kM w m) := by
  have hm0 := hm
  obtain ⟨A8, k8, A9, k9, A10, k10, A11, k11, rfl, r8, r9, r10, r11⟩ := kM_form hm
  obtain ⟨_, _, _, _, heq0, hid, hop, hrc, _, _, _, _, hsz⟩ := hm0
  have RQ := Aside0.mk (r8.low pQ)
  have RA := Aside0.mk r9
  have RB := Aside0.mk r10
  have RE := Aside0.mk r11
  have R64S := Aside0.mk (And.intro hid (And.intro hop (And.intro hrc hsz)))
  have hmax := r8.max
  have hroom := Aside0.mk r8.room
  clear heq0 hm r8 r9 r10 r11 hid hop hrc hsz
  generalize hW0 : (w.alloc (.cells #[.int .i64 m.id, .bool m.resp, .int .i64 m.opc, .bool m.aa, .bool m.tc, .bool m.rd, .bool m.ra, .int .i64 m.rcode, .slice A8 m.qs.length k8, .slice A9 m.ans.length k9, .slice A10 m.auth.length k10, .slice A11 m.extra.length k11, .bool m.edns, .int .i64 m.size] 35)).alloc (.cells #[.int .i64 0, .bool false, .int .i64 0, .bool false, .bool false, .bool false, .bool false, .int .i64 0, .slice none 0 0, .slice none 0 0, .slice none 0 0, .slice none 0 0, .bool false, .int .i64 0] 35) = W0
  have HW0 := Aside0.mk hW0
  have BX : Aside0 (Below w.heap.size w W0) := ⟨by rw [← hW0]; exact below_alloc (below_alloc (Below.refl _ _) _) _⟩
  have hs0 : W0.heap.size = w.heap.size + 2 := by rw [← hW0]; simp
  have MR0 : Aside0 (W0.rangeAt w.heap.size 0 [.int .i64 m.id, .bool m.resp, .int .i64 m.opc, .bool m.aa, .bool m.tc, .bool m.rd, .bool m.ra, .int .i64 m.rcode, .slice A8 m.qs.length k8, .slice A9 m.ans.length k9, .slice A10 m.auth.length k10, .slice A11 m.extra.length k11, .bool m.edns, .int .i64 m.size]) := ⟨fun j v hv => by rw [Nat.zero_add, ← hW0, cellA (by simp), cellN rfl]; simpa using hv⟩
  have MT0 : Aside0 (W0.there w.heap.size 0 14) := ⟨by rw [← hW0]; exact there_below (below_alloc (Below.refl _ _) _) (by simp) (there_new w #[.int .i64 m.id, .bool m.resp, .int .i64 m.opc, .bool m.aa, .bool m.tc, .bool m.rd, .bool m.ra, .int .i64 m.rcode, .slice A8 m.qs.length k8, .slice A9 m.ans.length k9, .slice A10 m.auth.length k10, .slice A11 m.extra.length k11, .bool m.edns, .int .i64 m.size] 35)⟩
  have RT0 : Aside0 (W0.there (w.heap.size + 1) 0 14) := ⟨by
    have h := there_new (w.alloc (.cells #[.int .i64 m.id, .bool m.resp, .int .i64 m.opc, .bool m.aa, .bool m.tc, .bool m.rd, .bool m.ra, .int .i64 m.rcode, .slice A8 m.qs.length k8, .slice A9 m.ans.length k9, .slice A10 m.auth.length k10, .slice A11 m.extra.length k11, .bool m.edns, .int .i64 m.size] 35)) #[.int .i64 0, .bool false, .int .i64 0, .bool false, .bool false, .bool false, .bool false, .int .i64 0, .slice none 0 0, .slice none 0 0, .slice none 0 0, .slice none 0 0, .bool false, .int .i64 0] 35
    rw [← hW0]
    simpa using h⟩
  have HS0 := Aside0.mk hs0
  have hl0 : w.heap.size < W0.heap.size := by omega
  have hl1 : w.heap.size + 1 < W0.heap.size := by omega
  clear hW0 hs0
  go_enter Try.func31, Try.ntmps31
  go_wp2_with fail
  rw [HW0.out]
  go_loopg [3, 4, 5] m.qs.length (fun gg s3 s4 _ wr => ∃ k : Nat, k ≤ m.qs.length ∧ m.qs.length - k ≤ gg ∧ s4 = .int .i64 k ∧ Aside0 (Below W0.heap.size W0 wr) ∧ Aside0 (kQ.Own 27 wr W0.heap.size (fun k => W0.heap.size ≤ k) s3 (m.qs.take k)))
  case atStart => exact ⟨0, Nat.zero_le _, by omega, rfl, ⟨Below.refl _ _⟩, ⟨Own.nil _ _ _ _ _⟩⟩
  case round =>
    obtain ⟨k, hk, hg, rfl, HB, HO⟩ := hrel
    obtain ⟨As, ks, rfl, _⟩ := HO.out.slice_
    have a8 := (HB.out.cell (p := ⟨w.heap.size, 8, none⟩) hl0).trans (range_at MR0.out 8 _ rfl)
    have BWR : Aside0 (Below w.heap.size w wr) := ⟨BX.out.trans (HB.out.mono BX.out.size)⟩
    by_cases hlt : k < m.qs.length
    · have HLT := Aside0.mk hlt
      have k0' : (0 : Int) ≤ (k : Int) := by omega
      have k1' : (k : Int) < (m.qs.length : Int) := by omega
      obtain ⟨A2, c2, he2, _, hrow2⟩ := RQ.out.below pQ BWR.out
      obtain ⟨rfl, rfl⟩ : A8 = A2 ∧ k8 = c2 := by injection he2 with h1 _ h3; exact ⟨h1, h3⟩
      obtain ⟨ae, vw, rfl, hKq, e0, e1, e2⟩ := cell_q hrow2 k hlt
      have HST : Aside0 (m.qs.take (k + 1) = m.qs.take k ++ [m.qs[k]]) := ⟨List.take_succ_eq_append_getElem hlt⟩
      have HRM : Aside0 (((m.qs.take k).length + 1) * kQ.bytes ≤ B47) := ⟨by
        rw [List.length_take, Nat.min_eq_left (by omega)]
        exact Nat.le_trans (Nat.mul_le_mul_right _ (by omega)) hroom.out⟩
      generalize m.qs[k] = q at hKq e1 e2 HST
      generalize m.qs.take k = acc at HO HST HRM
      obtain ⟨vn, hcs, hn, hqt, hqc⟩ := hKq
      obtain rfl : vw = vn := by injection hcs
      have HN := Aside0.mk hn.any
      have HNR := Aside0.mk hn.room
      have HQR := Aside0.mk (And.intro hqt hqc)
      obtain ⟨A0, k0, rfl, _, _⟩ := hn
      clear hcs he2 hrow2 hqt hqc
      go_upto_region 6 with (fail)
      generalize hW1 : wr.alloc (.cells #[.slice A0 q.name.length k0, .int .i64 q.typ, .int .i64 q.cls] 27) = W1
      have B1 : Aside0 (Below wr.heap.size wr W1) := ⟨by rw [← hW1]; exact below_alloc (Below.refl _ _) _⟩
      have hs1 : W1.heap.size = wr.heap.size + 1 := by rw [← hW1]; simp
      have X1 : Aside0 (W1.cell? ⟨wr.heap.size, 0, none⟩ = some (.slice A0 q.name.length k0) ∧ W1.cell? ⟨wr.heap.size, 1, none⟩ = some (.int .i64 q.typ) ∧ W1.cell? ⟨wr.heap.size, 2, none⟩ = some (.int .i64 q.cls) ∧ W1.frozen? ⟨wr.heap.size, 0, none⟩ = false) := ⟨by rw [← hW1, cellN rfl]; rfl, by rw [← hW1, cellN rfl]; rfl, by rw [← hW1, cellN rfl]; rfl, by rw [← hW1, frozenN rfl]⟩
      have HS1 := Aside0.mk hs1
      have hx1 : wr.heap.size < W1.heap.size := by omega
      clear hW1 hs1 e0 e1 e2
      have BA1 : Aside0 (Below W1.heap.size W1 (W1.alloc (.cells #[] 9))) := ⟨below_alloc (Below.refl _ _) _⟩
      have x0 := (BA1.out.cell (p := ⟨wr.heap.size, 0, none⟩) hx1).trans X1.out.1
      have OL : Aside0 (kS.Own 9 (W1.alloc (.cells #[] 9)) W1.heap.size (fun _ => True) (.slice (some ⟨W1.heap.size, 0, none⟩) 0 0) []) := ⟨Own.lit0 kS 9 W1 W1.heap.size (fun _ => True) (Nat.le_refl _)⟩
      have RL : Aside0 (kS.Rd (W1.alloc (.cells #[] 9)) (fun _ => True) (.slice A0 q.name.length k0) q.name) := ⟨(HN.out.below pS B1.out).below pS BA1.out⟩
      have FZ : Aside0 (∀ w1, Below (W1.alloc (.cells #[] 9)).heap.size (W1.alloc (.cells #[] 9)) w1 → Below W1.heap.size W1 w1 ∧ w1.cell? ⟨wr.heap.size, 0, none⟩ = some (.slice A0 q.name.length k0) ∧ w1.frozen? ⟨wr.heap.size, 0, none⟩ = false) := ⟨fun w1 hb => by
        have hb2 : Below W1.heap.size W1 w1 := BA1.out.trans (hb.mono BA1.out.size)
        exact ⟨hb2, (hb2.cell (p := ⟨wr.heap.size, 0, none⟩) hx1).trans X1.out.1, (hb2.frozen (p := ⟨wr.heap.size, 0, none⟩) hx1).trans X1.out.2.2.2⟩⟩
      go_upto_region 7 with (at_builtin; refine Own.append_zero kS W1.heap.size rfl (.tmp 18) (.tmp 20) 22 9 (.string ⟨#[]⟩) rfl Try.underlying22 info_s rfl (by decide) (by decide) _ _ q.name (fun _ => True) rfl rfl OL.out RL.out BA1.out.size HNR.out ?_; intro v1 w1 ho1 hb1; obtain ⟨An, kn, rfl, _⟩ := ho1.slice_; obtain ⟨hb2, z0, z1⟩ := FZ.out w1 hb1)
      have HB2 := Aside0.mk hb2
      have HN2 : Aside0 (kS.Rd w1 (fun k => W1.heap.size ≤ k) (.slice An q.name.length kn) q.name) := ⟨(strip_kS (ok' := fun _ => False) ho1).rd (fun _ h => h.elim) (fun _ h => h)⟩
      have Z1 := Aside0.mk z0
      clear hb1 hb2 ho1 x0 z1
      generalize hW2 : w1.setCell ⟨wr.heap.size, 0, none⟩ (.slice An q.name.length kn) = W2
      have B2 : Aside0 (Below wr.heap.size wr W2) := ⟨by rw [← hW2]; exact (B1.out.trans (HB2.out.mono B1.out.size)).setCell (p := ⟨wr.heap.size, 0, none⟩) (Nat.le_refl _) _⟩
      have HN3 : Aside0 (kS.Rd W2 (fun k => W1.heap.size ≤ k) (.slice An q.name.length kn) q.name) := ⟨by rw [← hW2]; exact rd_new_set pS HN2.out (p := ⟨wr.heap.size, 0, none⟩) hx1 _⟩
      have y0 : W2.cell? ⟨wr.heap.size, 0, none⟩ = some (.slice An q.name.length kn) := by rw [← hW2]; exact set_same Z1.out
      have y1 : W2.cell? ⟨wr.heap.size, 1, none⟩ = some (.int .i64 q.typ) := by rw [← hW2, set_other (addr_ne (by decide))]; exact (HB2.out.cell (p := ⟨wr.heap.size, 1, none⟩) hx1).trans X1.out.2.1
      have y2 : W2.cell? ⟨wr.heap.size, 2, none⟩ = some (.int .i64 q.cls) := by rw [← hW2, set_other (addr_ne (by decide))]; exact (HB2.out.cell (p := ⟨wr.heap.size, 2, none⟩) hx1).trans X1.out.2.2.1
      have BR2 : Aside0 (Below W0.heap.size W0 W2) := ⟨HB.out.trans (B2.out.mono HB.out.size)⟩
      have OW2 := Aside0.mk (HO.out.below B2.out)
      have HP : Aside0 (kQ.K W2 (fun k => W0.heap.size ≤ k ∧ some k ≠ (Value.slice As acc.length ks).ownBlock) q [.slice An q.name.length kn, .int .i64 q.typ, .int .i64 q.cls]) := ⟨⟨_, rfl, HN3.out.mono (fun kk hkk => ⟨by have h1 : W1.heap.size ≤ kk := hkk; have h2 := HB.out.size; have h3 := HS1.out; omega, fun he => by have h1 : W1.heap.size ≤ kk := hkk; have h2 := (HO.out.lt kk he.symm).2; have h3 := HS1.out; omega⟩), HQR.out.1, HQR.out.2⟩⟩
      clear hW2 z0
      go_wp2_with (at_builtin; refine Own.append kQ W0.heap.size rfl (.tmp 23) (.tmp 25) 33 27 (.agg #[.slice none 0 0, .int .i64 0, .int .i64 0]) rfl Try.underlying33 infoQ0 rfl (by decide) (by decide) _ _ _ _ _ rfl rfl HP.out OW2.out BR2.out BR2.out.size HRM.out ?_; intro v4 w4 ho4 hb4 hg4 ha4)
      go_roundg (m.qs.length - (k + 1))
      case measure => have := HLT.out; omega
      case rel =>
        refine ⟨k + 1, by have := HLT.out; omega, by omega, by go_num, ⟨hb4⟩, ?_⟩
        rw [HST.out]
        exact ⟨ho4⟩
    · have hka : k = m.qs.length := by omega
      have HQ8 : Aside0 (kQ.Own 27 wr W0.heap.size (fun k => W0.heap.size ≤ k) (.slice As (m.qs.take k).length ks) m.qs) := ⟨by have h := HO.out; rw [show m.qs.take k = m.qs from by rw [hka, List.take_length]] at h ⊢; exact h⟩
      have hkl : (m.qs.take k).length = m.qs.length := by rw [hka, List.take_length]
      rw [hkl] at HQ8
      obtain ⟨Q8, rfl⟩ : ∃ Q8, Q8 = As := ⟨_, rfl⟩
      obtain ⟨q8, rfl⟩ : ∃ q8, q8 = ks := ⟨_, rfl⟩
      have R8 : Aside0 (kQ.Rd wr (fun k => W0.heap.size ≤ k) (.slice Q8 m.qs.length q8) m.qs) := ⟨HQ8.out.rd (fun _ h => h) (fun _ h => h)⟩
      have MR := Aside0.mk (range_below HB.out hl0 MR0.out)
      have MT := Aside0.mk (there_below HB.out hl0 MT0.out)
      have RT := Aside0.mk (there_below HB.out hl1 RT0.out)
      have f8 := froz_at MT.out 8 (by decide)
      rw [hkl]
      have HKA := Aside0.mk hka
      clear hka HO hkl
      go_upto_region 9 with (fail)
      generalize hW8 : wr.setCell ⟨w.heap.size, 8, none⟩ (.slice Q8 m.qs.length q8) = W8
      have MR8 : Aside0 (W8.rangeAt w.heap.size 0 [.int .i64 m.id, .bool m.resp, .int .i64 m.opc, .bool m.aa, .bool m.tc, .bool m.rd, .bool m.ra, .int .i64 m.rcode, .slice Q8 m.qs.length q8, .slice A9 m.ans.length k9, .slice A10 m.auth.length k10, .slice A11 m.extra.length k11, .bool m.edns, .int .i64 m.size]) := ⟨by rw [← hW8]; exact range_set MR.out 8 (.slice Q8 m.qs.length q8)⟩
      have MT8 : Aside0 (W8.there w.heap.size 0 14) := ⟨by rw [← hW8]; exact there_set' MT.out _⟩
      have RT8 : Aside0 (W8.there (w.heap.size + 1) 0 14) := ⟨by rw [← hW8]; exact there_set' RT.out _⟩
      have BW8 : Aside0 (Below w.heap.size w W8) := ⟨by rw [← hW8]; exact BWR.out.setCell (p := ⟨w.heap.size, 8, none⟩) (Nat.le_refl _) _⟩
      have SZ8 : Aside0 (W0.heap.size ≤ W8.heap.size) := ⟨by rw [← hW8, World.size_setCell]; exact HB.out.size⟩
      have R8_8 : Aside0 (kQ.Rd W8 (fun k => W0.heap.size ≤ k) (.slice Q8 m.qs.length q8) m.qs) := ⟨by rw [← hW8]; exact rd_new_set pQ R8.out (p := ⟨w.heap.size, 8, none⟩) hl0 _⟩
      clear hW8 f8 a8
      have a9 := range_at MR8.out 9 _ rfl
      go_wp2_with fail
      refine (ownr_calls _ m.ans W8 (RA.out.below pR BW8.out)).mono ?_
      rintro e u9 ⟨v9, rfl, ho9, hb9⟩
      obtain ⟨Q9, q9, rfl, _⟩ := ho9.slice_
      have HBB9 := Aside0.mk hb9
      have RN9 : Aside0 (kR.Rd u9 (fun k => W0.heap.size ≤ k) (.slice Q9 m.ans.length q9) m.ans) := ⟨ho9.rd (fun k h => Nat.le_trans SZ8.out h) (fun k h => Nat.le_trans SZ8.out h)⟩
      have hx9 : w.heap.size < W8.heap.size := Nat.lt_of_lt_of_le hl0 SZ8.out
      have hy9 : w.heap.size + 1 < W8.heap.size := Nat.lt_of_lt_of_le hl1 SZ8.out
      have MRb9 := Aside0.mk (range_below hb9 hx9 MR8.out)
      have MTb9 := Aside0.mk (there_below hb9 hx9 MT8.out)
      have RTb9 := Aside0.mk (there_below hb9 hy9 RT8.out)
      have BWb9 : Aside0 (Below w.heap.size w u9) := ⟨BW8.out.trans (hb9.mono BW8.out.size)⟩
      have SZb9 : Aside0 (W0.heap.size ≤ u9.heap.size) := ⟨Nat.le_trans SZ8.out hb9.size⟩
      have R8_b9 := Aside0.mk (R8_8.out.below pQ hb9)
      clear hb9 ho9 a9
      have a9 := range_at MRb9.out 9 _ rfl
      have f9 := froz_at MTb9.out 9 (by decide)
      go_upto_region 10 with (fail)
      generalize hW9 : u9.setCell ⟨w.heap.size, 9, none⟩ (.slice Q9 m.ans.length q9) = W9
      have MR9 : Aside0 (W9.rangeAt w.heap.size 0 [.int .i64 m.id, .bool m.resp, .int .i64 m.opc, .bool m.aa, .bool m.tc, .bool m.rd, .bool m.ra, .int .i64 m.rcode, .slice Q8 m.qs.length q8, .slice Q9 m.ans.length q9, .slice A10 m.auth.length k10, .slice A11 m.extra.length k11, .bool m.edns, .int .i64 m.size]) := ⟨by rw [← hW9]; exact range_set MRb9.out 9 (.slice Q9 m.ans.length q9)⟩
      have MT9 : Aside0 (W9.there w.heap.size 0 14) := ⟨by rw [← hW9]; exact there_set' MTb9.out _⟩
      have RT9 : Aside0 (W9.there (w.heap.size + 1) 0 14) := ⟨by rw [← hW9]; exact there_set' RTb9.out _⟩
      have BW9 : Aside0 (Below w.heap.size w W9) := ⟨by rw [← hW9]; exact BWb9.out.setCell (p := ⟨w.heap.size, 9, none⟩) (Nat.le_refl _) _⟩
      have SZ9 : Aside0 (W0.heap.size ≤ W9.heap.size) := ⟨by rw [← hW9, World.size_setCell]; exact SZb9.out⟩
      have R8_9 : Aside0 (kQ.Rd W9 (fun k => W0.heap.size ≤ k) (.slice Q8 m.qs.length q8) m.qs) := ⟨by rw [← hW9]; exact rd_new_set pQ R8_b9.out (p := ⟨w.heap.size, 9, none⟩) hl0 _⟩
      have R9_9 : Aside0 (kR.Rd W9 (fun k => W0.heap.size ≤ k) (.slice Q9 m.ans.length q9) m.ans) := ⟨by rw [← hW9]; exact rd_new_set pR RN9.out (p := ⟨w.heap.size, 9, none⟩) hl0 _⟩
      clear hW9 a9 f9
      have a10 := range_at MR9.out 10 _ rfl
      go_wp2_with fail
      refine (ownr_calls _ m.auth W9 (RB.out.below pR BW9.out)).mono ?_
      rintro e u10 ⟨v10, rfl, ho10, hb10⟩
      obtain ⟨Q10, q10, rfl, _⟩ := ho10.slice_
      have HBB10 := Aside0.mk hb10
      have RN10 : Aside0 (kR.Rd u10 (fun k => W0.heap.size ≤ k) (.slice Q10 m.auth.length q10) m.auth) := ⟨ho10.rd (fun k h => Nat.le_trans SZ9.out h) (fun k h => Nat.le_trans SZ9.out h)⟩
      have hx10 : w.heap.size < W9.heap.size := Nat.lt_of_lt_of_le hl0 SZ9.out
      have hy10 : w.heap.size + 1 < W9.heap.size := Nat.lt_of_lt_of_le hl1 SZ9.out
      have MRb10 := Aside0.mk (range_below hb10 hx10 MR9.out)
      have MTb10 := Aside0.mk (there_below hb10 hx10 MT9.out)
      have RTb10 := Aside0.mk (there_below hb10 hy10 RT9.out)
      have BWb10 : Aside0 (Below w.heap.size w u10) := ⟨BW9.out.trans (hb10.mono BW9.out.size)⟩
      have SZb10 : Aside0 (W0.heap.size ≤ u10.heap.size) := ⟨Nat.le_trans SZ9.out hb10.size⟩
      have R8_b10 := Aside0.mk (R8_9.out.below pQ hb10)
      have R9_b10 := Aside0.mk (R9_9.out.below pR hb10)
      clear hb10 ho10 a10
      have a10 := range_at MRb10.out 10 _ rfl
      have f10 := froz_at MTb10.out 10 (by decide)
      go_upto_region 11 with (fail)
      generalize hW10 : u10.setCell ⟨w.heap.size, 10, none⟩ (.slice Q10 m.auth.length q10) = W10
      have MR10 : Aside0 (W10.rangeAt w.heap.size 0 [.int .i64 m.id, .bool m.resp, .int .i64 m.opc, .bool m.aa, .bool m.tc, .bool m.rd, .bool m.ra, .int .i64 m.rcode, .slice Q8 m.qs.length q8, .slice Q9 m.ans.length q9, .slice Q10 m.auth.length q10, .slice A11 m.extra.length k11, .bool m.edns, .int .i64 m.size]) := ⟨by rw [← hW10]; exact range_set MRb10.out 10 (.slice Q10 m.auth.length q10)⟩
      have MT10 : Aside0 (W10.there w.heap.size 0 14) := ⟨by rw [← hW10]; exact there_set' MTb10.out _⟩
      have RT10 : Aside0 (W10.there (w.heap.size + 1) 0 14) := ⟨by rw [← hW10]; exact there_set' RTb10.out _⟩
      have BW10 : Aside0 (Below w.heap.size w W10) := ⟨by rw [← hW10]; exact BWb10.out.setCell (p := ⟨w.heap.size, 10, none⟩) (Nat.le_refl _) _⟩
      have SZ10 : Aside0 (W0.heap.size ≤ W10.heap.size) := ⟨by rw [← hW10, World.size_setCell]; exact SZb10.out⟩
      have R8_10 : Aside0 (kQ.Rd W10 (fun k => W0.heap.size ≤ k) (.slice Q8 m.qs.length q8) m.qs) := ⟨by rw [← hW10]; exact rd_new_set pQ R8_b10.out (p := ⟨w.heap.size, 10, none⟩) hl0 _⟩
      have R9_10 : Aside0 (kR.Rd W10 (fun k => W0.heap.size ≤ k) (.slice Q9 m.ans.length q9) m.ans) := ⟨by rw [← hW10]; exact rd_new_set pR R9_b10.out (p := ⟨w.heap.size, 10, none⟩) hl0 _⟩
      have R10_10 : Aside0 (kR.Rd W10 (fun k => W0.heap.size ≤ k) (.slice Q10 m.auth.length q10) m.auth) := ⟨by rw [← hW10]; exact rd_new_set pR RN10.out (p := ⟨w.heap.size, 10, none⟩) hl0 _⟩
      clear hW10 a10 f10
      have a11 := range_at MR10.out 11 _ rfl
      go_wp2_with fail
      refine (ownr_calls _ m.extra W10 (RE.out.below pR BW10.out)).mono ?_
      rintro e u11 ⟨v11, rfl, ho11, hb11⟩
      obtain ⟨Q11, q11, rfl, _⟩ := ho11.slice_
      have HBB11 := Aside0.mk hb11
      have RN11 : Aside0 (kR.Rd u11 (fun k => W0.heap.size ≤ k) (.slice Q11 m.extra.length q11) m.extra) := ⟨ho11.rd (fun k h => Nat.le_trans SZ10.out h) (fun k h => Nat.le_trans SZ10.out h)⟩
      have hx11 : w.heap.size < W10.heap.size := Nat.lt_of_lt_of_le hl0 SZ10.out
      have hy11 : w.heap.size + 1 < W10.heap.size := Nat.lt_of_lt_of_le hl1 SZ10.out
      have MRb11 := Aside0.mk (range_below hb11 hx11 MR10.out)
      have MTb11 := Aside0.mk (there_below hb11 hx11 MT10.out)
      have RTb11 := Aside0.mk (there_below hb11 hy11 RT10.out)
      have BWb11 : Aside0 (Below w.heap.size w u11) := ⟨BW10.out.trans (hb11.mono BW10.out.size)⟩
      have SZb11 : Aside0 (W0.heap.size ≤ u11.heap.size) := ⟨Nat.le_trans SZ10.out hb11.size⟩
      have R8_b11 := Aside0.mk (R8_10.out.below pQ hb11)
      have R9_b11 := Aside0.mk (R9_10.out.below pR hb11)
      have R10_b11 := Aside0.mk (R10_10.out.below pR hb11)
      clear hb11 ho11 a11
      have a11 := range_at MRb11.out 11 _ rfl
      have f11 := froz_at MTb11.out 11 (by decide)
      go_upto_region 12 with (fail)
      generalize hW11 : u11.setCell ⟨w.heap.size, 11, none⟩ (.slice Q11 m.extra.length q11) = W11
      have MR11 : Aside0 (W11.rangeAt w.heap.size 0 [.int .i64 m.id, .bool m.resp, .int .i64 m.opc, .bool m.aa, .bool m.tc, .bool m.rd, .bool m.ra, .int .i64 m.rcode, .slice Q8 m.qs.length q8, .slice Q9 m.ans.length q9, .slice Q10 m.auth.length q10, .slice Q11 m.extra.length q11, .bool m.edns, .int .i64 m.size]) := ⟨by rw [← hW11]; exact range_set MRb11.out 11 (.slice Q11 m.extra.length q11)⟩
      have MT11 : Aside0 (W11.there w.heap.size 0 14) := ⟨by rw [← hW11]; exact there_set' MTb11.out _⟩
      have RT11 : Aside0 (W11.there (w.heap.size + 1) 0 14) := ⟨by rw [← hW11]; exact there_set' RTb11.out _⟩
      have BW11 : Aside0 (Below w.heap.size w W11) := ⟨by rw [← hW11]; exact BWb11.out.setCell (p := ⟨w.heap.size, 11, none⟩) (Nat.le_refl _) _⟩
      have SZ11 : Aside0 (W0.heap.size ≤ W11.heap.size) := ⟨by rw [← hW11, World.size_setCell]; exact SZb11.out⟩
      have R8_11 : Aside0 (kQ.Rd W11 (fun k => W0.heap.size ≤ k) (.slice Q8 m.qs.length q8) m.qs) := ⟨by rw [← hW11]; exact rd_new_set pQ R8_b11.out (p := ⟨w.heap.size, 11, none⟩) hl0 _⟩
      have R9_11 : Aside0 (kR.Rd W11 (fun k => W0.heap.size ≤ k) (.slice Q9 m.ans.length q9) m.ans) := ⟨by rw [← hW11]; exact rd_new_set pR R9_b11.out (p := ⟨w.heap.size, 11, none⟩) hl0 _⟩
      have R10_11 : Aside0 (kR.Rd W11 (fun k => W0.heap.size ≤ k) (.slice Q10 m.auth.length q10) m.auth) := ⟨by rw [← hW11]; exact rd_new_set pR R10_b11.out (p := ⟨w.heap.size, 11, none⟩) hl0 _⟩
      have R11_11 : Aside0 (kR.Rd W11 (fun k => W0.heap.size ≤ k) (.slice Q11 m.extra.length q11) m.extra) := ⟨by rw [← hW11]; exact rd_new_set pR RN11.out (p := ⟨w.heap.size, 11, none⟩) hl0 _⟩
      clear hW11 a11 f11
      go_wp2_with (first | (refine wpList_load_mid rfl 35 (.tmp 1) rfl _ 0 rfl _ _ MR11.out Try.underlying35 rfl infoM ?_) | (refine wpList_store_mid rfl 35 (.tmp 2) (.tmp 41) rfl _ 0 _ rfl rfl RT11.out infoM (by simp [Value.oneCell', Value.cells]) ?_))
      have RF : Aside0 ((W11.setCells (w.heap.size + 1) 0 [.int .i64 m.id, .bool m.resp, .int .i64 m.opc, .bool m.aa, .bool m.tc, .bool m.rd, .bool m.ra, .int .i64 m.rcode, .slice Q8 m.qs.length q8, .slice Q9 m.ans.length q9, .slice Q10 m.auth.length q10, .slice Q11 m.extra.length q11, .bool m.edns, .int .i64 m.size]).rangeAt (w.heap.size + 1) 0 [.int .i64 m.id, .bool m.resp, .int .i64 m.opc, .bool m.aa, .bool m.tc, .bool m.rd, .bool m.ra, .int .i64 m.rcode, .slice Q8 m.qs.length q8, .slice Q9 m.ans.length q9, .slice Q10 m.auth.length q10, .slice Q11 m.extra.length q11, .bool m.edns, .int .i64 m.size]) := ⟨by
        have h := World.rangeAt_setCells_same W11 (w.heap.size + 1) 0 [.int .i64 m.id, .bool m.resp, .int .i64 m.opc, .bool m.aa, .bool m.tc, .bool m.rd, .bool m.ra, .int .i64 m.rcode, .slice Q8 m.qs.length q8, .slice Q9 m.ans.length q9, .slice Q10 m.auth.length q10, .slice Q11 m.extra.length q11, .bool m.edns, .int .i64 m.size] RT11.out
        simpa using h⟩
      refine bodyPost_ret (v := .agg ([.int .i64 m.id, .bool m.resp, .int .i64 m.opc, .bool m.aa, .bool m.tc, .bool m.rd, .bool m.ra, .int .i64 m.rcode, .slice Q8 m.qs.length q8, .slice Q9 m.ans.length q9, .slice Q10 m.auth.length q10, .slice Q11 m.extra.length q11, .bool m.edns, .int .i64 m.size] : List Value).toArray) (results_mid rfl _ _ _ [.int .i64 m.id, .bool m.resp, .int .i64 m.opc, .bool m.aa, .bool m.tc, .bool m.rd, .bool m.ra, .int .i64 m.rcode, .slice Q8 m.qs.length q8, .slice Q9 m.ans.length q9, .slice Q10 m.auth.length q10, .slice Q11 m.extra.length q11, .bool m.edns, .int .i64 m.size] _ rfl RF.out Try.underlying35 rfl infoM) rfl ⟨_, rfl, ⟨_, _, _, _, rfl, R64S.out.1, R64S.out.2.1, R64S.out.2.2.1, ?_, ?_, ?_, ?_, R64S.out.2.2.2⟩, below_setCells _ _ _ BW11.out (Nat.le_succ _)⟩
      · exact (rd_new_setCells pQ R8_11.out hl1 _).mono (fun k hk => by have h1 : W0.heap.size ≤ k := hk; have h2 := HS0.out; omega)
      · exact (rd_new_setCells pR R9_11.out hl1 _).mono (fun k hk => by have h1 : W0.heap.size ≤ k := hk; have h2 := HS0.out; omega)
      · exact (rd_new_setCells pR R10_11.out hl1 _).mono (fun k hk => by have h1 : W0.heap.size ≤ k := hk; have h2 := HS0.out; omega)
      · exact (rd_new_setCells pR R11_11.out hl1 _).mono (fun k hk => by have h1 : W0.heap.size ≤ k := hk; have h2 := HS0.out; omega)
end Go.Proofs.Ytkbjbkmaokebgaa.Gz

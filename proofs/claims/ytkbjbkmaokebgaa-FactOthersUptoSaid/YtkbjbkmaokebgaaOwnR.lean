import Derived.Test.YtkbjbkmaokebgaaOwnD
import Derived.Test.YtkbjbkmaokebgaaZfill
set_option linter.unusedVariables false
set_option linter.unusedSimpArgs false
namespace Go.Proofs.Ytkbjbkmaokebgaa.Gz
open Go.RowKit Go.Proofs.YtkbjbkmaokebgaaW.PrintWords
open Ki
theorem after_box {wr w1 : World} {cs : Array Value} {T T2 : Nat} (hb : Below ((wr.alloc (.cells cs T)).alloc (.cells #[] T2)).heap.size ((wr.alloc (.cells cs T)).alloc (.cells #[] T2)) w1) :
    (∀ o, w1.cell? ⟨wr.heap.size, o, none⟩ = cs[o]?) ∧ (∀ o, w1.frozen? ⟨wr.heap.size, o, none⟩ = false) ∧ Below wr.heap.size wr w1 ∧ wr.heap.size + 2 ≤ w1.heap.size := by
  refine ⟨fun o => ?_, fun o => ?_, ?_, ?_⟩
  · rw [hb.cell (p := ⟨wr.heap.size, o, none⟩) (by simp; omega), cellA (by simp), cellN rfl]
  · rw [hb.frozen (p := ⟨wr.heap.size, o, none⟩) (by simp; omega), frozenA (by simp), frozenN rfl]
  · exact (below_alloc (below_alloc (Below.refl _ _) _) _).trans (hb.mono (by simp; omega))
  · have := hb.size; simpa using this
theorem off8 (n : Nat) (w1 : World) (v0 v1 v2 v3 v4 : Value) : Off n w1 (((((w1.setCell ⟨n, 4, none⟩ v0).setCell ⟨n, 5, none⟩ v1).setCell ⟨n, 6, none⟩ v2).setCell ⟨n, 7, none⟩ v3).setCell ⟨n, 8, none⟩ v4) :=
  Off.set (p := ⟨n, 8, none⟩) (Off.set (p := ⟨n, 7, none⟩) (Off.set (p := ⟨n, 6, none⟩) (Off.set (p := ⟨n, 5, none⟩) (Off.set (p := ⟨n, 4, none⟩) (Off.refl n w1) rfl v0) rfl v1) rfl v2) rfl v3) rfl v4
theorem set_same {w : World} {a : Addr} {u v : Value} (h : w.cell? a = some u) : (w.setCell a v).cell? a = some v := by apply World.cell?_setCell_same; exact h
theorem set_other {w : World} {a b : Addr} {v : Value} (h : a ≠ b) : (w.setCell a v).cell? b = w.cell? b := by apply World.cell?_setCell_other; exact h
theorem five {w : World} {B : Nat} {o4 o5 o6 o7 o8 u4 u5 u6 u7 u8 : Value} (h4 : w.cell? ⟨B, 4, none⟩ = some o4) (h5 : w.cell? ⟨B, 5, none⟩ = some o5) (h6 : w.cell? ⟨B, 6, none⟩ = some o6) (h7 : w.cell? ⟨B, 7, none⟩ = some o7) (h8 : w.cell? ⟨B, 8, none⟩ = some o8) :
    (∀ o, o < 4 → (((((w.setCell ⟨B, 4, none⟩ u4).setCell ⟨B, 5, none⟩ u5).setCell ⟨B, 6, none⟩ u6).setCell ⟨B, 7, none⟩ u7).setCell ⟨B, 8, none⟩ u8).cell? ⟨B, o, none⟩ = w.cell? ⟨B, o, none⟩) ∧
      (((((w.setCell ⟨B, 4, none⟩ u4).setCell ⟨B, 5, none⟩ u5).setCell ⟨B, 6, none⟩ u6).setCell ⟨B, 7, none⟩ u7).setCell ⟨B, 8, none⟩ u8).cell? ⟨B, 4, none⟩ = some u4 ∧ (((((w.setCell ⟨B, 4, none⟩ u4).setCell ⟨B, 5, none⟩ u5).setCell ⟨B, 6, none⟩ u6).setCell ⟨B, 7, none⟩ u7).setCell ⟨B, 8, none⟩ u8).cell? ⟨B, 5, none⟩ = some u5 ∧ (((((w.setCell ⟨B, 4, none⟩ u4).setCell ⟨B, 5, none⟩ u5).setCell ⟨B, 6, none⟩ u6).setCell ⟨B, 7, none⟩ u7).setCell ⟨B, 8, none⟩ u8).cell? ⟨B, 6, none⟩ = some u6 ∧
      (((((w.setCell ⟨B, 4, none⟩ u4).setCell ⟨B, 5, none⟩ u5).setCell ⟨B, 6, none⟩ u6).setCell ⟨B, 7, none⟩ u7).setCell ⟨B, 8, none⟩ u8).cell? ⟨B, 7, none⟩ = some u7 ∧ (((((w.setCell ⟨B, 4, none⟩ u4).setCell ⟨B, 5, none⟩ u5).setCell ⟨B, 6, none⟩ u6).setCell ⟨B, 7, none⟩ u7).setCell ⟨B, 8, none⟩ u8).cell? ⟨B, 8, none⟩ = some u8 := by
  have n : ∀ a b, a ≠ b → (⟨B, a, none⟩ : Addr) ≠ ⟨B, b, none⟩ := fun a b h => addr_ne h
  refine ⟨fun o ho => ?_, ?_, ?_, ?_, ?_, ?_⟩
  · rw [set_other (n 8 o (by omega)), set_other (n 7 o (by omega)), set_other (n 6 o (by omega)), set_other (n 5 o (by omega)), set_other (n 4 o (by omega))]
  · rw [set_other (n 8 4 (by decide)), set_other (n 7 4 (by decide)), set_other (n 6 4 (by decide)), set_other (n 5 4 (by decide))]
    exact set_same h4
  · rw [set_other (n 8 5 (by decide)), set_other (n 7 5 (by decide)), set_other (n 6 5 (by decide))]
    exact set_same ((set_other (n 4 5 (by decide))).trans h5)
  · rw [set_other (n 8 6 (by decide)), set_other (n 7 6 (by decide))]
    exact set_same ((set_other (n 5 6 (by decide))).trans ((set_other (n 4 6 (by decide))).trans h6))
  · rw [set_other (n 8 7 (by decide))]
    exact set_same ((set_other (n 6 7 (by decide))).trans ((set_other (n 5 7 (by decide))).trans ((set_other (n 4 7 (by decide))).trans h7)))
  · exact set_same ((set_other (n 7 8 (by decide))).trans ((set_other (n 6 8 (by decide))).trans ((set_other (n 5 8 (by decide))).trans ((set_other (n 4 8 (by decide))).trans h8))))
theorem frozenN_of {w : World} {cs : Array Value} {t b : Nat} (h : b = w.heap.size) (f : Nat) : (w.alloc (.cells cs t)).frozen? ⟨b, f, none⟩ = false := frozenN h
set_option maxHeartbeats 8000000 in
set_option maxRecDepth 100000 in
theorem ownr_calls (v : Value) (l : List RR) (w : World) (hr : kR.Rd w (fun _ => True) v l) :
    Calls Try.prog 43 #[v] w (fun e w' => ∃ v, e = .returned v ∧ kR.Own 44 w' w.heap.size (fun k => w.heap.size ≤ k) v l ∧ Below w.heap.size w w') := by
  have RR' := Aside0.mk hr
  have hmax := hr.max
  have hroom := Aside0.mk hr.room
  obtain ⟨Ar, cr, rfl, hlr, _⟩ := hr
  go_enter Try.func43, Try.ntmps43
  go_wp2_with fail
  go_loopg [3, 4] l.length (fun gg s3 s4 wr => ∃ k : Nat, k ≤ l.length ∧ l.length - k ≤ gg ∧ s4 = .int .i64 k ∧ Aside0 (Below w.heap.size w wr) ∧ Aside0 (kR.Own 44 wr w.heap.size (fun k => w.heap.size ≤ k) s3 (l.take k)))
  case atStart => exact ⟨0, Nat.zero_le _, by omega, rfl, ⟨Below.refl _ _⟩, ⟨Own.nil _ _ _ _ _⟩⟩
  case round =>
    obtain ⟨k, hk, hg, rfl, HB, HO⟩ := hrel
    by_cases hlt : k < l.length
    · obtain ⟨Ar', cr', he, _, hrow⟩ := RR'.out.below pR HB.out
      obtain ⟨rfl, rfl⟩ : Ar = Ar' ∧ cr = cr' := by injection he with h1 _ h3; exact ⟨h1, h3⟩
      obtain ⟨ad, vv, c4, c5, c6, c7, c8, rfl, hK, e0, e1, e2, e3, e4, e5, e6, e7, e8⟩ := cell_r hrow k hlt
      have HLT := Aside0.mk hlt
      have HRM : Aside0 (((l.take k).length + 1) * kR.bytes ≤ B47) := ⟨Nat.le_trans (Nat.mul_le_mul_right _ (by rw [List.length_take]; omega)) hroom.out⟩
      have HST : Aside0 (l.take (k + 1) = l.take k ++ [l[k]]) := ⟨List.take_succ_eq_append_getElem hlt⟩
      generalize hy : l[k] = r at hK e1 e2 e3 HST
      generalize l.take k = acc at HO HST HRM
      obtain ⟨A0, k0, A4, k4, A5, k5, A6, k6, A7, k7, A8, k8, rfl, rfl, rfl, rfl, rfl, rfl⟩ := kR_form hK
      have HK := Aside0.mk hK
      have hKn := hK
      obtain ⟨v0, cd0, hcs, hv0, ht1, ht2, ht3, hd0⟩ := hKn
      obtain ⟨rfl, _, _, _, rfl⟩ : Value.slice A0 r.name.length k0 = v0 ∧ _ ∧ _ ∧ _ ∧ _ = cd0 := by simpa only [List.cons.injEq] using hcs
      have HV := Aside0.mk hv0
      have HD := Aside0.mk hd0
      have HT := Aside0.mk (And.intro ht1 (And.intro ht2 ht3))
      clear hcs hv0 hd0 hy hK hrow he ht1 ht2 ht3
      obtain ⟨As, ks, rfl, _⟩ := HO.out.slice_
      have OB := Aside0.mk (fun (o1 o2 : Obj) => (HO.out.below (below_alloc (below_alloc (Below.refl wr.heap.size wr) o1) o2)))
      have HL : Aside0 (kS.Own 9 ((wr.alloc (.cells #[.slice A0 r.name.length k0, .int .i64 r.typ, .int .i64 r.cls, .int .i64 r.ttl, .slice A4 r.data.bytes.length k4, .slice A5 r.data.host.length k5, .slice A6 r.data.mail.length k6, .slice A7 r.data.nums.length k7, .slice A8 r.data.texts.length k8] 44)).alloc (.cells #[] 9)) (wr.heap.size + 1) (fun _ => True) (.slice (some ⟨wr.heap.size + 1, 0, none⟩) 0 0) []) := ⟨by
        have h := Own.lit0 kS 9 (wr.alloc (.cells #[.slice A0 r.name.length k0, .int .i64 r.typ, .int .i64 r.cls, .int .i64 r.ttl, .slice A4 r.data.bytes.length k4, .slice A5 r.data.host.length k5, .slice A6 r.data.mail.length k6, .slice A7 r.data.nums.length k7, .slice A8 r.data.texts.length k8] 44)) (wr.heap.size + 1) (fun _ => True) (by simp)
        simpa using h⟩
      have HV1 : Aside0 (kS.Rd ((wr.alloc (.cells #[.slice A0 r.name.length k0, .int .i64 r.typ, .int .i64 r.cls, .int .i64 r.ttl, .slice A4 r.data.bytes.length k4, .slice A5 r.data.host.length k5, .slice A6 r.data.mail.length k6, .slice A7 r.data.nums.length k7, .slice A8 r.data.texts.length k8] 44)).alloc (.cells #[] 9)) (fun _ => True) (.slice A0 r.name.length k0) r.name) := ⟨HV.out.below pS (below_alloc (below_alloc (Below.refl _ _) _) _)⟩
      go_wp2_with (at_builtin; refine Own.append_zero kS (wr.heap.size + 1) rfl (.tmp 16) (.tmp 18) 22 9 (.string ⟨#[]⟩) rfl Try.underlying22 info_s rfl (by decide) (by decide) _ _ r.name (fun _ => True) rfl rfl HL.out HV1.out (by simp only [World.size_alloc]; omega) HV1.out.room ?_; intro v1 w1 ho1 hb1; have HO1 := Aside0.mk ho1; have HB1 := Aside0.mk hb1; obtain ⟨An, kn, rfl, _⟩ := ho1.slice_; clear ho1; have HX := Aside0.mk (after_box hb1); clear hb1; have x0 := HX.out.1 0; have x4 := HX.out.1 4; have x5 := HX.out.1 5; have x6 := HX.out.1 6; have x7 := HX.out.1 7; have x8 := HX.out.1 8; have f0 := HX.out.2.1)
      have B2 : Aside0 (Below wr.heap.size wr (w1.setCell ⟨wr.heap.size, 0, none⟩ (.slice An r.name.length kn))) := ⟨HX.out.2.2.1.setCell (p := ⟨wr.heap.size, 0, none⟩) (Nat.le_refl _) _⟩
      have N2 : Aside0 (kS.Rd (w1.setCell ⟨wr.heap.size, 0, none⟩ (.slice An r.name.length kn)) (fun k => wr.heap.size + 1 ≤ k) (.slice An r.name.length kn) r.name) := ⟨rd_set pS ((strip_kS (ok' := fun _ => False) HO1.out).rd (fun _ h => h.elim) (fun _ h => h)) (fun k hk => by omega) 0 _⟩
      generalize hW2 : w1.setCell ⟨wr.heap.size, 0, none⟩ (.slice An r.name.length kn) = W2 at B2 N2
      have y0 : W2.cell? ⟨wr.heap.size, 0, none⟩ = some (.slice An r.name.length kn) := by rw [← hW2]; exact set_same x0
      have y1 : W2.cell? ⟨wr.heap.size, 1, none⟩ = some (.int .i64 r.typ) := by rw [← hW2, set_other (addr_ne (M := wr.heap.size) (a := 0) (b := 1) (by decide))]; exact HX.out.1 1
      have y2 : W2.cell? ⟨wr.heap.size, 2, none⟩ = some (.int .i64 r.cls) := by rw [← hW2, set_other (addr_ne (M := wr.heap.size) (a := 0) (b := 2) (by decide))]; exact HX.out.1 2
      have y3 : W2.cell? ⟨wr.heap.size, 3, none⟩ = some (.int .i64 r.ttl) := by rw [← hW2, set_other (addr_ne (M := wr.heap.size) (a := 0) (b := 3) (by decide))]; exact HX.out.1 3
      have y4 : W2.cell? ⟨wr.heap.size, 4, none⟩ = some (.slice A4 r.data.bytes.length k4) := by rw [← hW2, set_other (addr_ne (M := wr.heap.size) (a := 0) (b := 4) (by decide))]; exact HX.out.1 4
      have y5 : W2.cell? ⟨wr.heap.size, 5, none⟩ = some (.slice A5 r.data.host.length k5) := by rw [← hW2, set_other (addr_ne (M := wr.heap.size) (a := 0) (b := 5) (by decide))]; exact HX.out.1 5
      have y6 : W2.cell? ⟨wr.heap.size, 6, none⟩ = some (.slice A6 r.data.mail.length k6) := by rw [← hW2, set_other (addr_ne (M := wr.heap.size) (a := 0) (b := 6) (by decide))]; exact HX.out.1 6
      have y7 : W2.cell? ⟨wr.heap.size, 7, none⟩ = some (.slice A7 r.data.nums.length k7) := by rw [← hW2, set_other (addr_ne (M := wr.heap.size) (a := 0) (b := 7) (by decide))]; exact HX.out.1 7
      have y8 : W2.cell? ⟨wr.heap.size, 8, none⟩ = some (.slice A8 r.data.texts.length k8) := by rw [← hW2, set_other (addr_ne (M := wr.heap.size) (a := 0) (b := 8) (by decide))]; exact HX.out.1 8
      have g0 : ∀ o, W2.frozen? ⟨wr.heap.size, o, none⟩ = false := fun o => by rw [← hW2, World.frozen?_setCell]; exact f0 o
      have hz2 : wr.heap.size < W2.heap.size := by rw [← hW2, World.size_setCell]; have := HX.out.2.2.2; omega
      clear hW2 x0 x4 x5 x6 x7 x8 f0 e0 e1 e2 e3 e4 e5 e6 e7 e8
      refine (ownd_calls r.data _ W2 (K_below HD.out B2.out)).mono ?_
      rintro e w3 ⟨cs3, rfl, hk3, hb3⟩
      have HK3 := Aside0.mk hk3
      have HB3 := Aside0.mk hb3
      obtain ⟨A4', k4', A5', k5', A6', k6', A7', k7', A8', k8', rfl⟩ := kD_form hk3
      have z0 := (hb3.cell (p := ⟨wr.heap.size, 0, none⟩) hz2).trans y0
      have z1 := (hb3.cell (p := ⟨wr.heap.size, 1, none⟩) hz2).trans y1
      have z2 := (hb3.cell (p := ⟨wr.heap.size, 2, none⟩) hz2).trans y2
      have z3 := (hb3.cell (p := ⟨wr.heap.size, 3, none⟩) hz2).trans y3
      have z4 := (hb3.cell (p := ⟨wr.heap.size, 4, none⟩) hz2).trans y4
      have z5 := (hb3.cell (p := ⟨wr.heap.size, 5, none⟩) hz2).trans y5
      have z6 := (hb3.cell (p := ⟨wr.heap.size, 6, none⟩) hz2).trans y6
      have z7 := (hb3.cell (p := ⟨wr.heap.size, 7, none⟩) hz2).trans y7
      have z8 := (hb3.cell (p := ⟨wr.heap.size, 8, none⟩) hz2).trans y8
      have g4 := (hb3.frozen (p := ⟨wr.heap.size, 4, none⟩) hz2).trans (g0 4)
      have g5 := (hb3.frozen (p := ⟨wr.heap.size, 5, none⟩) hz2).trans (g0 5)
      have g6 := (hb3.frozen (p := ⟨wr.heap.size, 6, none⟩) hz2).trans (g0 6)
      have g7 := (hb3.frozen (p := ⟨wr.heap.size, 7, none⟩) hz2).trans (g0 7)
      have g8 := (hb3.frozen (p := ⟨wr.heap.size, 8, none⟩) hz2).trans (g0 8)
      clear hk3 hb3 g0 y0 y1 y2 y3 y4 y5 y6 y7 y8
      have B3 : Aside0 (Below wr.heap.size wr w3) := ⟨B2.out.trans (HB3.out.mono B2.out.size)⟩
      have B4 : Aside0 (∀ v0 v1 v2 v3 v4 : Value, Below wr.heap.size wr (((((w3.setCell ⟨wr.heap.size, 4, none⟩ v0).setCell ⟨wr.heap.size, 5, none⟩ v1).setCell ⟨wr.heap.size, 6, none⟩ v2).setCell ⟨wr.heap.size, 7, none⟩ v3).setCell ⟨wr.heap.size, 8, none⟩ v4)) := ⟨fun v0 v1 v2 v3 v4 => ((((B3.out.setCell (p := ⟨wr.heap.size, 4, none⟩) (Nat.le_refl wr.heap.size) v0).setCell (p := ⟨wr.heap.size, 5, none⟩) (Nat.le_refl wr.heap.size) v1).setCell (p := ⟨wr.heap.size, 6, none⟩) (Nat.le_refl wr.heap.size) v2).setCell (p := ⟨wr.heap.size, 7, none⟩) (Nat.le_refl wr.heap.size) v3).setCell (p := ⟨wr.heap.size, 8, none⟩) (Nat.le_refl wr.heap.size) v4⟩
      have N3 := Aside0.mk (N2.out.below pS HB3.out)
      have HP : Aside0 (kR.K (((((w3.setCell ⟨wr.heap.size, 4, none⟩ (.slice A4' r.data.bytes.length k4')).setCell ⟨wr.heap.size, 5, none⟩ (.slice A5' r.data.host.length k5')).setCell ⟨wr.heap.size, 6, none⟩ (.slice A6' r.data.mail.length k6')).setCell ⟨wr.heap.size, 7, none⟩ (.slice A7' r.data.nums.length k7')).setCell ⟨wr.heap.size, 8, none⟩ (.slice A8' r.data.texts.length k8')) (fun k => w.heap.size ≤ k ∧ some k ≠ (Value.slice As acc.length ks).ownBlock) r [.slice An r.name.length kn, .int .i64 r.typ, .int .i64 r.cls, .int .i64 r.ttl, .slice A4' r.data.bytes.length k4', .slice A5' r.data.host.length k5', .slice A6' r.data.mail.length k6', .slice A7' r.data.nums.length k7', .slice A8' r.data.texts.length k8']) := ⟨by
        have far : ∀ k, wr.heap.size + 1 ≤ k → w.heap.size ≤ k ∧ some k ≠ (Value.slice As acc.length ks).ownBlock := fun k hk => ⟨by have := HB.out.size; omega, fun he => by have := (HO.out.lt k he.symm).2; omega⟩
        refine ⟨_, _, rfl, (N3.out.step pS (fun k hk _ => off8 _ _ _ _ _ _ _ k (by omega))).mono far, HT.out.1, HT.out.2.1, HT.out.2.2, kD.mono (fun k hk => far k (by have := hz2; omega)) (kD.step (fun k hk _ => off8 _ _ _ _ _ _ _ k (by have := hz2; omega)) HK3.out)⟩⟩
      have OW4 := Aside0.mk (HO.out.below (B4.out (.slice A4' r.data.bytes.length k4') (.slice A5' r.data.host.length k5') (.slice A6' r.data.mail.length k6') (.slice A7' r.data.nums.length k7') (.slice A8' r.data.texts.length k8')))
      have BR4 := Aside0.mk (HB.out.trans ((B4.out (.slice A4' r.data.bytes.length k4') (.slice A5' r.data.host.length k5') (.slice A6' r.data.mail.length k6') (.slice A7' r.data.nums.length k7') (.slice A8' r.data.texts.length k8')).mono HB.out.size))
      have H5 := Aside0.mk (five z4 z5 z6 z7 z8 (u4 := .slice A4' r.data.bytes.length k4') (u5 := .slice A5' r.data.host.length k5') (u6 := .slice A6' r.data.mail.length k6') (u7 := .slice A7' r.data.nums.length k7') (u8 := .slice A8' r.data.texts.length k8'))
      go_upto_region 8 with (fail)
      generalize hW4 : (((((w3.setCell ⟨wr.heap.size, 4, none⟩ (.slice A4' r.data.bytes.length k4')).setCell ⟨wr.heap.size, 5, none⟩ (.slice A5' r.data.host.length k5')).setCell ⟨wr.heap.size, 6, none⟩ (.slice A6' r.data.mail.length k6')).setCell ⟨wr.heap.size, 7, none⟩ (.slice A7' r.data.nums.length k7')).setCell ⟨wr.heap.size, 8, none⟩ (.slice A8' r.data.texts.length k8')) = W4 at H5 HP OW4 BR4
      have t0 := (H5.out.1 0 (by decide)).trans z0
      have t1 := (H5.out.1 1 (by decide)).trans z1
      have t2 := (H5.out.1 2 (by decide)).trans z2
      have t3 := (H5.out.1 3 (by decide)).trans z3
      have t4 := H5.out.2.1
      have t5 := H5.out.2.2.1
      have t6 := H5.out.2.2.2.1
      have t7 := H5.out.2.2.2.2.1
      have t8 := H5.out.2.2.2.2.2
      clear hW4 z0 z1 z2 z3 z4 z5 z6 z7 z8 g4 g5 g6 g7 g8
      go_wp2_with (at_builtin; refine Own.append kR w.heap.size rfl (.tmp 25) (.tmp 27) 23 44 (.agg #[.slice none 0 0, .int .i64 0, .int .i64 0, .int .i64 0, .slice none 0 0, .slice none 0 0, .slice none 0 0, .slice none 0 0, .slice none 0 0]) rfl Try.underlying23 infoR0 rfl (by decide) (by decide) _ _ _ _ _ rfl rfl HP.out OW4.out BR4.out BR4.out.size HRM.out ?_; intro v4 w4 ho4 hb4 hg4 ha4)
      go_roundg (l.length - (k + 1))
      case measure => have := HLT.out; omega
      case rel =>
        refine ⟨k + 1, by have := HLT.out; omega, by omega, by go_num, ⟨hb4⟩, ?_⟩
        rw [HST.out]
        exact ⟨ho4⟩
    · have hka : k = l.length := by omega
      have HK := Aside0.mk hka
      clear hka
      go_wp2
      go_ret
      have ho := HO.out
      rw [HK.out, List.take_length] at ho
      exact ⟨_, rfl, ho, HB.out⟩
end Go.Proofs.Ytkbjbkmaokebgaa.Gz

import Derived.Test.YtkbjbkmaokebgaaZcut
set_option linter.unusedVariables false
set_option linter.unusedSimpArgs false
namespace Go.Proofs.Ytkbjbkmaokebgaa.Gz
open Go.RowKit Go.Proofs.YtkbjbkmaokebgaaW.PrintWords
open Ki

set_option maxHeartbeats 1000000 in
theorem refer1_calls (o : RR) (co : List Value) (B : Nat) (v : Value) (n : List ByteArray) (w : World) (ho : kR.K w (fun _ => True) o co)
    (hv : kS.Rd w (fun _ => True) v n) (hB : B < w.heap.size) (h0 : w.cell? ⟨B, 0, none⟩ = some v) :
    Calls Try.prog 110 #[.agg co.toArray, .pointer (some ⟨B, 0, none⟩)] w fun e w' => e = .returned (.bool (nEq o.data.host n)) ∧ Below w.heap.size w w' := by
  have KO := Aside0.mk ho
  have HV := Aside0.mk hv
  obtain ⟨vo, cd, rfl, hvo, _, _, _, hd⟩ := ho
  obtain ⟨d4, d5, d6, d7, d8, rfl, _, hd5, _⟩ := hd
  have HVO := Aside0.mk hvo
  have HDO := Aside0.mk hd5
  obtain ⟨Av, cv, rfl, _⟩ := hv
  clear hvo hd5
  generalize hW0 : w.alloc (.cells #[vo, .int .i64 o.typ, .int .i64 o.cls, .int .i64 o.ttl, d4, d5, d6, d7, d8] 44) = W0
  have BX : Aside0 (Below w.heap.size w W0) := ⟨by rw [← hW0]; exact below_alloc (Below.refl _ _) _⟩
  have HW0 := Aside0.mk hW0
  have hne : ¬ (B = w.heap.size) := by omega
  clear hW0
  go_enter Try.func110, Try.ntmps110
  go_wp2_with fail
  rw [HW0.out]
  refine (equal_calls _ _ o.data.host n _ (HDO.out.below pS BX.out) (HV.out.below pS BX.out)).mono ?_
  rintro e w1 ⟨rfl, hb1⟩
  have HB := Aside0.mk (BX.out.trans (hb1.mono BX.out.size))
  clear hb1
  go_wp2_with fail
  go_ret
  exact ⟨rfl, HB.out⟩
theorem pays_refer1 (B : Nat) (v : Value) (n : List ByteArray) (w : World) (xs : List RR) (hv : kS.Rd w (fun _ => True) v n) (hB : B < w.heap.size) (h0 : w.cell? ⟨B, 0, none⟩ = some v) :
    Pays kR valN 110 #[.pointer (some ⟨B, 0, none⟩)] w xs (fun o => nEq o.data.host n) := by
  intro W x cs hx hb hK
  exact refer1_calls x cs B v n W hK (hv.below pS hb) (Nat.lt_of_lt_of_le hB hb.size) ((hb.cell (p := ⟨B, 0, none⟩) hB).trans h0)

set_option maxHeartbeats 1000000 in
theorem there1_calls (o : RR) (co : List Value) (B : Nat) (v : Value) (n : List ByteArray) (w : World) (ho : kR.K w (fun _ => True) o co)
    (hv : kS.Rd w (fun _ => True) v n) (hB : B < w.heap.size) (h0 : w.cell? ⟨B, 0, none⟩ = some v) :
    Calls Try.prog 112 #[.agg co.toArray, .pointer (some ⟨B, 0, none⟩)] w fun e w' => e = .returned (.bool (nUnder o.name n)) ∧ Below w.heap.size w w' := by
  have KO := Aside0.mk ho
  have HV := Aside0.mk hv
  obtain ⟨vo, cd, rfl, hvo, _, _, _, hd⟩ := ho
  obtain ⟨d4, d5, d6, d7, d8, rfl, _, hd5, _⟩ := hd
  have HVO := Aside0.mk hvo
  have HDO := Aside0.mk hd5
  obtain ⟨Av, cv, rfl, _⟩ := hv
  clear hvo hd5
  generalize hW0 : w.alloc (.cells #[vo, .int .i64 o.typ, .int .i64 o.cls, .int .i64 o.ttl, d4, d5, d6, d7, d8] 44) = W0
  have BX : Aside0 (Below w.heap.size w W0) := ⟨by rw [← hW0]; exact below_alloc (Below.refl _ _) _⟩
  have HW0 := Aside0.mk hW0
  have hne : ¬ (B = w.heap.size) := by omega
  clear hW0
  go_enter Try.func112, Try.ntmps112
  go_wp2_with fail
  rw [HW0.out]
  refine (under_calls _ _ o.name n _ (HVO.out.below pS BX.out) (HV.out.below pS BX.out)).mono ?_
  rintro e w1 ⟨rfl, hb1⟩
  have HB := Aside0.mk (BX.out.trans (hb1.mono BX.out.size))
  clear hb1
  go_wp2_with fail
  go_ret
  exact ⟨rfl, HB.out⟩
theorem pays_there1 (B : Nat) (v : Value) (n : List ByteArray) (w : World) (xs : List RR) (hv : kS.Rd w (fun _ => True) v n) (hB : B < w.heap.size) (h0 : w.cell? ⟨B, 0, none⟩ = some v) :
    Pays kR valN 112 #[.pointer (some ⟨B, 0, none⟩)] w xs (fun o => nUnder o.name n) := by
  intro W x cs hx hb hK
  exact there1_calls x cs B v n W hK (hv.below pS hb) (Nat.lt_of_lt_of_le hB hb.size) ((hb.cell (p := ⟨B, 0, none⟩) hB).trans h0)

theorem fill1_calls (u : Value) (s : List ByteArray) (B : Nat) (v : Value) (n : List ByteArray) (w : World) (hu : kS.Rd w (fun _ => True) u s)
    (hv : kS.Rd w (fun _ => True) v n) (h0 : w.cell? ⟨B, 0, none⟩ = some v) :
    Calls Try.prog 82 #[u, .pointer (some ⟨B, 0, none⟩)] w fun e w' => e = .returned (.bool (nEq s n)) ∧ Below w.heap.size w w' := by
  have HU := Aside0.mk hu
  have HV := Aside0.mk hv
  obtain ⟨Av, cv, rfl, _⟩ := hv
  obtain ⟨Au, cu, rfl, _⟩ := hu
  go_enter Try.func82, Try.ntmps82
  go_wp2_with fail
  refine (equal_calls _ _ s n _ HU.out HV.out).mono ?_
  rintro e w1 ⟨rfl, hb1⟩
  have HB := Aside0.mk hb1
  clear hb1
  go_wp2_with fail
  go_ret
  exact ⟨rfl, HB.out⟩
theorem pays_fill1 (B : Nat) (v : Value) (n : List ByteArray) (w : World) (xs : List (List ByteArray)) (hv : kS.Rd w (fun _ => True) v n) (hB : B < w.heap.size) (h0 : w.cell? ⟨B, 0, none⟩ = some v) :
    Pays (kL kS pS) val1 82 #[.pointer (some ⟨B, 0, none⟩)] w xs (fun s => nEq s n) := by
  intro W x cs hx hb hK
  obtain ⟨u, rfl, hu⟩ := hK
  exact fill1_calls u x B v n W hu (hv.below pS hb) ((hb.cell (p := ⟨B, 0, none⟩) hB).trans h0)
set_option maxHeartbeats 2000000 in
theorem zthere_calls (z : Zone) (cz : List Value) (v : Value) (n : List ByteArray) (b : Bool) (w : World) (hz : kZ.K w (fun _ => True) z cz) (hv : kS.Rd w (fun _ => True) v n)
    (hq : (z.recs.any fun r => nUnder r.name n) = b) :
    Calls Try.prog 80 #[.agg cz.toArray, v] w fun e w' => e = .returned (.bool b) ∧ Below w.heap.size w w' := by
  have HQ := Aside0.mk hq
  have HV := Aside0.mk hv
  clear hq
  obtain ⟨vn, vr, rfl, hn, hr⟩ := hz
  have HR := Aside0.mk hr
  obtain ⟨An, cn, rfl, hln, _⟩ := hn
  obtain ⟨Ar, cr, rfl, hlr, _⟩ := hr
  obtain ⟨Av, cv, rfl, _⟩ := hv
  generalize hW0 : (w.alloc (.cells #[.slice An z.name.length cn, .slice Ar z.recs.length cr] 25)).alloc (.cells #[.slice Av n.length cv] 22) = W0
  have BX : Aside0 (Below w.heap.size w W0) := ⟨by rw [← hW0]; exact below_alloc (below_alloc (Below.refl _ _) _) _⟩
  have hs0 : W0.heap.size = w.heap.size + 2 := by rw [← hW0]; simp
  have y0 : W0.cell? ⟨w.heap.size, 0, none⟩ = some (.slice An z.name.length cn) := by rw [← hW0]; simp
  have y1 : W0.cell? ⟨w.heap.size, 1, none⟩ = some (.slice Ar z.recs.length cr) := by rw [← hW0]; simp
  have y2 : W0.cell? ⟨w.heap.size + 1, 0, none⟩ = some (.slice Av n.length cv) := by rw [← hW0]; simp
  have HW0 := Aside0.mk hW0
  have HP := Aside0.mk (pays_there1 (w.heap.size + 1) _ n W0 z.recs (HV.out.below pS BX.out) (by omega) y2)
  have eg : ∀ args w, (callFunc 112 args).run Try.prog w = .ok (.enter 112 args) w := enters Try.func112 (by kernel_rfl) rfl
  clear hW0 hs0
  go_enter Try.func80, Try.ntmps80
  go_wp2_with fail
  rw [HW0.out]
  go_wp2_with fail
  refine (contains_r_v b _ _ _ (HR.out.below pR BX.out) _ _ _ eg HP.out HQ.out).mono ?_
  rintro e w1 ⟨rfl, hb1⟩
  have HB := Aside0.mk (BX.out.trans (hb1.mono BX.out.size))
  clear hb1
  go_wp2_with fail
  go_ret
  exact ⟨rfl, HB.out⟩
end Go.Proofs.Ytkbjbkmaokebgaa.Gz

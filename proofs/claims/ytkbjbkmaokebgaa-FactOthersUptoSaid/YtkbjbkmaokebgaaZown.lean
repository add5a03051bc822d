import Derived.Test.YtkbjbkmaokebgaaOwn
import Derived.Deep.RegionLaw
set_option linter.unusedVariables false
set_option linter.unusedSimpArgs false
namespace Go.Proofs.Ytkbjbkmaokebgaa.Gz
open Go.RowKit Go.Proofs.YtkbjbkmaokebgaaW.PrintWords
open Ki
/-- All from m on is as it was. -/
def Far (m : Nat) (w w' : World) : Prop := ∀ k, m ≤ k → w'.heap[k]? = w.heap[k]?
theorem Far.get {m : Nat} {w w' : World} (h : Far m w w') (k : Nat) (hk : m ≤ k) : w'.heap[k]? = w.heap[k]? := h k hk
theorem Far.refl (m : Nat) (w : World) : Far m w w := fun _ _ => rfl
theorem Far.set {m : Nat} {w w' : World} (h : Far m w w') {p : Addr} (hp : p.block < m) (v : Value) : Far m w (w'.setCell p v) := fun k hk => by
  rw [Below.heap_setCell w' p v k (by omega)]; exact h k hk
theorem bat {n : Nat} {W w1 : World} (hb : Below n W w1) : (∀ b o, b < n → w1.cell? ⟨b, o, none⟩ = W.cell? ⟨b, o, none⟩) ∧ (∀ b o, b < n → w1.frozen? ⟨b, o, none⟩ = W.frozen? ⟨b, o, none⟩) :=
  ⟨fun b o h => hb.cell (p := ⟨b, o, none⟩) h, fun b o h => hb.frozen (p := ⟨b, o, none⟩) h⟩
theorem kD_form {w : World} {ok : Nat → Prop} {d : Dat} {cs : List Value} (h : kD.K w ok d cs) :
    ∃ A4 k4 A5 k5 A6 k6 A7 k7 A8 k8, cs = [.slice A4 d.bytes.length k4, .slice A5 d.host.length k5, .slice A6 d.mail.length k6, .slice A7 d.nums.length k7, .slice A8 d.texts.length k8] := by
  obtain ⟨d4, d5, d6, d7, d8, rfl, h4, h5, h6, h7, h8⟩ := h
  obtain ⟨A4, k4, rfl, _⟩ := h4
  obtain ⟨A5, k5, rfl, _⟩ := h5
  obtain ⟨A6, k6, rfl, _⟩ := h6
  obtain ⟨A7, k7, rfl, _⟩ := h7
  obtain ⟨A8, k8, rfl, _⟩ := h8
  exact ⟨_, _, _, _, _, _, _, _, _, _, rfl⟩
set_option maxHeartbeats 4000000 in
set_option maxRecDepth 100000 in
theorem zown_calls (r : RR) (cs : List Value) (w : World) (h : kR.K w (fun _ => True) r cs) :
    Calls Try.prog 111 #[.agg cs.toArray] w (GivesK kR w r) := by
  obtain ⟨vn, cd, rfl, hn, ht, hc, hl, hd⟩ := h
  have hk := hd
  obtain ⟨v4, v5, v6, v7, v8, rfl, h4, h5, h6, h7, h8⟩ := hk
  generalize hW0 : (w.alloc (.cells #[vn, .int .i64 r.typ, .int .i64 r.cls, .int .i64 r.ttl, v4, v5, v6, v7, v8] 44)).alloc (.cells #[.slice none 0 0, .int .i64 0, .int .i64 0, .int .i64 0, .slice none 0 0, .slice none 0 0, .slice none 0 0, .slice none 0 0, .slice none 0 0] 44) = W0
  have hx : Below w.heap.size w W0 := by rw [← hW0]; exact below_alloc (below_alloc (Below.refl _ _) _) _
  have HW0 := Aside0.mk hW0
  have BX := Aside0.mk hx
  have s1 : w.heap.size < W0.heap.size := by rw [← hW0]; simp; omega
  have s3 : w.heap.size + 2 ≤ W0.heap.size := by rw [← hW0]; simp
  have x0 : W0.cell? ⟨w.heap.size, 0, none⟩ = some vn := by rw [← hW0]; simp
  have x1 : W0.cell? ⟨w.heap.size, 1, none⟩ = some (.int .i64 r.typ) := by rw [← hW0]; simp
  have x2 : W0.cell? ⟨w.heap.size, 2, none⟩ = some (.int .i64 r.cls) := by rw [← hW0]; simp
  have x3 : W0.cell? ⟨w.heap.size, 3, none⟩ = some (.int .i64 r.ttl) := by rw [← hW0]; simp
  have x4 : W0.cell? ⟨w.heap.size, 4, none⟩ = some v4 := by rw [← hW0]; simp
  have x5 : W0.cell? ⟨w.heap.size, 5, none⟩ = some v5 := by rw [← hW0]; simp
  have x6 : W0.cell? ⟨w.heap.size, 6, none⟩ = some v6 := by rw [← hW0]; simp
  have x7 : W0.cell? ⟨w.heap.size, 7, none⟩ = some v7 := by rw [← hW0]; simp
  have x8 : W0.cell? ⟨w.heap.size, 8, none⟩ = some v8 := by rw [← hW0]; simp
  have y0 : W0.cell? ⟨w.heap.size + 1, 0, none⟩ = some (.slice none 0 0) := by rw [← hW0]; simp
  have y1 : W0.cell? ⟨w.heap.size + 1, 1, none⟩ = some (.int .i64 0) := by rw [← hW0]; simp
  have y2 : W0.cell? ⟨w.heap.size + 1, 2, none⟩ = some (.int .i64 0) := by rw [← hW0]; simp
  have y3 : W0.cell? ⟨w.heap.size + 1, 3, none⟩ = some (.int .i64 0) := by rw [← hW0]; simp
  have y4 : W0.cell? ⟨w.heap.size + 1, 4, none⟩ = some (.slice none 0 0) := by rw [← hW0]; simp
  have y5 : W0.cell? ⟨w.heap.size + 1, 5, none⟩ = some (.slice none 0 0) := by rw [← hW0]; simp
  have y6 : W0.cell? ⟨w.heap.size + 1, 6, none⟩ = some (.slice none 0 0) := by rw [← hW0]; simp
  have y7 : W0.cell? ⟨w.heap.size + 1, 7, none⟩ = some (.slice none 0 0) := by rw [← hW0]; simp
  have y8 : W0.cell? ⟨w.heap.size + 1, 8, none⟩ = some (.slice none 0 0) := by rw [← hW0]; simp
  have s2 : w.heap.size + 1 < W0.heap.size := by rw [← hW0]; simp
  have z00 : W0.frozen? ⟨w.heap.size, 0, none⟩ = false := by rw [← hW0]; simp
  have z01 : W0.frozen? ⟨w.heap.size, 1, none⟩ = false := by rw [← hW0]; simp
  have z02 : W0.frozen? ⟨w.heap.size, 2, none⟩ = false := by rw [← hW0]; simp
  have z03 : W0.frozen? ⟨w.heap.size, 3, none⟩ = false := by rw [← hW0]; simp
  have z04 : W0.frozen? ⟨w.heap.size, 4, none⟩ = false := by rw [← hW0]; simp
  have z05 : W0.frozen? ⟨w.heap.size, 5, none⟩ = false := by rw [← hW0]; simp
  have z06 : W0.frozen? ⟨w.heap.size, 6, none⟩ = false := by rw [← hW0]; simp
  have z07 : W0.frozen? ⟨w.heap.size, 7, none⟩ = false := by rw [← hW0]; simp
  have z08 : W0.frozen? ⟨w.heap.size, 8, none⟩ = false := by rw [← hW0]; simp
  have z10 : W0.frozen? ⟨w.heap.size + 1, 0, none⟩ = false := by rw [← hW0]; simp
  have z11 : W0.frozen? ⟨w.heap.size + 1, 1, none⟩ = false := by rw [← hW0]; simp
  have z12 : W0.frozen? ⟨w.heap.size + 1, 2, none⟩ = false := by rw [← hW0]; simp
  have z13 : W0.frozen? ⟨w.heap.size + 1, 3, none⟩ = false := by rw [← hW0]; simp
  have z14 : W0.frozen? ⟨w.heap.size + 1, 4, none⟩ = false := by rw [← hW0]; simp
  have z15 : W0.frozen? ⟨w.heap.size + 1, 5, none⟩ = false := by rw [← hW0]; simp
  have z16 : W0.frozen? ⟨w.heap.size + 1, 6, none⟩ = false := by rw [← hW0]; simp
  have z17 : W0.frozen? ⟨w.heap.size + 1, 7, none⟩ = false := by rw [← hW0]; simp
  have z18 : W0.frozen? ⟨w.heap.size + 1, 8, none⟩ = false := by rw [← hW0]; simp
  clear hW0 hx
  have c1 := Aside0.mk (fun W (hB : Below W0.heap.size W0 W) => Aside0.mk (clone_s vn r.name W (hn.below pS (BX.out.trans (hB.mono BX.out.size)))))
  have c2 := Aside0.mk (fun W (hB : Below W0.heap.size W0 W) => Aside0.mk (rrown_calls r.data _ W (K_below hd (BX.out.trans (hB.mono BX.out.size)))))
  obtain ⟨An, cn, rfl, _, _⟩ := hn
  obtain ⟨A4, k4, rfl, _, _⟩ := h4
  obtain ⟨A5, k5, rfl, _, _⟩ := h5
  obtain ⟨A6, k6, rfl, _, _⟩ := h6
  obtain ⟨A7, k7, rfl, _, _⟩ := h7
  obtain ⟨A8, k8, rfl, _, _⟩ := h8
  go_enter Try.func111, Try.ntmps111
  go_wp2
  rw [HW0.out]
  go_region_law (first
    | (go_simp; go_at_call 38; refine (c1.out _ (Below.refl _ _).drew).out.mono ?_; rintro e wa ⟨v1, rfl, ho1, hba⟩; obtain ⟨Ax, cx, rfl, _⟩ := ho1.slice_; have hba2 := below_next (Below.refl W0.heap.size W0).drew (Nat.le_refl _) hba; obtain ⟨bca, bfa⟩ := bat hba2; go_simp)
    | (go_simp; go_at_call 128; refine (c2.out _ (below_next (Below.refl _ _).drew (Nat.le_refl _) hba)).out.mono ?_; rintro e w1 ⟨cd1, rfl, hk1, hb1⟩; obtain ⟨A4', k4', A5', k5', A6', k6', A7', k7', A8', k8', rfl⟩ := kD_form hk1; have hb2 := below_next hba2 (Nat.le_refl _) hb1; obtain ⟨bc1, bf1⟩ := bat hb2; clear bca bfa; go_simp))
  all_goals go_wp2
  all_goals (try simp only [Exit.inBlock, Exit.then])
  all_goals have f1 : ∀ k, W0.drew.heap.size ≤ k → w.heap.size + 2 ≤ k := fun k hk => Nat.le_trans s3 hk
  all_goals have f2 : ∀ k, wa.heap.size ≤ k → w.heap.size + 2 ≤ k := fun k hk => Nat.le_trans (Nat.le_trans s3 hba2.size) hk
  all_goals have r1 := (ho1.rd (ok' := fun k => w.heap.size + 2 ≤ k) (fun _ h => h.elim) f1).below pS hb1
  all_goals have r2 := kD.mono (ok' := fun k => w.heap.size + 2 ≤ k) f2 hk1
  all_goals have g2 : ∀ k, w.heap.size + 2 ≤ k → w.heap.size ≤ k := fun k hk => by omega
  all_goals refine bodyPost_ret (v := .agg [.slice Ax r.name.length cx, .int .i64 r.typ, .int .i64 r.cls, .int .i64 r.ttl, .slice A4' r.data.bytes.length k4', .slice A5' r.data.host.length k5', .slice A6' r.data.mail.length k6', .slice A7' r.data.nums.length k7', .slice A8' r.data.texts.length k8'].toArray) (by rw [results_cell rfl]; go_simp) rfl ⟨_, rfl, ⟨_, _, rfl, (r1.step pS ?_).mono g2, ht, hc, hl, kD.mono g2 (kD.step ?_ r2)⟩, ?_⟩
  all_goals first
    | (show Below _ _ _
       repeat refine Below.setCell ?_ (by first | exact Nat.le_refl _ | exact Nat.le_succ _) _
       exact BX.out.trans (hb2.mono (Nat.le_of_lt s1)))
    | (refine fun k hk _ => Far.get ?_ k hk
       repeat refine Far.set ?_ (by first | exact Nat.lt_succ_self _ | exact Nat.lt_succ_of_lt (Nat.lt_succ_self _)) _
       exact Far.refl _ _)
end Go.Proofs.Ytkbjbkmaokebgaa.Gz

import Derived.Test.YtkbjbkmaokebgaaLaw17a
set_option linter.unusedVariables false
set_option linter.unusedSimpArgs false
namespace Go.Proofs.Ytkbjbkmaokebgaa.Gz
open Go.RowKit Go.Proofs.YtkbjbkmaokebgaaW.PrintWords
open Ki
/-- A call answers some bool. -/
def SomeB (w : World) (e : Ending) (w' : World) : Prop := ∃ b : Bool, e = .returned (.bool b) ∧ Below w.heap.size w w'
theorem there_new (w : World) (cs : Array Value) (t : Nat) : (w.alloc (.cells cs t)).there w.heap.size 0 cs.size := fun j hj => by
  rw [Nat.zero_add, cellN rfl, frozenN rfl, Array.getElem?_eq_getElem hj]
  exact ⟨rfl, rfl⟩
theorem none_may (q : Qn) : zmay ⟨[], []⟩ q = false := by unfold zmay zSound; simp
set_option maxHeartbeats 4000000 in
set_option maxRecDepth 100000 in
theorem answers_calls (w : World) :
    Calls Try.prog 11 #[] w fun e w' => e = .returned (.bool true) ∧ Below w.heap.size w w' := by
  have HC := Aside0.mk (zans_calls ⟨[], []⟩ [.slice none 0 0, .slice none 0 0] ⟨[], 1, 1⟩ [.slice none 0 0, .int .i64 1, .int .i64 1] w ⟨_, _, rfl, Rd.nil _ _ _, Rd.nil _ _ _⟩ ⟨_, rfl, Rd.nil _ _ _, by unfold R64; exact ⟨by decide, by decide⟩, by unfold R64; exact ⟨by decide, by decide⟩⟩)
  go_enter Try.func11, Try.ntmps11
  go_wp2_with fail
  refine HC.out.mono ?_
  rintro e w1 ⟨m, hm, cs, rfl, hk, hb⟩
  unfold Answers at hm
  rw [if_neg (by rw [none_may]; simp)] at hm
  subst hm
  obtain ⟨v1, v2, v3, v4, rfl, _, _, _, h1, h2, h3, h4, _⟩ := hk
  obtain ⟨A1, k1, rfl, _⟩ := h1
  obtain ⟨A2, k2, rfl, _⟩ := h2
  obtain ⟨A3, k3, rfl, _⟩ := h3
  obtain ⟨A4, k4, rfl, _⟩ := h4
  have HB := Aside0.mk hb
  clear hb
  go_wp2_with fail
  go_ret
  exact ⟨rfl, HB.out.trans ((below_alloc (Below.refl _ _) _).mono HB.out.size)⟩
set_option maxHeartbeats 8000000 in
set_option maxRecDepth 100000 in
theorem light_calls (z : Zone) (cz : List Value) (w : World) (hz : kZ.K w (fun _ => True) z cz) :
    Calls Try.prog 12 #[.agg cz.toArray] w (SomeB w) := by
  obtain ⟨vn, vr, rfl, hn, hr⟩ := hz
  have RR' := Aside0.mk hr
  have hmax := hr.max
  obtain ⟨An, cn, rfl, hln, _⟩ := hn
  obtain ⟨Ar, cr, rfl, hlr, _⟩ := hr
  generalize hW0 : w.alloc (.cells #[.slice An z.name.length cn, .slice Ar z.recs.length cr] 25) = W0
  have BX : Aside0 (Below w.heap.size w W0) := ⟨by rw [← hW0]; exact below_alloc (Below.refl _ _) _⟩
  have hs0 : W0.heap.size = w.heap.size + 1 := by rw [← hW0]; simp
  have z0 : Aside0 (W0.cell? ⟨w.heap.size, 0, none⟩ = some (.slice An z.name.length cn) ∧ W0.cell? ⟨w.heap.size, 1, none⟩ = some (.slice Ar z.recs.length cr)) := ⟨by rw [← hW0]; simp, by rw [← hW0]; simp⟩
  have HW0 := Aside0.mk hW0
  have HS0 := Aside0.mk hs0
  clear hW0 hs0
  go_enter Try.func12, Try.ntmps12
  go_wp2_with fail
  rw [HW0.out]
  go_loopg [3] z.recs.length (fun gg s3 wr => ∃ k : Nat, k ≤ z.recs.length ∧ z.recs.length - k ≤ gg ∧ s3 = .int .i64 k ∧ Aside0 (Below W0.heap.size W0 wr))
  case atStart => exact ⟨0, Nat.zero_le _, by omega, rfl, ⟨Below.refl _ _⟩⟩
  case round =>
    obtain ⟨k, hk, hg, rfl, HB⟩ := hrel
    have y0 := (HB.out.cell (p := ⟨w.heap.size, 0, none⟩) (by rw [HS0.out]; simp)).trans z0.out.1
    have y1 := (HB.out.cell (p := ⟨w.heap.size, 1, none⟩) (by rw [HS0.out]; simp)).trans z0.out.2
    have hszr : w.heap.size < wr.heap.size := by have := HB.out.size; rw [HS0.out] at this; omega
    have hbw := Aside0.mk (BX.out.trans (HB.out.mono BX.out.size))
    by_cases hlt : k < z.recs.length
    · obtain ⟨Ar', cr', he, _, hrow⟩ := RR'.out.below pR hbw.out
      obtain ⟨rfl, rfl⟩ : Ar = Ar' ∧ cr = cr' := by injection he with h1 _ h3; exact ⟨h1, h3⟩
      obtain ⟨ad, vv, c4, c5, c6, c7, c8, rfl, hK, e0, e1, e2, e3, e4, e5, e6, e7, e8⟩ := cell_r hrow k hlt
      generalize hy : z.recs[k] = r at hK e1 e2 e3
      obtain ⟨A0, k0, A4, k4, A5, k5, A6, k6, A7, k7, A8, k8, rfl, rfl, rfl, rfl, rfl, rfl⟩ := kR_form hK
      clear hy hK hrow he e1 e2 e3
      have hblk : (ad.add (k * 9)).block < wr.heap.size := World.block_lt_of_cell? wr _ e0
      have BD : Aside0 (∀ o, Below W0.heap.size W0 (wr.alloc o)) := ⟨fun o => HB.out.trans ((below_alloc (Below.refl wr.heap.size wr) o).mono HB.out.size)⟩
      have BE : Aside0 (∀ o, Below w.heap.size w (wr.alloc o)) := ⟨fun o => hbw.out.trans ((below_alloc (Below.refl wr.heap.size wr) o).mono hbw.out.size)⟩
      by_cases b0 : 130 < r.name.length
      · go_wp2_with fail
        go_ret
        exact ⟨_, rfl, BE.out _⟩
      by_cases b1 : 500 < r.data.bytes.length
      · go_wp2_with fail
        go_ret
        exact ⟨_, rfl, BE.out _⟩
      by_cases b2 : 130 < r.data.host.length
      · go_wp2_with fail
        go_ret
        exact ⟨_, rfl, BE.out _⟩
      by_cases b3 : 130 < r.data.mail.length
      · go_wp2_with fail
        go_ret
        exact ⟨_, rfl, BE.out _⟩
      by_cases b4 : 70 < r.data.texts.length
      · go_wp2_with fail
        go_ret
        exact ⟨_, rfl, BE.out _⟩
      by_cases b5 : 70 < r.data.nums.length
      · go_wp2_with fail
        go_ret
        exact ⟨_, rfl, BE.out _⟩
      go_wp2_with fail
      go_roundg (z.recs.length - (k + 1))
      case measure => omega
      case rel => exact ⟨k + 1, by omega, by omega, by go_num, ⟨BD.out _⟩⟩
    · by_cases b0 : z.name.length ≤ 130
      all_goals by_cases b1 : z.recs.length ≤ 100
      all_goals go_wp2_with fail
      all_goals go_ret
      all_goals exact ⟨_, rfl, hbw.out⟩
end Go.Proofs.Ytkbjbkmaokebgaa.Gz

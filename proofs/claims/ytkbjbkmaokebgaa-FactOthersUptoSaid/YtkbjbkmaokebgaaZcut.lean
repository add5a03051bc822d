import Derived.Test.YtkbjbkmaokebgaaZof
set_option linter.unusedVariables false
set_option linter.unusedSimpArgs false
namespace Go.Proofs.Ytkbjbkmaokebgaa.Gz
open Go.RowKit Go.Proofs.YtkbjbkmaokebgaaW.PrintWords
open Ki
/-- The first cut among the first m ends of a name, the shortest end first. -/
def zcutG (l : List RR) (n : List ByteArray) : Nat → Option (List ByteArray)
  | 0 => none
  | m + 1 => if 0 < (zof l (n.drop m) 2).length then some (n.drop m) else zcutG l n m
/-- The topmost cut at or above a name. -/
def zcut (z : Zone) (n : List ByteArray) : Option (List ByteArray) := zcutG z.recs n (n.length - z.name.length)
theorem zcutI (l : List RR) (n : List ByteArray) (i : Int) (h : 0 ≤ i) : zcutG l n (i + 1).toNat = if 0 < (zof l (n.drop i.toNat) 2).length then some (n.drop i.toNat) else zcutG l n i.toNat := by
  rw [show (i + 1).toNat = i.toNat + 1 from by omega]; rfl
/-- A cut, or that there is none. -/
def GivesCut (w : World) (ok : Nat → Prop) (o : Option (List ByteArray)) (e : Ending) (w' : World) : Prop :=
  Below w.heap.size w w' ∧ match o with
    | none => e = .returned (.tuple #[.slice none 0 0, .bool false])
    | some c => ∃ v, e = .returned (.tuple #[v, .bool true]) ∧ kS.Rd w' ok v c
theorem keep3 {w0 w w1 : World} (hb : Below w.heap.size w w1) {a b : Addr} {x y : Value} (h : Below w0.heap.size w0 w ∧ w.cell? a = some x ∧ w.cell? b = some y) : Below w0.heap.size w0 w1 ∧ w1.cell? a = some x ∧ w1.cell? b = some y :=
  ⟨h.1.trans (hb.mono h.1.size), pw_cell_below hb h.2.1, pw_cell_below hb h.2.2⟩
set_option maxHeartbeats 4000000 in
set_option maxRecDepth 100000 in
theorem zcut_calls (z : Zone) (cz : List Value) (v : Value) (n : List ByteArray) (ok : Nat → Prop) (w : World) (hz : kZ.K w (fun _ => True) z cz) (hv : kS.Rd w ok v n) :
    Calls Try.prog 77 #[.agg cz.toArray, v] w (GivesCut w ok (zcut z n)) := by
  have HZ := Aside0.mk hz
  have HV := Aside0.mk hv
  have hmn := hv.max
  obtain ⟨vn, vr, rfl, hn, hr⟩ := hz
  have hmz := hn.max
  obtain ⟨An, cn, rfl, hln, _⟩ := hn
  obtain ⟨Ar, cr, rfl, hlr, _⟩ := hr
  obtain ⟨Av, cv, rfl, hlv, _⟩ := hv
  generalize hW0 : w.alloc (.cells #[.slice An z.name.length cn, .slice Ar z.recs.length cr] 25) = W0
  have BX : Aside0 (Below w.heap.size w W0) := ⟨by rw [← hW0]; exact below_alloc (Below.refl _ _) _⟩
  have hs0 : W0.heap.size = w.heap.size + 1 := by rw [← hW0]; simp
  have y0 : W0.cell? ⟨w.heap.size, 0, none⟩ = some (.slice An z.name.length cn) := by rw [← hW0]; simp
  have y1 : W0.cell? ⟨w.heap.size, 1, none⟩ = some (.slice Ar z.recs.length cr) := by rw [← hW0]; simp
  have z0 := Aside0.mk (And.intro y0 y1)
  have HW0 := Aside0.mk hW0
  have HS0 := Aside0.mk hs0
  clear hW0 hs0
  have HC := Aside0.mk (fun (W : World) (hB : Below W0.heap.size W0 W) (x : Value) (c : List ByteArray) (hx : kS.Rd w ok x c) =>
    Aside0.mk (zof_calls z _ x c 2 W (K_below HZ.out (BX.out.trans (hB.mono BX.out.size))) ((hx.any).below pS (BX.out.trans (hB.mono BX.out.size)))))
  go_enter Try.func77, Try.ntmps77
  go_wp2_with fail
  rw [HW0.out]
  go_wp2_with fail
  go_loopg [6] (n.length + 1) (fun gg s6 wr => ∃ i : Int, i < n.length ∧ -9223372036854775808 ≤ i ∧ (i + 1).toNat ≤ gg ∧ s6 = .int .i64 i ∧ Aside0 (Below W0.heap.size W0 wr) ∧ Aside0 (zcut z n = zcutG z.recs n (i + 1).toNat))
  case atStart => exact ⟨(n.length : Int) - (z.name.length : Int) - 1, by omega, by omega, by omega, by go_num, ⟨Below.refl _ _⟩, ⟨by unfold zcut; congr 1; omega⟩⟩
  case round =>
    obtain ⟨i, hi, hi2, hg, rfl, HB, HA⟩ := hrel
    clear y0 y1
    have y0 := (HB.out.cell (p := ⟨w.heap.size, 0, none⟩) (by rw [HS0.out]; simp)).trans z0.out.1
    have y1 := (HB.out.cell (p := ⟨w.heap.size, 1, none⟩) (by rw [HS0.out]; simp)).trans z0.out.2
    by_cases hi0 : 0 ≤ i
    · obtain ⟨vc, hsl, hslR⟩ := tail_run Av cv n i hi0 (by omega) hlv
      have HR := Aside0.mk (hslR _ _ HV.out)
      clear hslR
      have HI := Aside0.mk (zcutI z.recs n i hi0)
      have hst : Below W0.heap.size W0 wr.drew ∧ wr.drew.cell? ⟨w.heap.size, 0, none⟩ = some (.slice An z.name.length cn) ∧ wr.drew.cell? ⟨w.heap.size, 1, none⟩ = some (.slice Ar z.recs.length cr) := ⟨HB.out.drew, y0, y1⟩
      by_cases q : 0 < (zof z.recs (n.drop i.toNat) 2).length
      · have HQ := Aside0.mk q
        go_wp2_with fail
        go_region_held3 (fun w' => Below W0.heap.size W0 w' ∧ w'.cell? ⟨w.heap.size, 0, none⟩ = some (.slice An z.name.length cn) ∧ w'.cell? ⟨w.heap.size, 1, none⟩ = some (.slice Ar z.recs.length cr)) (first | (with_reducible exact keep3 hb1 (by assumption)) | assumption | go_keep) ((first | (go_at_call 79; (with_reducible refine (HC.out _ (And.left (by assumption)) vc (n.drop i.toNat) HR.out).out.mono ?_); rintro e w1 ⟨v1, rfl, ho1, hb1⟩; obtain ⟨A1, k1, rfl, _⟩ := ho1)))
        rename_i hS
        have HS := Aside0.mk hS.1
        clear hS hst
        go_wp2_with fail
        go_ret2
        refine ⟨BX.out.trans (HS.out.mono BX.out.size), ?_⟩
        rw [HA.out, HI.out, if_pos HQ.out]
        exact ⟨_, rfl, HR.out.below pS (BX.out.trans (HS.out.mono BX.out.size))⟩
      · have HQ := Aside0.mk q
        go_wp2_with fail
        go_region_held3 (fun w' => Below W0.heap.size W0 w' ∧ w'.cell? ⟨w.heap.size, 0, none⟩ = some (.slice An z.name.length cn) ∧ w'.cell? ⟨w.heap.size, 1, none⟩ = some (.slice Ar z.recs.length cr)) (first | (with_reducible exact keep3 hb1 (by assumption)) | assumption | go_keep) ((first | (go_at_call 79; (with_reducible refine (HC.out _ (And.left (by assumption)) vc (n.drop i.toNat) HR.out).out.mono ?_); rintro e w1 ⟨v1, rfl, ho1, hb1⟩; obtain ⟨A1, k1, rfl, _⟩ := ho1)))
        rename_i hS
        have HS := Aside0.mk hS.1
        clear hS hst
        go_wp2_with fail
        go_roundg i.toNat
        case measure => omega
        case rel =>
          refine ⟨i - 1, by omega, by omega, by omega, by go_num, HS, ⟨?_⟩⟩
          rw [HA.out, HI.out, if_neg HQ.out]
          congr 1; omega
    · go_wp2_with fail
      go_ret2
      refine ⟨BX.out.trans (HB.out.mono BX.out.size), ?_⟩
      rw [HA.out, show (i + 1).toNat = 0 from by omega]
      rfl
end Go.Proofs.Ytkbjbkmaokebgaa.Gz

import Derived.Test.YtkbjbkmaokebgaaRrs
import Derived.Test.YtkbjbkmaokebgaaKit2
set_option linter.unusedVariables false
set_option linter.unusedSimpArgs false
namespace Go.Proofs.Ytkbjbkmaokebgaa.Gz
open Go.RowKit Go.Proofs.YtkbjbkmaokebgaaW.PrintWords
open Ki
/-- May a time be? -/
def timeB (t : Int) : Bool := decide (0 ≤ t) && decide (t ≤ 36028797018963968)
/-- May a fact be of a type? -/
def typed (k : Int) : Bool := decide (1 ≤ k) && decide (k ≤ 65534) && !decide (k = 41) && !decide (k = 255)
/-- Is data empty? -/
def noneB (d : Dat) : Bool := decide (d.bytes.length = 0) && decide (d.host.length = 0) && decide (d.mail.length = 0) && decide (d.nums.length = 0) && decide (d.texts.length = 0)
/-- Are all data of a set, from a place on, sound, and none the same as one ahead of it? -/
def distF (kind : Int) : List Dat → List Dat → Bool
  | _, [] => true
  | pre, d :: l => decide (DOk kind d) && !(pre.any fun x => dSame x d) && distF kind (pre ++ [d]) l
def distinct (kind : Int) (l : List Dat) : Bool := distF kind [] l
/-- May a fact be? -/
def fSound (f : Fact) : Bool :=
  nSound f.name && decide (1 ≤ f.rank) && decide (f.rank ≤ 4) && timeB f.got && decide (0 ≤ f.ttl) && decide (f.ttl ≤ 604800) &&
  (if f.kind = 1 then typed f.typ && decide (1 ≤ f.set.length) && decide (f.set.length ≤ 64) && distinct f.typ f.set && decide (f.zone.length = 0) && noneB f.soa
   else decide (f.ttl ≤ 10800) && decide (f.set.length = 0) && nSound f.zone && nUnder f.name f.zone && decide (DOk 6 f.soa) && (if f.kind = 2 then typed f.typ else decide (f.kind = 3) && decide (f.typ = 0)))
theorem distF_step (kind : Int) (l : List Dat) (k : Nat) (h : k < l.length) : distF kind (l.take k) (l.drop k) = (decide (DOk kind l[k]) && !((l.take k).any fun x => dSame x l[k]) && distF kind (l.take (k + 1)) (l.drop (k + 1))) := by
  rw [List.drop_eq_getElem_cons h, List.take_succ_eq_append_getElem h]; rfl
theorem bang_ne {a b : Int} (h : ¬ a = b) : (a != b) = true := bne_iff_ne.mpr h
set_option maxHeartbeats 4000000 in
set_option maxRecDepth 100000 in
theorem time_calls (k : Int) (w : World) :
    Calls Try.prog 55 #[.int .i64 k] w fun e w' => e = .returned (.bool (timeB k)) ∧ Below w.heap.size w w' := by
  have HD : Aside0 ((timeB k) = true ↔ (0 ≤ k ∧ k ≤ 36028797018963968)) := ⟨by unfold timeB; simp [Bool.and_eq_true, and_assoc]⟩
  have HB0 : Aside0 (Below w.heap.size w w) := ⟨Below.refl _ _⟩
  by_cases q_a : 0 ≤ k
  rotate_left
  · have HN : Aside0 ((timeB k) = false) := ⟨eq_false_of_ne_true fun h => q_a (by obtain ⟨g_a, g_b⟩ := HD.out.1 h; exact g_a)⟩
    have f_a : ¬ 0 ≤ k := by omega
    have g_a : decide (0 ≤ k) = false := decide_eq_false f_a
    have e_a := Aside0.mk q_a
    clear q_a
    go_enter Try.func55, Try.ntmps55
    go_wp2_with fail
    go_ret
    refine ⟨?_, HB0.out⟩
    rw [HN.out]; rfl
  have f_a : 0 ≤ k := by omega
  have g_a : decide (0 ≤ k) = true := decide_eq_true f_a
  have e_a := Aside0.mk q_a
  clear q_a
  by_cases q_b : k ≤ 36028797018963968
  rotate_left
  · have HN : Aside0 ((timeB k) = false) := ⟨eq_false_of_ne_true fun h => q_b (by obtain ⟨g_a, g_b⟩ := HD.out.1 h; exact g_b)⟩
    have f_b : ¬ k ≤ 36028797018963968 := by omega
    have g_b : decide (k ≤ 36028797018963968) = false := decide_eq_false f_b
    have e_b := Aside0.mk q_b
    clear q_b
    go_enter Try.func55, Try.ntmps55
    go_wp2_with fail
    go_ret
    refine ⟨?_, HB0.out⟩
    rw [HN.out]; rfl
  have f_b : k ≤ 36028797018963968 := by omega
  have g_b : decide (k ≤ 36028797018963968) = true := decide_eq_true f_b
  have e_b := Aside0.mk q_b
  clear q_b
  have HY : Aside0 ((timeB k) = true) := ⟨HD.out.2 ⟨e_a.out, e_b.out⟩⟩
  go_enter Try.func55, Try.ntmps55
  go_wp2_with fail
  go_ret
  refine ⟨?_, HB0.out⟩
  rw [HY.out]; rfl
set_option maxHeartbeats 4000000 in
set_option maxRecDepth 100000 in
theorem typed_calls (k : Int) (w : World) :
    Calls Try.prog 88 #[.int .i64 k] w fun e w' => e = .returned (.bool (typed k)) ∧ Below w.heap.size w w' := by
  have HD : Aside0 ((typed k) = true ↔ (1 ≤ k ∧ k ≤ 65534 ∧ ¬ k = 41 ∧ ¬ k = 255)) := ⟨by unfold typed; simp [Bool.and_eq_true, and_assoc]⟩
  have HB0 : Aside0 (Below w.heap.size w w) := ⟨Below.refl _ _⟩
  by_cases q_a : 1 ≤ k
  rotate_left
  · have HN : Aside0 ((typed k) = false) := ⟨eq_false_of_ne_true fun h => q_a (by obtain ⟨g_a, g_b, g_c, g_d⟩ := HD.out.1 h; exact g_a)⟩
    have f_a : ¬ 1 ≤ k := by omega
    have g_a : decide (1 ≤ k) = false := decide_eq_false f_a
    have e_a := Aside0.mk q_a
    clear q_a
    go_enter Try.func88, Try.ntmps88
    go_wp2_with fail
    go_ret
    refine ⟨?_, HB0.out⟩
    rw [HN.out]; rfl
  have f_a : 1 ≤ k := by omega
  have g_a : decide (1 ≤ k) = true := decide_eq_true f_a
  have e_a := Aside0.mk q_a
  clear q_a
  by_cases q_b : k ≤ 65534
  rotate_left
  · have HN : Aside0 ((typed k) = false) := ⟨eq_false_of_ne_true fun h => q_b (by obtain ⟨g_a, g_b, g_c, g_d⟩ := HD.out.1 h; exact g_b)⟩
    have f_b : ¬ k ≤ 65534 := by omega
    have g_b : decide (k ≤ 65534) = false := decide_eq_false f_b
    have e_b := Aside0.mk q_b
    clear q_b
    go_enter Try.func88, Try.ntmps88
    go_wp2_with fail
    go_ret
    refine ⟨?_, HB0.out⟩
    rw [HN.out]; rfl
  have f_b : k ≤ 65534 := by omega
  have g_b : decide (k ≤ 65534) = true := decide_eq_true f_b
  have e_b := Aside0.mk q_b
  clear q_b
  by_cases q_c : ¬ k = 41
  rotate_left
  · have HN : Aside0 ((typed k) = false) := ⟨eq_false_of_ne_true fun h => q_c (by obtain ⟨g_a, g_b, g_c, g_d⟩ := HD.out.1 h; exact g_c)⟩
    have f_c : (k != 41) = false := by rw [bne_eq_false_iff_eq]; exact Classical.not_not.1 q_c
    have e_c := Aside0.mk q_c
    clear q_c
    go_enter Try.func88, Try.ntmps88
    go_wp2_with fail
    go_ret
    refine ⟨?_, HB0.out⟩
    rw [HN.out]; rfl
  have f_c : (k != 41) = true := bne_iff_ne.mpr q_c
  have e_c := Aside0.mk q_c
  clear q_c
  by_cases q_d : ¬ k = 255
  rotate_left
  · have HN : Aside0 ((typed k) = false) := ⟨eq_false_of_ne_true fun h => q_d (by obtain ⟨g_a, g_b, g_c, g_d⟩ := HD.out.1 h; exact g_d)⟩
    have f_d : (k != 255) = false := by rw [bne_eq_false_iff_eq]; exact Classical.not_not.1 q_d
    have e_d := Aside0.mk q_d
    clear q_d
    go_enter Try.func88, Try.ntmps88
    go_wp2_with fail
    go_ret
    refine ⟨?_, HB0.out⟩
    rw [HN.out]; rfl
  have f_d : (k != 255) = true := bne_iff_ne.mpr q_d
  have e_d := Aside0.mk q_d
  clear q_d
  have HY : Aside0 ((typed k) = true) := ⟨HD.out.2 ⟨e_a.out, e_b.out, e_c.out, e_d.out⟩⟩
  go_enter Try.func88, Try.ntmps88
  go_wp2_with fail
  go_ret
  refine ⟨?_, HB0.out⟩
  rw [HY.out]; rfl
set_option maxHeartbeats 4000000 in
set_option maxRecDepth 100000 in
theorem none_calls (d : Dat) (cd : List Value) (w : World) (hd : kD.K w (fun _ => True) d cd) (hs : d.bytes.length + d.host.length + d.mail.length + d.nums.length + d.texts.length ≤ 9223372036854775807) :
    Calls Try.prog 90 #[.agg cd.toArray] w fun e w' => e = .returned (.bool (noneB d)) ∧ Below w.heap.size w w' := by
  obtain ⟨A4, k4, A5, k5, A6, k6, A7, k7, A8, k8, rfl⟩ := kD_form hd
  have hx : noneB d = (((d.bytes.length : Int) + d.host.length + d.mail.length + d.nums.length + d.texts.length) == 0) := by
    unfold noneB
    by_cases h : ((d.bytes.length : Int) + d.host.length + d.mail.length + d.nums.length + d.texts.length) = 0
    · rw [beq_iff_eq.mpr h]; simp only [Bool.and_eq_true, decide_eq_true_eq]; omega
    · rw [beq_eq_false_iff_ne.mpr h, Bool.eq_false_iff]; simp only [ne_eq, Bool.and_eq_true, decide_eq_true_eq]; omega
  rw [hx]
  clear hx
  generalize d.bytes.length = n1 at hs ⊢
  generalize d.host.length = n2 at hs ⊢
  generalize d.mail.length = n3 at hs ⊢
  generalize d.nums.length = n4 at hs ⊢
  generalize d.texts.length = n5 at hs ⊢
  go_enter Try.func90, Try.ntmps90
  go_wp2_with fail
  go_ret
  exact ⟨rfl, below_alloc (Below.refl _ _) _⟩
theorem noneB_room {w : World} {ok : Nat → Prop} {d : Dat} {cd : List Value} (hd : kD.K w ok d cd) : d.bytes.length + d.host.length + d.mail.length + d.nums.length + d.texts.length ≤ 9223372036854775807 := by
  obtain ⟨v4, v5, v6, v7, v8, rfl, h4, h5, h6, h7, h8⟩ := hd
  have r4 := h4.room
  have r5 := h5.room
  have r6 := h6.room
  have r7 := h7.room
  have r8 := h8.room
  have e1 : kU.bytes = 1 := rfl
  have e2 : kS.bytes = 16 := rfl
  have e3 : kI.bytes = 8 := rfl
  rw [e1] at r4
  rw [e2] at r5 r6 r8
  rw [e3] at r7
  unfold B47 at r4 r5 r6 r7 r8
  omega
theorem cells_dist {w : World} {B : Nat} {v0 v1 v2 v3 v4 : Value} (h : ∀ j u, ([v0, v1, v2, v3, v4] : List Value)[j]? = some u → w.cell? ⟨B, j, none⟩ = some u) :
    w.cell? ⟨B, 0, none⟩ = some v0 ∧ w.cell? ⟨B, 1, none⟩ = some v1 ∧ w.cell? ⟨B, 2, none⟩ = some v2 ∧ w.cell? ⟨B, 3, none⟩ = some v3 ∧ w.cell? ⟨B, 4, none⟩ = some v4 := ⟨h 0 _ rfl, h 1 _ rfl, h 2 _ rfl, h 3 _ rfl, h 4 _ rfl⟩
set_option maxHeartbeats 1000000 in
theorem dist1_calls (o d : Dat) (co : List Value) (B : Nat) (v0 v1 v2 v3 v4 : Value) (w : World) (ho : kD.K w (fun _ => True) o co) (hd : kD.K w (fun _ => True) d [v0, v1, v2, v3, v4]) (hB : B < w.heap.size)
    (h : ∀ j u, ([v0, v1, v2, v3, v4] : List Value)[j]? = some u → w.cell? ⟨B, j, none⟩ = some u) :
    Calls Try.prog 116 #[.agg co.toArray, .pointer (some ⟨B, 0, none⟩)] w fun e w' => e = .returned (.bool (dSame o d)) ∧ Below w.heap.size w w' := by
  have KO := Aside0.mk ho
  have KD := Aside0.mk hd
  obtain ⟨h0, h1, h2, h3, h4⟩ := cells_dist h
  obtain ⟨d4, d5, d6, d7, d8, rfl, _⟩ := ho
  have BX : Aside0 (Below w.heap.size w (w.alloc (.cells #[d4, d5, d6, d7, d8] 42))) := ⟨below_alloc (Below.refl _ _) _⟩
  have hne : ¬ (B = w.heap.size) := by omega
  clear h hd
  go_enter Try.func116, Try.ntmps116
  go_wp2_with fail
  refine (dsame_calls o d _ _ _ (K_below KO.out BX.out) (K_below KD.out BX.out)).mono ?_
  rintro e w1 ⟨rfl, hb1⟩
  have HB := Aside0.mk (BX.out.trans (hb1.mono (by simp)))
  clear hb1
  go_wp2_with fail
  go_ret
  exact ⟨rfl, HB.out⟩
theorem pays_dist (d : Dat) (B : Nat) (v0 v1 v2 v3 v4 : Value) (w : World) (xs : List Dat) (hd : kD.K w (fun _ => True) d [v0, v1, v2, v3, v4]) (hB : B < w.heap.size)
    (hc : ∀ j u, ([v0, v1, v2, v3, v4] : List Value)[j]? = some u → w.cell? ⟨B, j, none⟩ = some u) :
    Pays kD valN 116 #[.pointer (some ⟨B, 0, none⟩)] w xs (fun o => dSame o d) := by
  intro W x cs hx hb hK
  exact dist1_calls x d cs B v0 v1 v2 v3 v4 W hK (K_below hd hb) (Nat.lt_of_lt_of_le hB hb.size) (fun j u hu => (hb.cell (p := ⟨B, j, none⟩) hB).trans (hc j u hu))
theorem infoDD : (Try.prog.info? 42).map (fun i => (i.zero, i.size, i.bytes)) = some (some (.agg #[.slice none 0 0, .slice none 0 0, .slice none 0 0, .slice none 0 0, .slice none 0 0]), kD.sz, kD.bytes) := by kernel_rfl
theorem infoD : ∃ i, Try.prog.info? 42 = some i ∧ i.size = kD.sz := by
  obtain ⟨i, h1, h2⟩ := Option.map_eq_some_iff.1 infoDD
  simp only [Prod.mk.injEq] at h2
  exact ⟨i, h1, h2.2.1⟩
theorem cellD {w : World} {ok : Nat → Prop} {A : Option Addr} {xs : List Dat} (h : kD.Row w ok A xs) (k : Nat) (hk : k < xs.length) :
    ∃ ad v0 v1 v2 v3 v4, A = some ad ∧ kD.K w ok xs[k] [v0, v1, v2, v3, v4] ∧ w.cell? (ad.add (k * 5)) = some v0 ∧ w.cell? ⟨(ad.add (k * 5)).block, (ad.add (k * 5)).off + 1, none⟩ = some v1 ∧ w.cell? ⟨(ad.add (k * 5)).block, (ad.add (k * 5)).off + 2, none⟩ = some v2 ∧ w.cell? ⟨(ad.add (k * 5)).block, (ad.add (k * 5)).off + 3, none⟩ = some v3 ∧ w.cell? ⟨(ad.add (k * 5)).block, (ad.add (k * 5)).off + 4, none⟩ = some v4 := by
  obtain ⟨ad, cs, e, _, hK, hc⟩ := h.at_ k hk
  obtain ⟨v0, v1, v2, v3, v4, rfl⟩ := len5 (kD.len hK)
  exact ⟨ad, v0, v1, v2, v3, v4, e, hK, cells5 (k * 5) hc⟩
theorem kD_form2 {w : World} {ok : Nat → Prop} {d : Dat} {v0 v1 v2 v3 v4 : Value} (h : kD.K w ok d [v0, v1, v2, v3, v4]) :
    ∃ A0 k0 A1 k1 A2 k2 A3 k3 A4 k4, v0 = .slice A0 d.bytes.length k0 ∧ v1 = .slice A1 d.host.length k1 ∧ v2 = .slice A2 d.mail.length k2 ∧ v3 = .slice A3 d.nums.length k3 ∧ v4 = .slice A4 d.texts.length k4 := by
  obtain ⟨A4, k4, A5, k5, A6, k6, A7, k7, A8, k8, h⟩ := kD_form h
  simp only [List.cons.injEq, and_true] at h
  exact ⟨_, _, _, _, _, _, _, _, _, _, h⟩
/-- One false is enough. -/
theorem dist_no {kind : Int} {l : List Dat} (k : Nat) (hk : k < l.length) (h : distinct kind l = distF kind (l.take k) (l.drop k)) (hr : (decide (DOk kind l[k]) && !((l.take k).any fun x => dSame x l[k])) = false) : distinct kind l = false := by
  rw [h, distF_step _ _ k hk, hr]; rfl
theorem dist_yes {kind : Int} {l : List Dat} (k : Nat) (hk : k < l.length) (h : distinct kind l = distF kind (l.take k) (l.drop k)) (hr : (decide (DOk kind l[k]) && !((l.take k).any fun x => dSame x l[k])) = true) : distinct kind l = distF kind (l.take (k + 1)) (l.drop (k + 1)) := by
  rw [h, distF_step _ _ k hk, hr]; rfl
set_option maxHeartbeats 8000000 in
set_option maxRecDepth 100000 in
theorem distinct_calls (kind : Int) (v : Value) (l : List Dat) (w : World) (hv : kD.Rd w (fun _ => True) v l) :
    Calls Try.prog 89 #[.int .i64 kind, v] w fun e w' => e = .returned (.bool (distinct kind l)) ∧ Below w.heap.size w w' := by
  have HV := Aside0.mk hv
  have hmax := hv.max
  obtain ⟨Al, cl, rfl, hll, _⟩ := hv
  have eg : ∀ args w, (callFunc 116 args).run Try.prog w = .ok (.enter 116 args) w := enters Try.func116 (by kernel_rfl) rfl
  go_enter Try.func89, Try.ntmps89
  go_wp2_with fail
  go_loopg [5, 6, 9] l.length (fun gg _ _ s9 wr => ∃ k : Nat, k ≤ l.length ∧ l.length - k ≤ gg ∧ s9 = .int .i64 k ∧ Aside0 (Below w.heap.size w wr) ∧ Aside0 (distinct kind l = distF kind (l.take k) (l.drop k)))
  case atStart => exact ⟨0, Nat.zero_le _, by omega, rfl, ⟨Below.refl _ _⟩, ⟨rfl⟩⟩
  case round =>
    obtain ⟨k, hk, hg, rfl, HB, HA⟩ := hrel
    by_cases hlt : k < l.length
    · have HLT := Aside0.mk hlt
      obtain ⟨A2, c2, he2, _, hrow2⟩ := HV.out.below pD HB.out
      obtain ⟨rfl, rfl⟩ : Al = A2 ∧ cl = c2 := by injection he2 with h1 _ h3; exact ⟨h1, h3⟩
      obtain ⟨iD, hiD, hsD⟩ := infoD
      obtain ⟨vsl, hsl, hslR⟩ := take_run kD 48 42 Try.underlying48 hiD Al cl l (k : Int) (by omega) (by omega) hll
      rw [Int.toNat_natCast] at hslR
      have HSL := Aside0.mk (fun w' hw' => hslR w' (fun _ => True) (by obtain ⟨A3, c3, he3, _, h2⟩ := (HV.out.below pD hw' : kD.Rd w' (fun _ => True) (.slice Al l.length cl) l); obtain ⟨rfl, rfl⟩ : Al = A3 ∧ cl = c3 := (by injection he3 with h1 _ h3; exact ⟨h1, h3⟩); exact h2))
      clear hslR hiD hsD
      obtain ⟨ad, b0, b1, b2, b3, b4, rfl, hK, e0, e1, e2, e3, e4⟩ := cellD hrow2 k hlt
      have HNO := Aside0.mk (dist_no k hlt HA.out)
      have HYE := Aside0.mk (dist_yes k hlt HA.out)
      generalize l[k] = x at hK HNO HYE
      obtain ⟨A0, k0, A1, k1, A2, k2, A3, k3, A4, k4, rfl, rfl, rfl, rfl, rfl⟩ := kD_form2 hK
      have HK := Aside0.mk hK
      clear hK hrow2 he2
      go_upto_region 4 with (fail)
      generalize hW1 : wr.alloc (.cells #[.slice A0 x.bytes.length k0, .slice A1 x.host.length k1, .slice A2 x.mail.length k2, .slice A3 x.nums.length k3, .slice A4 x.texts.length k4] 42) = W1
      have hs1 : W1.heap.size = wr.heap.size + 1 := by rw [← hW1]; simp
      have BWr : Aside0 (Below wr.heap.size wr W1) := ⟨by rw [← hW1]; exact below_alloc (Below.refl _ _) _⟩
      have BW : Aside0 (Below w.heap.size w W1) := ⟨HB.out.trans (BWr.out.mono HB.out.size)⟩
      have HX : Aside0 (∀ j u, ([.slice A0 x.bytes.length k0, .slice A1 x.host.length k1, .slice A2 x.mail.length k2, .slice A3 x.nums.length k3, .slice A4 x.texts.length k4] : List Value)[j]? = some u → W1.cell? ⟨wr.heap.size, j, none⟩ = some u) := ⟨fun j u hu => by rw [← hW1, cellN rfl]; simpa using hu⟩
      obtain ⟨x0, x1, x2, x3, x4⟩ := cells_dist HX.out
      have hl2 : wr.heap.size < W1.heap.size := by omega
      clear hW1 hs1 e0 e1 e2 e3 e4
      by_cases p1 : DOk kind x
      rotate_left
      · have P1 := Aside0.mk p1
        clear p1
        go_wp2_with fail
        refine (bv (dsound_calls kind x _ W1 (K_below HK.out BWr.out)) (decide_eq_false P1.out)).mono ?_
        rintro e w2 ⟨rfl, hb2⟩
        have BF : Aside0 (Below w.heap.size w w2) := ⟨BW.out.trans (hb2.mono BW.out.size)⟩
        clear hb2
        go_wp2_with fail
        go_ret
        refine ⟨?_, BF.out⟩
        rw [HNO.out (by rw [decide_eq_false P1.out]; rfl)]; rfl
      have P1 := Aside0.mk p1
      clear p1
      go_wp2_with fail
      refine (bv (dsound_calls kind x _ W1 (K_below HK.out BWr.out)) (decide_eq_true P1.out)).mono ?_
      rintro e w2 ⟨rfl, hb2⟩
      have HB2 := Aside0.mk hb2
      have BF : Aside0 (Below w.heap.size w w2) := ⟨BW.out.trans (hb2.mono BW.out.size)⟩
      have HP := Aside0.mk (pays_dist x wr.heap.size _ _ _ _ _ w2 (l.take k) (K_below HK.out (BWr.out.trans (hb2.mono BWr.out.size))) (Nat.lt_of_lt_of_le hl2 hb2.size) (fun j u hu => (hb2.cell (p := ⟨wr.heap.size, j, none⟩) hl2).trans (HX.out j u hu)))
      clear hb2
      go_wp2_with fail
      cases p2 : (l.take k).any fun o => dSame o x with
      | true =>
        have P2 := Aside0.mk p2
        clear p2
        refine (contains_d_v true _ _ _ (HSL.out _ BF.out) _ _ _ eg HP.out P2.out).mono ?_
        rintro e w3 ⟨rfl, hb3⟩
        have BG : Aside0 (Below w.heap.size w w3) := ⟨BF.out.trans (hb3.mono BF.out.size)⟩
        clear hb3
        go_wp2_with fail
        go_ret
        refine ⟨?_, BG.out⟩
        rw [HNO.out (by rw [P2.out]; simp)]; rfl
      | false =>
        have P2 := Aside0.mk p2
        clear p2
        refine (contains_d_v false _ _ _ (HSL.out _ BF.out) _ _ _ eg HP.out P2.out).mono ?_
        rintro e w3 ⟨rfl, hb3⟩
        have BG : Aside0 (Below w.heap.size w w3) := ⟨BF.out.trans (hb3.mono BF.out.size)⟩
        clear hb3
        go_wp2_with fail
        go_roundg (l.length - (k + 1))
        case measure => have := HLT.out; omega
        case rel => exact ⟨k + 1, by have := HLT.out; omega, by omega, by go_num, BG, ⟨HYE.out (by rw [decide_eq_true P1.out, P2.out]; rfl)⟩⟩
    · have hka : k = l.length := by omega
      have HKA := Aside0.mk hka
      clear hka
      go_wp2_with fail
      go_ret
      refine ⟨?_, HB.out⟩
      rw [HA.out, HKA.out, List.drop_length]; rfl
set_option maxHeartbeats 16000000 in
set_option maxRecDepth 100000 in
theorem fsound_1 (f : Fact) (cf : List Value) (w : World) (hf : kF.K w (fun _ => True) f cf) (hk1 : f.kind = 1) :
    Calls Try.prog 54 #[.agg cf.toArray] w fun e w' => e = .returned (.bool (fSound f)) ∧ Below w.heap.size w w' := by
  have HD : Aside0 ((fSound f) = true ↔ (nSound f.name = true ∧ 1 ≤ f.rank ∧ f.rank ≤ 4 ∧ timeB f.got = true ∧ 0 ≤ f.ttl ∧ f.ttl ≤ 604800 ∧ typed f.typ = true ∧ 1 ≤ f.set.length ∧ f.set.length ≤ 64 ∧ distinct f.typ f.set = true ∧ f.zone.length = 0 ∧ noneB f.soa = true)) := ⟨by unfold fSound; rw [if_pos hk1]; simp [Bool.and_eq_true, and_assoc]⟩
  obtain ⟨vn, vset, vzone, cd, rfl, hn, _, _, _, _, _, hset, hzone, hsoa⟩ := hf
  have RN := Aside0.mk hn
  have RS := Aside0.mk hset
  have RZ := Aside0.mk hzone
  have NR := Aside0.mk (noneB_room hsoa)
  obtain ⟨A4, k4, A5, k5, A6, k6, A7, k7, A8, k8, rfl⟩ := kD_form hsoa
  have KS := Aside0.mk hsoa
  have hms := hset.max
  have hmz := hzone.max
  obtain ⟨An, cn, rfl, _, _⟩ := hn
  obtain ⟨As, cs, rfl, _, _⟩ := hset
  obtain ⟨Az, cz, rfl, _, _⟩ := hzone
  clear hsoa
  have fk : (f.kind == 1) = true := beq_iff_eq.mpr hk1
  clear hk1
  have BX : Aside0 (Below w.heap.size w (w.alloc (.cells #[.slice An f.name.length cn, .int .i64 f.typ, .int .i64 f.kind, .int .i64 f.rank, .int .i64 f.got, .int .i64 f.ttl, .slice As f.set.length cs, .slice Az f.zone.length cz, .slice A4 f.soa.bytes.length k4, .slice A5 f.soa.host.length k5, .slice A6 f.soa.mail.length k6, .slice A7 f.soa.nums.length k7, .slice A8 f.soa.texts.length k8] 68))) := ⟨below_alloc (Below.refl _ _) _⟩
  have HB0 : Aside0 (Below (w.alloc (.cells #[.slice An f.name.length cn, .int .i64 f.typ, .int .i64 f.kind, .int .i64 f.rank, .int .i64 f.got, .int .i64 f.ttl, .slice As f.set.length cs, .slice Az f.zone.length cz, .slice A4 f.soa.bytes.length k4, .slice A5 f.soa.host.length k5, .slice A6 f.soa.mail.length k6, .slice A7 f.soa.nums.length k7, .slice A8 f.soa.texts.length k8] 68)).heap.size (w.alloc (.cells #[.slice An f.name.length cn, .int .i64 f.typ, .int .i64 f.kind, .int .i64 f.rank, .int .i64 f.got, .int .i64 f.ttl, .slice As f.set.length cs, .slice Az f.zone.length cz, .slice A4 f.soa.bytes.length k4, .slice A5 f.soa.host.length k5, .slice A6 f.soa.mail.length k6, .slice A7 f.soa.nums.length k7, .slice A8 f.soa.texts.length k8] 68)) (w.alloc (.cells #[.slice An f.name.length cn, .int .i64 f.typ, .int .i64 f.kind, .int .i64 f.rank, .int .i64 f.got, .int .i64 f.ttl, .slice As f.set.length cs, .slice Az f.zone.length cz, .slice A4 f.soa.bytes.length k4, .slice A5 f.soa.host.length k5, .slice A6 f.soa.mail.length k6, .slice A7 f.soa.nums.length k7, .slice A8 f.soa.texts.length k8] 68))) := ⟨Below.refl _ _⟩
  by_cases q_n : nSound f.name = true
  rotate_left
  · have HN : Aside0 ((fSound f) = false) := ⟨eq_false_of_ne_true fun h => q_n (by obtain ⟨g_n, g_r1, g_r4, g_go, g_t0, g_t1, g_ty, g_s1, g_s64, g_di, g_z0, g_no⟩ := HD.out.1 h; exact g_n)⟩
    have e_n := Aside0.mk q_n
    clear q_n
    go_enter Try.func54, Try.ntmps54
    go_wp2_with fail
    refine (bv (sound_calls _ f.name _ (RN.out.below pS (BX.out.trans (HB0.out.mono (by simp; try omega))))) (eq_false_of_ne_true e_n.out)).mono ?_
    rintro e w1 ⟨rfl, hb1⟩
    have HB1 := Aside0.mk (HB0.out.trans (hb1.mono HB0.out.size))
    clear hb1
    obtain ⟨bc, bf⟩ := bcell HB1.out
    go_wp2_with fail
    go_ret
    refine ⟨?_, (BX.out.trans (HB1.out.mono (by simp; try omega)))⟩
    rw [HN.out]; rfl
  have e_n := Aside0.mk q_n
  clear q_n
  by_cases q_r1 : 1 ≤ f.rank
  rotate_left
  · have HN : Aside0 ((fSound f) = false) := ⟨eq_false_of_ne_true fun h => q_r1 (by obtain ⟨g_n, g_r1, g_r4, g_go, g_t0, g_t1, g_ty, g_s1, g_s64, g_di, g_z0, g_no⟩ := HD.out.1 h; exact g_r1)⟩
    have f_r1 : f.rank < 1 := by omega
    have g_r1 : decide (f.rank < 1) = true := decide_eq_true f_r1
    have e_r1 := Aside0.mk q_r1
    clear q_r1
    go_enter Try.func54, Try.ntmps54
    go_wp2_with fail
    refine (bv (sound_calls _ f.name _ (RN.out.below pS (BX.out.trans (HB0.out.mono (by simp; try omega))))) (e_n.out)).mono ?_
    rintro e w1 ⟨rfl, hb1⟩
    have HB1 := Aside0.mk (HB0.out.trans (hb1.mono HB0.out.size))
    clear hb1
    obtain ⟨bc, bf⟩ := bcell HB1.out
    go_wp2_with fail
    go_ret
    refine ⟨?_, (BX.out.trans (HB1.out.mono (by simp; try omega)))⟩
    rw [HN.out]; rfl
  have f_r1 : ¬ f.rank < 1 := by omega
  have g_r1 : decide (f.rank < 1) = false := decide_eq_false f_r1
  have e_r1 := Aside0.mk q_r1
  clear q_r1
  by_cases q_r4 : f.rank ≤ 4
  rotate_left
  · have HN : Aside0 ((fSound f) = false) := ⟨eq_false_of_ne_true fun h => q_r4 (by obtain ⟨g_n, g_r1, g_r4, g_go, g_t0, g_t1, g_ty, g_s1, g_s64, g_di, g_z0, g_no⟩ := HD.out.1 h; exact g_r4)⟩
    have f_r4 : 4 < f.rank := by omega
    have g_r4 : decide (4 < f.rank) = true := decide_eq_true f_r4
    have e_r4 := Aside0.mk q_r4
    clear q_r4
    go_enter Try.func54, Try.ntmps54
    go_wp2_with fail
    refine (bv (sound_calls _ f.name _ (RN.out.below pS (BX.out.trans (HB0.out.mono (by simp; try omega))))) (e_n.out)).mono ?_
    rintro e w1 ⟨rfl, hb1⟩
    have HB1 := Aside0.mk (HB0.out.trans (hb1.mono HB0.out.size))
    clear hb1
    obtain ⟨bc, bf⟩ := bcell HB1.out
    go_wp2_with fail
    go_ret
    refine ⟨?_, (BX.out.trans (HB1.out.mono (by simp; try omega)))⟩
    rw [HN.out]; rfl
  have f_r4 : ¬ 4 < f.rank := by omega
  have g_r4 : decide (4 < f.rank) = false := decide_eq_false f_r4
  have e_r4 := Aside0.mk q_r4
  clear q_r4
  by_cases q_go : timeB f.got = true
  rotate_left
  · have HN : Aside0 ((fSound f) = false) := ⟨eq_false_of_ne_true fun h => q_go (by obtain ⟨g_n, g_r1, g_r4, g_go, g_t0, g_t1, g_ty, g_s1, g_s64, g_di, g_z0, g_no⟩ := HD.out.1 h; exact g_go)⟩
    have e_go := Aside0.mk q_go
    clear q_go
    go_enter Try.func54, Try.ntmps54
    go_wp2_with fail
    refine (bv (sound_calls _ f.name _ (RN.out.below pS (BX.out.trans (HB0.out.mono (by simp; try omega))))) (e_n.out)).mono ?_
    rintro e w1 ⟨rfl, hb1⟩
    have HB1 := Aside0.mk (HB0.out.trans (hb1.mono HB0.out.size))
    clear hb1
    obtain ⟨bc, bf⟩ := bcell HB1.out
    go_wp2_with fail
    refine (bv (time_calls f.got _) (eq_false_of_ne_true e_go.out)).mono ?_
    rintro e w2 ⟨rfl, hb2⟩
    have HB2 := Aside0.mk (HB1.out.trans (hb2.mono HB1.out.size))
    clear hb2
    clear bc bf
    obtain ⟨bc, bf⟩ := bcell HB2.out
    go_wp2_with fail
    go_ret
    refine ⟨?_, (BX.out.trans (HB2.out.mono (by simp; try omega)))⟩
    rw [HN.out]; rfl
  have e_go := Aside0.mk q_go
  clear q_go
  by_cases q_t0 : 0 ≤ f.ttl
  rotate_left
  · have HN : Aside0 ((fSound f) = false) := ⟨eq_false_of_ne_true fun h => q_t0 (by obtain ⟨g_n, g_r1, g_r4, g_go, g_t0, g_t1, g_ty, g_s1, g_s64, g_di, g_z0, g_no⟩ := HD.out.1 h; exact g_t0)⟩
    have f_t0 : f.ttl < 0 := by omega
    have g_t0 : decide (f.ttl < 0) = true := decide_eq_true f_t0
    have e_t0 := Aside0.mk q_t0
    clear q_t0
    go_enter Try.func54, Try.ntmps54
    go_wp2_with fail
    refine (bv (sound_calls _ f.name _ (RN.out.below pS (BX.out.trans (HB0.out.mono (by simp; try omega))))) (e_n.out)).mono ?_
    rintro e w1 ⟨rfl, hb1⟩
    have HB1 := Aside0.mk (HB0.out.trans (hb1.mono HB0.out.size))
    clear hb1
    obtain ⟨bc, bf⟩ := bcell HB1.out
    go_wp2_with fail
    refine (bv (time_calls f.got _) (e_go.out)).mono ?_
    rintro e w2 ⟨rfl, hb2⟩
    have HB2 := Aside0.mk (HB1.out.trans (hb2.mono HB1.out.size))
    clear hb2
    clear bc bf
    obtain ⟨bc, bf⟩ := bcell HB2.out
    go_wp2_with fail
    go_ret
    refine ⟨?_, (BX.out.trans (HB2.out.mono (by simp; try omega)))⟩
    rw [HN.out]; rfl
  have f_t0 : ¬ f.ttl < 0 := by omega
  have g_t0 : decide (f.ttl < 0) = false := decide_eq_false f_t0
  have e_t0 := Aside0.mk q_t0
  clear q_t0
  by_cases q_t1 : f.ttl ≤ 604800
  rotate_left
  · have HN : Aside0 ((fSound f) = false) := ⟨eq_false_of_ne_true fun h => q_t1 (by obtain ⟨g_n, g_r1, g_r4, g_go, g_t0, g_t1, g_ty, g_s1, g_s64, g_di, g_z0, g_no⟩ := HD.out.1 h; exact g_t1)⟩
    have f_t1 : 604800 < f.ttl := by omega
    have g_t1 : decide (604800 < f.ttl) = true := decide_eq_true f_t1
    have e_t1 := Aside0.mk q_t1
    clear q_t1
    go_enter Try.func54, Try.ntmps54
    go_wp2_with fail
    refine (bv (sound_calls _ f.name _ (RN.out.below pS (BX.out.trans (HB0.out.mono (by simp; try omega))))) (e_n.out)).mono ?_
    rintro e w1 ⟨rfl, hb1⟩
    have HB1 := Aside0.mk (HB0.out.trans (hb1.mono HB0.out.size))
    clear hb1
    obtain ⟨bc, bf⟩ := bcell HB1.out
    go_wp2_with fail
    refine (bv (time_calls f.got _) (e_go.out)).mono ?_
    rintro e w2 ⟨rfl, hb2⟩
    have HB2 := Aside0.mk (HB1.out.trans (hb2.mono HB1.out.size))
    clear hb2
    clear bc bf
    obtain ⟨bc, bf⟩ := bcell HB2.out
    go_wp2_with fail
    go_ret
    refine ⟨?_, (BX.out.trans (HB2.out.mono (by simp; try omega)))⟩
    rw [HN.out]; rfl
  have f_t1 : ¬ 604800 < f.ttl := by omega
  have g_t1 : decide (604800 < f.ttl) = false := decide_eq_false f_t1
  have e_t1 := Aside0.mk q_t1
  clear q_t1
  by_cases q_ty : typed f.typ = true
  rotate_left
  · have HN : Aside0 ((fSound f) = false) := ⟨eq_false_of_ne_true fun h => q_ty (by obtain ⟨g_n, g_r1, g_r4, g_go, g_t0, g_t1, g_ty, g_s1, g_s64, g_di, g_z0, g_no⟩ := HD.out.1 h; exact g_ty)⟩
    have e_ty := Aside0.mk q_ty
    clear q_ty
    go_enter Try.func54, Try.ntmps54
    go_wp2_with fail
    refine (bv (sound_calls _ f.name _ (RN.out.below pS (BX.out.trans (HB0.out.mono (by simp; try omega))))) (e_n.out)).mono ?_
    rintro e w1 ⟨rfl, hb1⟩
    have HB1 := Aside0.mk (HB0.out.trans (hb1.mono HB0.out.size))
    clear hb1
    obtain ⟨bc, bf⟩ := bcell HB1.out
    go_wp2_with fail
    refine (bv (time_calls f.got _) (e_go.out)).mono ?_
    rintro e w2 ⟨rfl, hb2⟩
    have HB2 := Aside0.mk (HB1.out.trans (hb2.mono HB1.out.size))
    clear hb2
    clear bc bf
    obtain ⟨bc, bf⟩ := bcell HB2.out
    go_wp2_with fail
    refine (bv (typed_calls f.typ _) (eq_false_of_ne_true e_ty.out)).mono ?_
    rintro e w3 ⟨rfl, hb3⟩
    have HB3 := Aside0.mk (HB2.out.trans (hb3.mono HB2.out.size))
    clear hb3
    clear bc bf
    obtain ⟨bc, bf⟩ := bcell HB3.out
    go_wp2_with fail
    go_ret
    refine ⟨?_, (BX.out.trans (HB3.out.mono (by simp; try omega)))⟩
    rw [HN.out]; rfl
  have e_ty := Aside0.mk q_ty
  clear q_ty
  by_cases q_s1 : 1 ≤ f.set.length
  rotate_left
  · have HN : Aside0 ((fSound f) = false) := ⟨eq_false_of_ne_true fun h => q_s1 (by obtain ⟨g_n, g_r1, g_r4, g_go, g_t0, g_t1, g_ty, g_s1, g_s64, g_di, g_z0, g_no⟩ := HD.out.1 h; exact g_s1)⟩
    have f_s1 : ¬ 1 ≤ (f.set.length : Int) := by omega
    have g_s1 : decide (1 ≤ (f.set.length : Int)) = false := decide_eq_false f_s1
    have e_s1 := Aside0.mk q_s1
    clear q_s1
    go_enter Try.func54, Try.ntmps54
    go_wp2_with fail
    refine (bv (sound_calls _ f.name _ (RN.out.below pS (BX.out.trans (HB0.out.mono (by simp; try omega))))) (e_n.out)).mono ?_
    rintro e w1 ⟨rfl, hb1⟩
    have HB1 := Aside0.mk (HB0.out.trans (hb1.mono HB0.out.size))
    clear hb1
    obtain ⟨bc, bf⟩ := bcell HB1.out
    go_wp2_with fail
    refine (bv (time_calls f.got _) (e_go.out)).mono ?_
    rintro e w2 ⟨rfl, hb2⟩
    have HB2 := Aside0.mk (HB1.out.trans (hb2.mono HB1.out.size))
    clear hb2
    clear bc bf
    obtain ⟨bc, bf⟩ := bcell HB2.out
    go_wp2_with fail
    refine (bv (typed_calls f.typ _) (e_ty.out)).mono ?_
    rintro e w3 ⟨rfl, hb3⟩
    have HB3 := Aside0.mk (HB2.out.trans (hb3.mono HB2.out.size))
    clear hb3
    clear bc bf
    obtain ⟨bc, bf⟩ := bcell HB3.out
    go_wp2_with fail
    go_ret
    refine ⟨?_, (BX.out.trans (HB3.out.mono (by simp; try omega)))⟩
    rw [HN.out]; rfl
  have f_s1 : 1 ≤ (f.set.length : Int) := by omega
  have g_s1 : decide (1 ≤ (f.set.length : Int)) = true := decide_eq_true f_s1
  have e_s1 := Aside0.mk q_s1
  clear q_s1
  by_cases q_s64 : f.set.length ≤ 64
  rotate_left
  · have HN : Aside0 ((fSound f) = false) := ⟨eq_false_of_ne_true fun h => q_s64 (by obtain ⟨g_n, g_r1, g_r4, g_go, g_t0, g_t1, g_ty, g_s1, g_s64, g_di, g_z0, g_no⟩ := HD.out.1 h; exact g_s64)⟩
    have f_s64 : ¬ (f.set.length : Int) ≤ 64 := by omega
    have g_s64 : decide ((f.set.length : Int) ≤ 64) = false := decide_eq_false f_s64
    have e_s64 := Aside0.mk q_s64
    clear q_s64
    go_enter Try.func54, Try.ntmps54
    go_wp2_with fail
    refine (bv (sound_calls _ f.name _ (RN.out.below pS (BX.out.trans (HB0.out.mono (by simp; try omega))))) (e_n.out)).mono ?_
    rintro e w1 ⟨rfl, hb1⟩
    have HB1 := Aside0.mk (HB0.out.trans (hb1.mono HB0.out.size))
    clear hb1
    obtain ⟨bc, bf⟩ := bcell HB1.out
    go_wp2_with fail
    refine (bv (time_calls f.got _) (e_go.out)).mono ?_
    rintro e w2 ⟨rfl, hb2⟩
    have HB2 := Aside0.mk (HB1.out.trans (hb2.mono HB1.out.size))
    clear hb2
    clear bc bf
    obtain ⟨bc, bf⟩ := bcell HB2.out
    go_wp2_with fail
    refine (bv (typed_calls f.typ _) (e_ty.out)).mono ?_
    rintro e w3 ⟨rfl, hb3⟩
    have HB3 := Aside0.mk (HB2.out.trans (hb3.mono HB2.out.size))
    clear hb3
    clear bc bf
    obtain ⟨bc, bf⟩ := bcell HB3.out
    go_wp2_with fail
    go_ret
    refine ⟨?_, (BX.out.trans (HB3.out.mono (by simp; try omega)))⟩
    rw [HN.out]; rfl
  have f_s64 : (f.set.length : Int) ≤ 64 := by omega
  have g_s64 : decide ((f.set.length : Int) ≤ 64) = true := decide_eq_true f_s64
  have e_s64 := Aside0.mk q_s64
  clear q_s64
  by_cases q_di : distinct f.typ f.set = true
  rotate_left
  · have HN : Aside0 ((fSound f) = false) := ⟨eq_false_of_ne_true fun h => q_di (by obtain ⟨g_n, g_r1, g_r4, g_go, g_t0, g_t1, g_ty, g_s1, g_s64, g_di, g_z0, g_no⟩ := HD.out.1 h; exact g_di)⟩
    have e_di := Aside0.mk q_di
    clear q_di
    go_enter Try.func54, Try.ntmps54
    go_wp2_with fail
    refine (bv (sound_calls _ f.name _ (RN.out.below pS (BX.out.trans (HB0.out.mono (by simp; try omega))))) (e_n.out)).mono ?_
    rintro e w1 ⟨rfl, hb1⟩
    have HB1 := Aside0.mk (HB0.out.trans (hb1.mono HB0.out.size))
    clear hb1
    obtain ⟨bc, bf⟩ := bcell HB1.out
    go_wp2_with fail
    refine (bv (time_calls f.got _) (e_go.out)).mono ?_
    rintro e w2 ⟨rfl, hb2⟩
    have HB2 := Aside0.mk (HB1.out.trans (hb2.mono HB1.out.size))
    clear hb2
    clear bc bf
    obtain ⟨bc, bf⟩ := bcell HB2.out
    go_wp2_with fail
    refine (bv (typed_calls f.typ _) (e_ty.out)).mono ?_
    rintro e w3 ⟨rfl, hb3⟩
    have HB3 := Aside0.mk (HB2.out.trans (hb3.mono HB2.out.size))
    clear hb3
    clear bc bf
    obtain ⟨bc, bf⟩ := bcell HB3.out
    go_wp2_with fail
    refine (bv (distinct_calls f.typ _ f.set _ (RS.out.below pD (BX.out.trans (HB3.out.mono (by simp; try omega))))) (eq_false_of_ne_true e_di.out)).mono ?_
    rintro e w4 ⟨rfl, hb4⟩
    have HB4 := Aside0.mk (HB3.out.trans (hb4.mono HB3.out.size))
    clear hb4
    clear bc bf
    obtain ⟨bc, bf⟩ := bcell HB4.out
    go_wp2_with fail
    go_ret
    refine ⟨?_, (BX.out.trans (HB4.out.mono (by simp; try omega)))⟩
    rw [HN.out]; rfl
  have e_di := Aside0.mk q_di
  clear q_di
  by_cases q_z0 : f.zone.length = 0
  rotate_left
  · have HN : Aside0 ((fSound f) = false) := ⟨eq_false_of_ne_true fun h => q_z0 (by obtain ⟨g_n, g_r1, g_r4, g_go, g_t0, g_t1, g_ty, g_s1, g_s64, g_di, g_z0, g_no⟩ := HD.out.1 h; exact g_z0)⟩
    have f_z0 : ((f.zone.length : Int) == 0) = false := beq_eq_false_iff_ne.mpr (by omega)
    have e_z0 := Aside0.mk q_z0
    clear q_z0
    go_enter Try.func54, Try.ntmps54
    go_wp2_with fail
    refine (bv (sound_calls _ f.name _ (RN.out.below pS (BX.out.trans (HB0.out.mono (by simp; try omega))))) (e_n.out)).mono ?_
    rintro e w1 ⟨rfl, hb1⟩
    have HB1 := Aside0.mk (HB0.out.trans (hb1.mono HB0.out.size))
    clear hb1
    obtain ⟨bc, bf⟩ := bcell HB1.out
    go_wp2_with fail
    refine (bv (time_calls f.got _) (e_go.out)).mono ?_
    rintro e w2 ⟨rfl, hb2⟩
    have HB2 := Aside0.mk (HB1.out.trans (hb2.mono HB1.out.size))
    clear hb2
    clear bc bf
    obtain ⟨bc, bf⟩ := bcell HB2.out
    go_wp2_with fail
    refine (bv (typed_calls f.typ _) (e_ty.out)).mono ?_
    rintro e w3 ⟨rfl, hb3⟩
    have HB3 := Aside0.mk (HB2.out.trans (hb3.mono HB2.out.size))
    clear hb3
    clear bc bf
    obtain ⟨bc, bf⟩ := bcell HB3.out
    go_wp2_with fail
    refine (bv (distinct_calls f.typ _ f.set _ (RS.out.below pD (BX.out.trans (HB3.out.mono (by simp; try omega))))) (e_di.out)).mono ?_
    rintro e w4 ⟨rfl, hb4⟩
    have HB4 := Aside0.mk (HB3.out.trans (hb4.mono HB3.out.size))
    clear hb4
    clear bc bf
    obtain ⟨bc, bf⟩ := bcell HB4.out
    go_wp2_with fail
    go_ret
    refine ⟨?_, (BX.out.trans (HB4.out.mono (by simp; try omega)))⟩
    rw [HN.out]; rfl
  have f_z0 : ((f.zone.length : Int) == 0) = true := beq_iff_eq.mpr (by omega)
  have e_z0 := Aside0.mk q_z0
  clear q_z0
  by_cases q_no : noneB f.soa = true
  rotate_left
  · have HN : Aside0 ((fSound f) = false) := ⟨eq_false_of_ne_true fun h => q_no (by obtain ⟨g_n, g_r1, g_r4, g_go, g_t0, g_t1, g_ty, g_s1, g_s64, g_di, g_z0, g_no⟩ := HD.out.1 h; exact g_no)⟩
    have e_no := Aside0.mk q_no
    clear q_no
    go_enter Try.func54, Try.ntmps54
    go_wp2_with fail
    refine (bv (sound_calls _ f.name _ (RN.out.below pS (BX.out.trans (HB0.out.mono (by simp; try omega))))) (e_n.out)).mono ?_
    rintro e w1 ⟨rfl, hb1⟩
    have HB1 := Aside0.mk (HB0.out.trans (hb1.mono HB0.out.size))
    clear hb1
    obtain ⟨bc, bf⟩ := bcell HB1.out
    go_wp2_with fail
    refine (bv (time_calls f.got _) (e_go.out)).mono ?_
    rintro e w2 ⟨rfl, hb2⟩
    have HB2 := Aside0.mk (HB1.out.trans (hb2.mono HB1.out.size))
    clear hb2
    clear bc bf
    obtain ⟨bc, bf⟩ := bcell HB2.out
    go_wp2_with fail
    refine (bv (typed_calls f.typ _) (e_ty.out)).mono ?_
    rintro e w3 ⟨rfl, hb3⟩
    have HB3 := Aside0.mk (HB2.out.trans (hb3.mono HB2.out.size))
    clear hb3
    clear bc bf
    obtain ⟨bc, bf⟩ := bcell HB3.out
    go_wp2_with fail
    refine (bv (distinct_calls f.typ _ f.set _ (RS.out.below pD (BX.out.trans (HB3.out.mono (by simp; try omega))))) (e_di.out)).mono ?_
    rintro e w4 ⟨rfl, hb4⟩
    have HB4 := Aside0.mk (HB3.out.trans (hb4.mono HB3.out.size))
    clear hb4
    clear bc bf
    obtain ⟨bc, bf⟩ := bcell HB4.out
    go_wp2_with fail
    refine (bv (none_calls f.soa _ _ (K_below KS.out (BX.out.trans (HB4.out.mono (by simp; try omega)))) NR.out) (eq_false_of_ne_true e_no.out)).mono ?_
    rintro e w5 ⟨rfl, hb5⟩
    have HB5 := Aside0.mk (HB4.out.trans (hb5.mono HB4.out.size))
    clear hb5
    clear bc bf
    obtain ⟨bc, bf⟩ := bcell HB5.out
    go_wp2_with fail
    go_ret
    refine ⟨?_, (BX.out.trans (HB5.out.mono (by simp; try omega)))⟩
    rw [HN.out]; rfl
  have e_no := Aside0.mk q_no
  clear q_no
  have HY : Aside0 ((fSound f) = true) := ⟨HD.out.2 ⟨e_n.out, e_r1.out, e_r4.out, e_go.out, e_t0.out, e_t1.out, e_ty.out, e_s1.out, e_s64.out, e_di.out, e_z0.out, e_no.out⟩⟩
  go_enter Try.func54, Try.ntmps54
  go_wp2_with fail
  refine (bv (sound_calls _ f.name _ (RN.out.below pS (BX.out.trans (HB0.out.mono (by simp; try omega))))) (e_n.out)).mono ?_
  rintro e w1 ⟨rfl, hb1⟩
  have HB1 := Aside0.mk (HB0.out.trans (hb1.mono HB0.out.size))
  clear hb1
  obtain ⟨bc, bf⟩ := bcell HB1.out
  go_wp2_with fail
  refine (bv (time_calls f.got _) (e_go.out)).mono ?_
  rintro e w2 ⟨rfl, hb2⟩
  have HB2 := Aside0.mk (HB1.out.trans (hb2.mono HB1.out.size))
  clear hb2
  clear bc bf
  obtain ⟨bc, bf⟩ := bcell HB2.out
  go_wp2_with fail
  refine (bv (typed_calls f.typ _) (e_ty.out)).mono ?_
  rintro e w3 ⟨rfl, hb3⟩
  have HB3 := Aside0.mk (HB2.out.trans (hb3.mono HB2.out.size))
  clear hb3
  clear bc bf
  obtain ⟨bc, bf⟩ := bcell HB3.out
  go_wp2_with fail
  refine (bv (distinct_calls f.typ _ f.set _ (RS.out.below pD (BX.out.trans (HB3.out.mono (by simp; try omega))))) (e_di.out)).mono ?_
  rintro e w4 ⟨rfl, hb4⟩
  have HB4 := Aside0.mk (HB3.out.trans (hb4.mono HB3.out.size))
  clear hb4
  clear bc bf
  obtain ⟨bc, bf⟩ := bcell HB4.out
  go_wp2_with fail
  refine (bv (none_calls f.soa _ _ (K_below KS.out (BX.out.trans (HB4.out.mono (by simp; try omega)))) NR.out) (e_no.out)).mono ?_
  rintro e w5 ⟨rfl, hb5⟩
  have HB5 := Aside0.mk (HB4.out.trans (hb5.mono HB4.out.size))
  clear hb5
  clear bc bf
  obtain ⟨bc, bf⟩ := bcell HB5.out
  go_wp2_with fail
  go_ret
  refine ⟨?_, (BX.out.trans (HB5.out.mono (by simp; try omega)))⟩
  rw [HY.out]; rfl
set_option maxHeartbeats 16000000 in
set_option maxRecDepth 100000 in
theorem fsound_2 (f : Fact) (cf : List Value) (w : World) (hf : kF.K w (fun _ => True) f cf) (hk2 : f.kind = 2) :
    Calls Try.prog 54 #[.agg cf.toArray] w fun e w' => e = .returned (.bool (fSound f)) ∧ Below w.heap.size w w' := by
  have HD : Aside0 ((fSound f) = true ↔ (nSound f.name = true ∧ 1 ≤ f.rank ∧ f.rank ≤ 4 ∧ timeB f.got = true ∧ 0 ≤ f.ttl ∧ f.ttl ≤ 604800 ∧ f.ttl ≤ 10800 ∧ f.set.length = 0 ∧ nSound f.zone = true ∧ nUnder f.name f.zone = true ∧ DOk 6 f.soa ∧ typed f.typ = true)) := ⟨by unfold fSound; rw [if_neg (by omega), if_pos hk2]; simp [Bool.and_eq_true, and_assoc]⟩
  obtain ⟨vn, vset, vzone, cd, rfl, hn, _, _, _, _, _, hset, hzone, hsoa⟩ := hf
  have RN := Aside0.mk hn
  have RS := Aside0.mk hset
  have RZ := Aside0.mk hzone
  have NR := Aside0.mk (noneB_room hsoa)
  obtain ⟨A4, k4, A5, k5, A6, k6, A7, k7, A8, k8, rfl⟩ := kD_form hsoa
  have KS := Aside0.mk hsoa
  have hms := hset.max
  have hmz := hzone.max
  obtain ⟨An, cn, rfl, _, _⟩ := hn
  obtain ⟨As, cs, rfl, _, _⟩ := hset
  obtain ⟨Az, cz, rfl, _, _⟩ := hzone
  clear hsoa
  have fk : (f.kind == 1) = false := beq_eq_false_iff_ne.mpr (by omega)
  have fk2 : (f.kind == 2) = true := beq_iff_eq.mpr hk2
  have fk3 : (f.kind == 3) = false := beq_eq_false_iff_ne.mpr (by omega)
  clear hk2
  have BX : Aside0 (Below w.heap.size w (w.alloc (.cells #[.slice An f.name.length cn, .int .i64 f.typ, .int .i64 f.kind, .int .i64 f.rank, .int .i64 f.got, .int .i64 f.ttl, .slice As f.set.length cs, .slice Az f.zone.length cz, .slice A4 f.soa.bytes.length k4, .slice A5 f.soa.host.length k5, .slice A6 f.soa.mail.length k6, .slice A7 f.soa.nums.length k7, .slice A8 f.soa.texts.length k8] 68))) := ⟨below_alloc (Below.refl _ _) _⟩
  have HB0 : Aside0 (Below (w.alloc (.cells #[.slice An f.name.length cn, .int .i64 f.typ, .int .i64 f.kind, .int .i64 f.rank, .int .i64 f.got, .int .i64 f.ttl, .slice As f.set.length cs, .slice Az f.zone.length cz, .slice A4 f.soa.bytes.length k4, .slice A5 f.soa.host.length k5, .slice A6 f.soa.mail.length k6, .slice A7 f.soa.nums.length k7, .slice A8 f.soa.texts.length k8] 68)).heap.size (w.alloc (.cells #[.slice An f.name.length cn, .int .i64 f.typ, .int .i64 f.kind, .int .i64 f.rank, .int .i64 f.got, .int .i64 f.ttl, .slice As f.set.length cs, .slice Az f.zone.length cz, .slice A4 f.soa.bytes.length k4, .slice A5 f.soa.host.length k5, .slice A6 f.soa.mail.length k6, .slice A7 f.soa.nums.length k7, .slice A8 f.soa.texts.length k8] 68)) (w.alloc (.cells #[.slice An f.name.length cn, .int .i64 f.typ, .int .i64 f.kind, .int .i64 f.rank, .int .i64 f.got, .int .i64 f.ttl, .slice As f.set.length cs, .slice Az f.zone.length cz, .slice A4 f.soa.bytes.length k4, .slice A5 f.soa.host.length k5, .slice A6 f.soa.mail.length k6, .slice A7 f.soa.nums.length k7, .slice A8 f.soa.texts.length k8] 68))) := ⟨Below.refl _ _⟩
  by_cases q_n : nSound f.name = true
  rotate_left
  · have HN : Aside0 ((fSound f) = false) := ⟨eq_false_of_ne_true fun h => q_n (by obtain ⟨g_n, g_r1, g_r4, g_go, g_t0, g_t1, g_x1, g_x2, g_zn, g_un, g_do, g_ty⟩ := HD.out.1 h; exact g_n)⟩
    have e_n := Aside0.mk q_n
    clear q_n
    go_enter Try.func54, Try.ntmps54
    go_wp2_with fail
    refine (bv (sound_calls _ f.name _ (RN.out.below pS (BX.out.trans (HB0.out.mono (by simp; try omega))))) (eq_false_of_ne_true e_n.out)).mono ?_
    rintro e w1 ⟨rfl, hb1⟩
    have HB1 := Aside0.mk (HB0.out.trans (hb1.mono HB0.out.size))
    clear hb1
    obtain ⟨bc, bf⟩ := bcell HB1.out
    go_wp2_with fail
    go_ret
    refine ⟨?_, (BX.out.trans (HB1.out.mono (by simp; try omega)))⟩
    rw [HN.out]; rfl
  have e_n := Aside0.mk q_n
  clear q_n
  by_cases q_r1 : 1 ≤ f.rank
  rotate_left
  · have HN : Aside0 ((fSound f) = false) := ⟨eq_false_of_ne_true fun h => q_r1 (by obtain ⟨g_n, g_r1, g_r4, g_go, g_t0, g_t1, g_x1, g_x2, g_zn, g_un, g_do, g_ty⟩ := HD.out.1 h; exact g_r1)⟩
    have f_r1 : f.rank < 1 := by omega
    have g_r1 : decide (f.rank < 1) = true := decide_eq_true f_r1
    have e_r1 := Aside0.mk q_r1
    clear q_r1
    go_enter Try.func54, Try.ntmps54
    go_wp2_with fail
    refine (bv (sound_calls _ f.name _ (RN.out.below pS (BX.out.trans (HB0.out.mono (by simp; try omega))))) (e_n.out)).mono ?_
    rintro e w1 ⟨rfl, hb1⟩
    have HB1 := Aside0.mk (HB0.out.trans (hb1.mono HB0.out.size))
    clear hb1
    obtain ⟨bc, bf⟩ := bcell HB1.out
    go_wp2_with fail
    go_ret
    refine ⟨?_, (BX.out.trans (HB1.out.mono (by simp; try omega)))⟩
    rw [HN.out]; rfl
  have f_r1 : ¬ f.rank < 1 := by omega
  have g_r1 : decide (f.rank < 1) = false := decide_eq_false f_r1
  have e_r1 := Aside0.mk q_r1
  clear q_r1
  by_cases q_r4 : f.rank ≤ 4
  rotate_left
  · have HN : Aside0 ((fSound f) = false) := ⟨eq_false_of_ne_true fun h => q_r4 (by obtain ⟨g_n, g_r1, g_r4, g_go, g_t0, g_t1, g_x1, g_x2, g_zn, g_un, g_do, g_ty⟩ := HD.out.1 h; exact g_r4)⟩
    have f_r4 : 4 < f.rank := by omega
    have g_r4 : decide (4 < f.rank) = true := decide_eq_true f_r4
    have e_r4 := Aside0.mk q_r4
    clear q_r4
    go_enter Try.func54, Try.ntmps54
    go_wp2_with fail
    refine (bv (sound_calls _ f.name _ (RN.out.below pS (BX.out.trans (HB0.out.mono (by simp; try omega))))) (e_n.out)).mono ?_
    rintro e w1 ⟨rfl, hb1⟩
    have HB1 := Aside0.mk (HB0.out.trans (hb1.mono HB0.out.size))
    clear hb1
    obtain ⟨bc, bf⟩ := bcell HB1.out
    go_wp2_with fail
    go_ret
    refine ⟨?_, (BX.out.trans (HB1.out.mono (by simp; try omega)))⟩
    rw [HN.out]; rfl
  have f_r4 : ¬ 4 < f.rank := by omega
  have g_r4 : decide (4 < f.rank) = false := decide_eq_false f_r4
  have e_r4 := Aside0.mk q_r4
  clear q_r4
  by_cases q_go : timeB f.got = true
  rotate_left
  · have HN : Aside0 ((fSound f) = false) := ⟨eq_false_of_ne_true fun h => q_go (by obtain ⟨g_n, g_r1, g_r4, g_go, g_t0, g_t1, g_x1, g_x2, g_zn, g_un, g_do, g_ty⟩ := HD.out.1 h; exact g_go)⟩
    have e_go := Aside0.mk q_go
    clear q_go
    go_enter Try.func54, Try.ntmps54
    go_wp2_with fail
    refine (bv (sound_calls _ f.name _ (RN.out.below pS (BX.out.trans (HB0.out.mono (by simp; try omega))))) (e_n.out)).mono ?_
    rintro e w1 ⟨rfl, hb1⟩
    have HB1 := Aside0.mk (HB0.out.trans (hb1.mono HB0.out.size))
    clear hb1
    obtain ⟨bc, bf⟩ := bcell HB1.out
    go_wp2_with fail
    refine (bv (time_calls f.got _) (eq_false_of_ne_true e_go.out)).mono ?_
    rintro e w2 ⟨rfl, hb2⟩
    have HB2 := Aside0.mk (HB1.out.trans (hb2.mono HB1.out.size))
    clear hb2
    clear bc bf
    obtain ⟨bc, bf⟩ := bcell HB2.out
    go_wp2_with fail
    go_ret
    refine ⟨?_, (BX.out.trans (HB2.out.mono (by simp; try omega)))⟩
    rw [HN.out]; rfl
  have e_go := Aside0.mk q_go
  clear q_go
  by_cases q_t0 : 0 ≤ f.ttl
  rotate_left
  · have HN : Aside0 ((fSound f) = false) := ⟨eq_false_of_ne_true fun h => q_t0 (by obtain ⟨g_n, g_r1, g_r4, g_go, g_t0, g_t1, g_x1, g_x2, g_zn, g_un, g_do, g_ty⟩ := HD.out.1 h; exact g_t0)⟩
    have f_t0 : f.ttl < 0 := by omega
    have g_t0 : decide (f.ttl < 0) = true := decide_eq_true f_t0
    have e_t0 := Aside0.mk q_t0
    clear q_t0
    go_enter Try.func54, Try.ntmps54
    go_wp2_with fail
    refine (bv (sound_calls _ f.name _ (RN.out.below pS (BX.out.trans (HB0.out.mono (by simp; try omega))))) (e_n.out)).mono ?_
    rintro e w1 ⟨rfl, hb1⟩
    have HB1 := Aside0.mk (HB0.out.trans (hb1.mono HB0.out.size))
    clear hb1
    obtain ⟨bc, bf⟩ := bcell HB1.out
    go_wp2_with fail
    refine (bv (time_calls f.got _) (e_go.out)).mono ?_
    rintro e w2 ⟨rfl, hb2⟩
    have HB2 := Aside0.mk (HB1.out.trans (hb2.mono HB1.out.size))
    clear hb2
    clear bc bf
    obtain ⟨bc, bf⟩ := bcell HB2.out
    go_wp2_with fail
    go_ret
    refine ⟨?_, (BX.out.trans (HB2.out.mono (by simp; try omega)))⟩
    rw [HN.out]; rfl
  have f_t0 : ¬ f.ttl < 0 := by omega
  have g_t0 : decide (f.ttl < 0) = false := decide_eq_false f_t0
  have e_t0 := Aside0.mk q_t0
  clear q_t0
  by_cases q_t1 : f.ttl ≤ 604800
  rotate_left
  · have HN : Aside0 ((fSound f) = false) := ⟨eq_false_of_ne_true fun h => q_t1 (by obtain ⟨g_n, g_r1, g_r4, g_go, g_t0, g_t1, g_x1, g_x2, g_zn, g_un, g_do, g_ty⟩ := HD.out.1 h; exact g_t1)⟩
    have f_t1 : 604800 < f.ttl := by omega
    have g_t1 : decide (604800 < f.ttl) = true := decide_eq_true f_t1
    have e_t1 := Aside0.mk q_t1
    clear q_t1
    go_enter Try.func54, Try.ntmps54
    go_wp2_with fail
    refine (bv (sound_calls _ f.name _ (RN.out.below pS (BX.out.trans (HB0.out.mono (by simp; try omega))))) (e_n.out)).mono ?_
    rintro e w1 ⟨rfl, hb1⟩
    have HB1 := Aside0.mk (HB0.out.trans (hb1.mono HB0.out.size))
    clear hb1
    obtain ⟨bc, bf⟩ := bcell HB1.out
    go_wp2_with fail
    refine (bv (time_calls f.got _) (e_go.out)).mono ?_
    rintro e w2 ⟨rfl, hb2⟩
    have HB2 := Aside0.mk (HB1.out.trans (hb2.mono HB1.out.size))
    clear hb2
    clear bc bf
    obtain ⟨bc, bf⟩ := bcell HB2.out
    go_wp2_with fail
    go_ret
    refine ⟨?_, (BX.out.trans (HB2.out.mono (by simp; try omega)))⟩
    rw [HN.out]; rfl
  have f_t1 : ¬ 604800 < f.ttl := by omega
  have g_t1 : decide (604800 < f.ttl) = false := decide_eq_false f_t1
  have e_t1 := Aside0.mk q_t1
  clear q_t1
  by_cases q_x1 : f.ttl ≤ 10800
  rotate_left
  · have HN : Aside0 ((fSound f) = false) := ⟨eq_false_of_ne_true fun h => q_x1 (by obtain ⟨g_n, g_r1, g_r4, g_go, g_t0, g_t1, g_x1, g_x2, g_zn, g_un, g_do, g_ty⟩ := HD.out.1 h; exact g_x1)⟩
    have f_x1 : 10800 < f.ttl := by omega
    have g_x1 : decide (10800 < f.ttl) = true := decide_eq_true f_x1
    have e_x1 := Aside0.mk q_x1
    clear q_x1
    go_enter Try.func54, Try.ntmps54
    go_wp2_with fail
    refine (bv (sound_calls _ f.name _ (RN.out.below pS (BX.out.trans (HB0.out.mono (by simp; try omega))))) (e_n.out)).mono ?_
    rintro e w1 ⟨rfl, hb1⟩
    have HB1 := Aside0.mk (HB0.out.trans (hb1.mono HB0.out.size))
    clear hb1
    obtain ⟨bc, bf⟩ := bcell HB1.out
    go_wp2_with fail
    refine (bv (time_calls f.got _) (e_go.out)).mono ?_
    rintro e w2 ⟨rfl, hb2⟩
    have HB2 := Aside0.mk (HB1.out.trans (hb2.mono HB1.out.size))
    clear hb2
    clear bc bf
    obtain ⟨bc, bf⟩ := bcell HB2.out
    go_wp2_with fail
    go_ret
    refine ⟨?_, (BX.out.trans (HB2.out.mono (by simp; try omega)))⟩
    rw [HN.out]; rfl
  have f_x1 : ¬ 10800 < f.ttl := by omega
  have g_x1 : decide (10800 < f.ttl) = false := decide_eq_false f_x1
  have e_x1 := Aside0.mk q_x1
  clear q_x1
  by_cases q_x2 : f.set.length = 0
  rotate_left
  · have HN : Aside0 ((fSound f) = false) := ⟨eq_false_of_ne_true fun h => q_x2 (by obtain ⟨g_n, g_r1, g_r4, g_go, g_t0, g_t1, g_x1, g_x2, g_zn, g_un, g_do, g_ty⟩ := HD.out.1 h; exact g_x2)⟩
    have f_x2 : 0 < f.set.length := by omega
    have g_x2 : decide (0 < f.set.length) = true := decide_eq_true f_x2
    have e_x2 := Aside0.mk q_x2
    clear q_x2
    go_enter Try.func54, Try.ntmps54
    go_wp2_with fail
    refine (bv (sound_calls _ f.name _ (RN.out.below pS (BX.out.trans (HB0.out.mono (by simp; try omega))))) (e_n.out)).mono ?_
    rintro e w1 ⟨rfl, hb1⟩
    have HB1 := Aside0.mk (HB0.out.trans (hb1.mono HB0.out.size))
    clear hb1
    obtain ⟨bc, bf⟩ := bcell HB1.out
    go_wp2_with fail
    refine (bv (time_calls f.got _) (e_go.out)).mono ?_
    rintro e w2 ⟨rfl, hb2⟩
    have HB2 := Aside0.mk (HB1.out.trans (hb2.mono HB1.out.size))
    clear hb2
    clear bc bf
    obtain ⟨bc, bf⟩ := bcell HB2.out
    go_wp2_with fail
    go_ret
    refine ⟨?_, (BX.out.trans (HB2.out.mono (by simp; try omega)))⟩
    rw [HN.out]; rfl
  have f_x2 : ¬ 0 < f.set.length := by omega
  have g_x2 : decide (0 < f.set.length) = false := decide_eq_false f_x2
  have e_x2 := Aside0.mk q_x2
  clear q_x2
  by_cases q_zn : nSound f.zone = true
  rotate_left
  · have HN : Aside0 ((fSound f) = false) := ⟨eq_false_of_ne_true fun h => q_zn (by obtain ⟨g_n, g_r1, g_r4, g_go, g_t0, g_t1, g_x1, g_x2, g_zn, g_un, g_do, g_ty⟩ := HD.out.1 h; exact g_zn)⟩
    have e_zn := Aside0.mk q_zn
    clear q_zn
    go_enter Try.func54, Try.ntmps54
    go_wp2_with fail
    refine (bv (sound_calls _ f.name _ (RN.out.below pS (BX.out.trans (HB0.out.mono (by simp; try omega))))) (e_n.out)).mono ?_
    rintro e w1 ⟨rfl, hb1⟩
    have HB1 := Aside0.mk (HB0.out.trans (hb1.mono HB0.out.size))
    clear hb1
    obtain ⟨bc, bf⟩ := bcell HB1.out
    go_wp2_with fail
    refine (bv (time_calls f.got _) (e_go.out)).mono ?_
    rintro e w2 ⟨rfl, hb2⟩
    have HB2 := Aside0.mk (HB1.out.trans (hb2.mono HB1.out.size))
    clear hb2
    clear bc bf
    obtain ⟨bc, bf⟩ := bcell HB2.out
    go_wp2_with fail
    refine (bv (sound_calls _ f.zone _ (RZ.out.below pS (BX.out.trans (HB2.out.mono (by simp; try omega))))) (eq_false_of_ne_true e_zn.out)).mono ?_
    rintro e w3 ⟨rfl, hb3⟩
    have HB3 := Aside0.mk (HB2.out.trans (hb3.mono HB2.out.size))
    clear hb3
    clear bc bf
    obtain ⟨bc, bf⟩ := bcell HB3.out
    go_wp2_with fail
    go_ret
    refine ⟨?_, (BX.out.trans (HB3.out.mono (by simp; try omega)))⟩
    rw [HN.out]; rfl
  have e_zn := Aside0.mk q_zn
  clear q_zn
  by_cases q_un : nUnder f.name f.zone = true
  rotate_left
  · have HN : Aside0 ((fSound f) = false) := ⟨eq_false_of_ne_true fun h => q_un (by obtain ⟨g_n, g_r1, g_r4, g_go, g_t0, g_t1, g_x1, g_x2, g_zn, g_un, g_do, g_ty⟩ := HD.out.1 h; exact g_un)⟩
    have e_un := Aside0.mk q_un
    clear q_un
    go_enter Try.func54, Try.ntmps54
    go_wp2_with fail
    refine (bv (sound_calls _ f.name _ (RN.out.below pS (BX.out.trans (HB0.out.mono (by simp; try omega))))) (e_n.out)).mono ?_
    rintro e w1 ⟨rfl, hb1⟩
    have HB1 := Aside0.mk (HB0.out.trans (hb1.mono HB0.out.size))
    clear hb1
    obtain ⟨bc, bf⟩ := bcell HB1.out
    go_wp2_with fail
    refine (bv (time_calls f.got _) (e_go.out)).mono ?_
    rintro e w2 ⟨rfl, hb2⟩
    have HB2 := Aside0.mk (HB1.out.trans (hb2.mono HB1.out.size))
    clear hb2
    clear bc bf
    obtain ⟨bc, bf⟩ := bcell HB2.out
    go_wp2_with fail
    refine (bv (sound_calls _ f.zone _ (RZ.out.below pS (BX.out.trans (HB2.out.mono (by simp; try omega))))) (e_zn.out)).mono ?_
    rintro e w3 ⟨rfl, hb3⟩
    have HB3 := Aside0.mk (HB2.out.trans (hb3.mono HB2.out.size))
    clear hb3
    clear bc bf
    obtain ⟨bc, bf⟩ := bcell HB3.out
    go_wp2_with fail
    refine (bv (under_calls _ _ f.name f.zone _ (RN.out.below pS (BX.out.trans (HB3.out.mono (by simp; try omega)))) (RZ.out.below pS (BX.out.trans (HB3.out.mono (by simp; try omega))))) (eq_false_of_ne_true e_un.out)).mono ?_
    rintro e w4 ⟨rfl, hb4⟩
    have HB4 := Aside0.mk (HB3.out.trans (hb4.mono HB3.out.size))
    clear hb4
    clear bc bf
    obtain ⟨bc, bf⟩ := bcell HB4.out
    go_wp2_with fail
    go_ret
    refine ⟨?_, (BX.out.trans (HB4.out.mono (by simp; try omega)))⟩
    rw [HN.out]; rfl
  have e_un := Aside0.mk q_un
  clear q_un
  by_cases q_do : DOk 6 f.soa
  rotate_left
  · have HN : Aside0 ((fSound f) = false) := ⟨eq_false_of_ne_true fun h => q_do (by obtain ⟨g_n, g_r1, g_r4, g_go, g_t0, g_t1, g_x1, g_x2, g_zn, g_un, g_do, g_ty⟩ := HD.out.1 h; exact g_do)⟩
    have e_do := Aside0.mk q_do
    clear q_do
    go_enter Try.func54, Try.ntmps54
    go_wp2_with fail
    refine (bv (sound_calls _ f.name _ (RN.out.below pS (BX.out.trans (HB0.out.mono (by simp; try omega))))) (e_n.out)).mono ?_
    rintro e w1 ⟨rfl, hb1⟩
    have HB1 := Aside0.mk (HB0.out.trans (hb1.mono HB0.out.size))
    clear hb1
    obtain ⟨bc, bf⟩ := bcell HB1.out
    go_wp2_with fail
    refine (bv (time_calls f.got _) (e_go.out)).mono ?_
    rintro e w2 ⟨rfl, hb2⟩
    have HB2 := Aside0.mk (HB1.out.trans (hb2.mono HB1.out.size))
    clear hb2
    clear bc bf
    obtain ⟨bc, bf⟩ := bcell HB2.out
    go_wp2_with fail
    refine (bv (sound_calls _ f.zone _ (RZ.out.below pS (BX.out.trans (HB2.out.mono (by simp; try omega))))) (e_zn.out)).mono ?_
    rintro e w3 ⟨rfl, hb3⟩
    have HB3 := Aside0.mk (HB2.out.trans (hb3.mono HB2.out.size))
    clear hb3
    clear bc bf
    obtain ⟨bc, bf⟩ := bcell HB3.out
    go_wp2_with fail
    refine (bv (under_calls _ _ f.name f.zone _ (RN.out.below pS (BX.out.trans (HB3.out.mono (by simp; try omega)))) (RZ.out.below pS (BX.out.trans (HB3.out.mono (by simp; try omega))))) (e_un.out)).mono ?_
    rintro e w4 ⟨rfl, hb4⟩
    have HB4 := Aside0.mk (HB3.out.trans (hb4.mono HB3.out.size))
    clear hb4
    clear bc bf
    obtain ⟨bc, bf⟩ := bcell HB4.out
    go_wp2_with fail
    refine (bv (dsound_calls 6 f.soa _ _ (K_below KS.out (BX.out.trans (HB4.out.mono (by simp; try omega))))) (decide_eq_false e_do.out)).mono ?_
    rintro e w5 ⟨rfl, hb5⟩
    have HB5 := Aside0.mk (HB4.out.trans (hb5.mono HB4.out.size))
    clear hb5
    clear bc bf
    obtain ⟨bc, bf⟩ := bcell HB5.out
    go_wp2_with fail
    go_ret
    refine ⟨?_, (BX.out.trans (HB5.out.mono (by simp; try omega)))⟩
    rw [HN.out]; rfl
  have e_do := Aside0.mk q_do
  clear q_do
  by_cases q_ty : typed f.typ = true
  rotate_left
  · have HN : Aside0 ((fSound f) = false) := ⟨eq_false_of_ne_true fun h => q_ty (by obtain ⟨g_n, g_r1, g_r4, g_go, g_t0, g_t1, g_x1, g_x2, g_zn, g_un, g_do, g_ty⟩ := HD.out.1 h; exact g_ty)⟩
    have e_ty := Aside0.mk q_ty
    clear q_ty
    go_enter Try.func54, Try.ntmps54
    go_wp2_with fail
    refine (bv (sound_calls _ f.name _ (RN.out.below pS (BX.out.trans (HB0.out.mono (by simp; try omega))))) (e_n.out)).mono ?_
    rintro e w1 ⟨rfl, hb1⟩
    have HB1 := Aside0.mk (HB0.out.trans (hb1.mono HB0.out.size))
    clear hb1
    obtain ⟨bc, bf⟩ := bcell HB1.out
    go_wp2_with fail
    refine (bv (time_calls f.got _) (e_go.out)).mono ?_
    rintro e w2 ⟨rfl, hb2⟩
    have HB2 := Aside0.mk (HB1.out.trans (hb2.mono HB1.out.size))
    clear hb2
    clear bc bf
    obtain ⟨bc, bf⟩ := bcell HB2.out
    go_wp2_with fail
    refine (bv (sound_calls _ f.zone _ (RZ.out.below pS (BX.out.trans (HB2.out.mono (by simp; try omega))))) (e_zn.out)).mono ?_
    rintro e w3 ⟨rfl, hb3⟩
    have HB3 := Aside0.mk (HB2.out.trans (hb3.mono HB2.out.size))
    clear hb3
    clear bc bf
    obtain ⟨bc, bf⟩ := bcell HB3.out
    go_wp2_with fail
    refine (bv (under_calls _ _ f.name f.zone _ (RN.out.below pS (BX.out.trans (HB3.out.mono (by simp; try omega)))) (RZ.out.below pS (BX.out.trans (HB3.out.mono (by simp; try omega))))) (e_un.out)).mono ?_
    rintro e w4 ⟨rfl, hb4⟩
    have HB4 := Aside0.mk (HB3.out.trans (hb4.mono HB3.out.size))
    clear hb4
    clear bc bf
    obtain ⟨bc, bf⟩ := bcell HB4.out
    go_wp2_with fail
    refine (bv (dsound_calls 6 f.soa _ _ (K_below KS.out (BX.out.trans (HB4.out.mono (by simp; try omega))))) (decide_eq_true e_do.out)).mono ?_
    rintro e w5 ⟨rfl, hb5⟩
    have HB5 := Aside0.mk (HB4.out.trans (hb5.mono HB4.out.size))
    clear hb5
    clear bc bf
    obtain ⟨bc, bf⟩ := bcell HB5.out
    go_wp2_with fail
    refine (bv (typed_calls f.typ _) (eq_false_of_ne_true e_ty.out)).mono ?_
    rintro e w6 ⟨rfl, hb6⟩
    have HB6 := Aside0.mk (HB5.out.trans (hb6.mono HB5.out.size))
    clear hb6
    clear bc bf
    obtain ⟨bc, bf⟩ := bcell HB6.out
    go_wp2_with fail
    go_ret
    refine ⟨?_, (BX.out.trans (HB6.out.mono (by simp; try omega)))⟩
    rw [HN.out]; rfl
  have e_ty := Aside0.mk q_ty
  clear q_ty
  have HY : Aside0 ((fSound f) = true) := ⟨HD.out.2 ⟨e_n.out, e_r1.out, e_r4.out, e_go.out, e_t0.out, e_t1.out, e_x1.out, e_x2.out, e_zn.out, e_un.out, e_do.out, e_ty.out⟩⟩
  go_enter Try.func54, Try.ntmps54
  go_wp2_with fail
  refine (bv (sound_calls _ f.name _ (RN.out.below pS (BX.out.trans (HB0.out.mono (by simp; try omega))))) (e_n.out)).mono ?_
  rintro e w1 ⟨rfl, hb1⟩
  have HB1 := Aside0.mk (HB0.out.trans (hb1.mono HB0.out.size))
  clear hb1
  obtain ⟨bc, bf⟩ := bcell HB1.out
  go_wp2_with fail
  refine (bv (time_calls f.got _) (e_go.out)).mono ?_
  rintro e w2 ⟨rfl, hb2⟩
  have HB2 := Aside0.mk (HB1.out.trans (hb2.mono HB1.out.size))
  clear hb2
  clear bc bf
  obtain ⟨bc, bf⟩ := bcell HB2.out
  go_wp2_with fail
  refine (bv (sound_calls _ f.zone _ (RZ.out.below pS (BX.out.trans (HB2.out.mono (by simp; try omega))))) (e_zn.out)).mono ?_
  rintro e w3 ⟨rfl, hb3⟩
  have HB3 := Aside0.mk (HB2.out.trans (hb3.mono HB2.out.size))
  clear hb3
  clear bc bf
  obtain ⟨bc, bf⟩ := bcell HB3.out
  go_wp2_with fail
  refine (bv (under_calls _ _ f.name f.zone _ (RN.out.below pS (BX.out.trans (HB3.out.mono (by simp; try omega)))) (RZ.out.below pS (BX.out.trans (HB3.out.mono (by simp; try omega))))) (e_un.out)).mono ?_
  rintro e w4 ⟨rfl, hb4⟩
  have HB4 := Aside0.mk (HB3.out.trans (hb4.mono HB3.out.size))
  clear hb4
  clear bc bf
  obtain ⟨bc, bf⟩ := bcell HB4.out
  go_wp2_with fail
  refine (bv (dsound_calls 6 f.soa _ _ (K_below KS.out (BX.out.trans (HB4.out.mono (by simp; try omega))))) (decide_eq_true e_do.out)).mono ?_
  rintro e w5 ⟨rfl, hb5⟩
  have HB5 := Aside0.mk (HB4.out.trans (hb5.mono HB4.out.size))
  clear hb5
  clear bc bf
  obtain ⟨bc, bf⟩ := bcell HB5.out
  go_wp2_with fail
  refine (bv (typed_calls f.typ _) (e_ty.out)).mono ?_
  rintro e w6 ⟨rfl, hb6⟩
  have HB6 := Aside0.mk (HB5.out.trans (hb6.mono HB5.out.size))
  clear hb6
  clear bc bf
  obtain ⟨bc, bf⟩ := bcell HB6.out
  go_wp2_with fail
  go_ret
  refine ⟨?_, (BX.out.trans (HB6.out.mono (by simp; try omega)))⟩
  rw [HY.out]; rfl
set_option maxHeartbeats 16000000 in
set_option maxRecDepth 100000 in
theorem fsound_3 (f : Fact) (cf : List Value) (w : World) (hf : kF.K w (fun _ => True) f cf) (hk1 : ¬ f.kind = 1) (hk2 : ¬ f.kind = 2) :
    Calls Try.prog 54 #[.agg cf.toArray] w fun e w' => e = .returned (.bool (fSound f)) ∧ Below w.heap.size w w' := by
  have HD : Aside0 ((fSound f) = true ↔ (nSound f.name = true ∧ 1 ≤ f.rank ∧ f.rank ≤ 4 ∧ timeB f.got = true ∧ 0 ≤ f.ttl ∧ f.ttl ≤ 604800 ∧ f.ttl ≤ 10800 ∧ f.set.length = 0 ∧ nSound f.zone = true ∧ nUnder f.name f.zone = true ∧ DOk 6 f.soa ∧ f.kind = 3 ∧ f.typ = 0)) := ⟨by unfold fSound; rw [if_neg hk1, if_neg hk2]; simp [Bool.and_eq_true, and_assoc]⟩
  obtain ⟨vn, vset, vzone, cd, rfl, hn, _, _, _, _, _, hset, hzone, hsoa⟩ := hf
  have RN := Aside0.mk hn
  have RS := Aside0.mk hset
  have RZ := Aside0.mk hzone
  have NR := Aside0.mk (noneB_room hsoa)
  obtain ⟨A4, k4, A5, k5, A6, k6, A7, k7, A8, k8, rfl⟩ := kD_form hsoa
  have KS := Aside0.mk hsoa
  have hms := hset.max
  have hmz := hzone.max
  obtain ⟨An, cn, rfl, _, _⟩ := hn
  obtain ⟨As, cs, rfl, _, _⟩ := hset
  obtain ⟨Az, cz, rfl, _, _⟩ := hzone
  clear hsoa
  have fk : (f.kind == 1) = false := beq_eq_false_iff_ne.mpr hk1
  have fk2 : (f.kind == 2) = false := beq_eq_false_iff_ne.mpr hk2
  clear hk1 hk2
  have BX : Aside0 (Below w.heap.size w (w.alloc (.cells #[.slice An f.name.length cn, .int .i64 f.typ, .int .i64 f.kind, .int .i64 f.rank, .int .i64 f.got, .int .i64 f.ttl, .slice As f.set.length cs, .slice Az f.zone.length cz, .slice A4 f.soa.bytes.length k4, .slice A5 f.soa.host.length k5, .slice A6 f.soa.mail.length k6, .slice A7 f.soa.nums.length k7, .slice A8 f.soa.texts.length k8] 68))) := ⟨below_alloc (Below.refl _ _) _⟩
  have HB0 : Aside0 (Below (w.alloc (.cells #[.slice An f.name.length cn, .int .i64 f.typ, .int .i64 f.kind, .int .i64 f.rank, .int .i64 f.got, .int .i64 f.ttl, .slice As f.set.length cs, .slice Az f.zone.length cz, .slice A4 f.soa.bytes.length k4, .slice A5 f.soa.host.length k5, .slice A6 f.soa.mail.length k6, .slice A7 f.soa.nums.length k7, .slice A8 f.soa.texts.length k8] 68)).heap.size (w.alloc (.cells #[.slice An f.name.length cn, .int .i64 f.typ, .int .i64 f.kind, .int .i64 f.rank, .int .i64 f.got, .int .i64 f.ttl, .slice As f.set.length cs, .slice Az f.zone.length cz, .slice A4 f.soa.bytes.length k4, .slice A5 f.soa.host.length k5, .slice A6 f.soa.mail.length k6, .slice A7 f.soa.nums.length k7, .slice A8 f.soa.texts.length k8] 68)) (w.alloc (.cells #[.slice An f.name.length cn, .int .i64 f.typ, .int .i64 f.kind, .int .i64 f.rank, .int .i64 f.got, .int .i64 f.ttl, .slice As f.set.length cs, .slice Az f.zone.length cz, .slice A4 f.soa.bytes.length k4, .slice A5 f.soa.host.length k5, .slice A6 f.soa.mail.length k6, .slice A7 f.soa.nums.length k7, .slice A8 f.soa.texts.length k8] 68))) := ⟨Below.refl _ _⟩
  by_cases q_n : nSound f.name = true
  rotate_left
  · have HN : Aside0 ((fSound f) = false) := ⟨eq_false_of_ne_true fun h => q_n (by obtain ⟨g_n, g_r1, g_r4, g_go, g_t0, g_t1, g_x1, g_x2, g_zn, g_un, g_do, g_k3, g_t00⟩ := HD.out.1 h; exact g_n)⟩
    have e_n := Aside0.mk q_n
    clear q_n
    go_enter Try.func54, Try.ntmps54
    go_wp2_with fail
    refine (bv (sound_calls _ f.name _ (RN.out.below pS (BX.out.trans (HB0.out.mono (by simp; try omega))))) (eq_false_of_ne_true e_n.out)).mono ?_
    rintro e w1 ⟨rfl, hb1⟩
    have HB1 := Aside0.mk (HB0.out.trans (hb1.mono HB0.out.size))
    clear hb1
    obtain ⟨bc, bf⟩ := bcell HB1.out
    go_wp2_with fail
    go_ret
    refine ⟨?_, (BX.out.trans (HB1.out.mono (by simp; try omega)))⟩
    rw [HN.out]; rfl
  have e_n := Aside0.mk q_n
  clear q_n
  by_cases q_r1 : 1 ≤ f.rank
  rotate_left
  · have HN : Aside0 ((fSound f) = false) := ⟨eq_false_of_ne_true fun h => q_r1 (by obtain ⟨g_n, g_r1, g_r4, g_go, g_t0, g_t1, g_x1, g_x2, g_zn, g_un, g_do, g_k3, g_t00⟩ := HD.out.1 h; exact g_r1)⟩
    have f_r1 : f.rank < 1 := by omega
    have g_r1 : decide (f.rank < 1) = true := decide_eq_true f_r1
    have e_r1 := Aside0.mk q_r1
    clear q_r1
    go_enter Try.func54, Try.ntmps54
    go_wp2_with fail
    refine (bv (sound_calls _ f.name _ (RN.out.below pS (BX.out.trans (HB0.out.mono (by simp; try omega))))) (e_n.out)).mono ?_
    rintro e w1 ⟨rfl, hb1⟩
    have HB1 := Aside0.mk (HB0.out.trans (hb1.mono HB0.out.size))
    clear hb1
    obtain ⟨bc, bf⟩ := bcell HB1.out
    go_wp2_with fail
    go_ret
    refine ⟨?_, (BX.out.trans (HB1.out.mono (by simp; try omega)))⟩
    rw [HN.out]; rfl
  have f_r1 : ¬ f.rank < 1 := by omega
  have g_r1 : decide (f.rank < 1) = false := decide_eq_false f_r1
  have e_r1 := Aside0.mk q_r1
  clear q_r1
  by_cases q_r4 : f.rank ≤ 4
  rotate_left
  · have HN : Aside0 ((fSound f) = false) := ⟨eq_false_of_ne_true fun h => q_r4 (by obtain ⟨g_n, g_r1, g_r4, g_go, g_t0, g_t1, g_x1, g_x2, g_zn, g_un, g_do, g_k3, g_t00⟩ := HD.out.1 h; exact g_r4)⟩
    have f_r4 : 4 < f.rank := by omega
    have g_r4 : decide (4 < f.rank) = true := decide_eq_true f_r4
    have e_r4 := Aside0.mk q_r4
    clear q_r4
    go_enter Try.func54, Try.ntmps54
    go_wp2_with fail
    refine (bv (sound_calls _ f.name _ (RN.out.below pS (BX.out.trans (HB0.out.mono (by simp; try omega))))) (e_n.out)).mono ?_
    rintro e w1 ⟨rfl, hb1⟩
    have HB1 := Aside0.mk (HB0.out.trans (hb1.mono HB0.out.size))
    clear hb1
    obtain ⟨bc, bf⟩ := bcell HB1.out
    go_wp2_with fail
    go_ret
    refine ⟨?_, (BX.out.trans (HB1.out.mono (by simp; try omega)))⟩
    rw [HN.out]; rfl
  have f_r4 : ¬ 4 < f.rank := by omega
  have g_r4 : decide (4 < f.rank) = false := decide_eq_false f_r4
  have e_r4 := Aside0.mk q_r4
  clear q_r4
  by_cases q_go : timeB f.got = true
  rotate_left
  · have HN : Aside0 ((fSound f) = false) := ⟨eq_false_of_ne_true fun h => q_go (by obtain ⟨g_n, g_r1, g_r4, g_go, g_t0, g_t1, g_x1, g_x2, g_zn, g_un, g_do, g_k3, g_t00⟩ := HD.out.1 h; exact g_go)⟩
    have e_go := Aside0.mk q_go
    clear q_go
    go_enter Try.func54, Try.ntmps54
    go_wp2_with fail
    refine (bv (sound_calls _ f.name _ (RN.out.below pS (BX.out.trans (HB0.out.mono (by simp; try omega))))) (e_n.out)).mono ?_
    rintro e w1 ⟨rfl, hb1⟩
    have HB1 := Aside0.mk (HB0.out.trans (hb1.mono HB0.out.size))
    clear hb1
    obtain ⟨bc, bf⟩ := bcell HB1.out
    go_wp2_with fail
    refine (bv (time_calls f.got _) (eq_false_of_ne_true e_go.out)).mono ?_
    rintro e w2 ⟨rfl, hb2⟩
    have HB2 := Aside0.mk (HB1.out.trans (hb2.mono HB1.out.size))
    clear hb2
    clear bc bf
    obtain ⟨bc, bf⟩ := bcell HB2.out
    go_wp2_with fail
    go_ret
    refine ⟨?_, (BX.out.trans (HB2.out.mono (by simp; try omega)))⟩
    rw [HN.out]; rfl
  have e_go := Aside0.mk q_go
  clear q_go
  by_cases q_t0 : 0 ≤ f.ttl
  rotate_left
  · have HN : Aside0 ((fSound f) = false) := ⟨eq_false_of_ne_true fun h => q_t0 (by obtain ⟨g_n, g_r1, g_r4, g_go, g_t0, g_t1, g_x1, g_x2, g_zn, g_un, g_do, g_k3, g_t00⟩ := HD.out.1 h; exact g_t0)⟩
    have f_t0 : f.ttl < 0 := by omega
    have g_t0 : decide (f.ttl < 0) = true := decide_eq_true f_t0
    have e_t0 := Aside0.mk q_t0
    clear q_t0
    go_enter Try.func54, Try.ntmps54
    go_wp2_with fail
    refine (bv (sound_calls _ f.name _ (RN.out.below pS (BX.out.trans (HB0.out.mono (by simp; try omega))))) (e_n.out)).mono ?_
    rintro e w1 ⟨rfl, hb1⟩
    have HB1 := Aside0.mk (HB0.out.trans (hb1.mono HB0.out.size))
    clear hb1
    obtain ⟨bc, bf⟩ := bcell HB1.out
    go_wp2_with fail
    refine (bv (time_calls f.got _) (e_go.out)).mono ?_
    rintro e w2 ⟨rfl, hb2⟩
    have HB2 := Aside0.mk (HB1.out.trans (hb2.mono HB1.out.size))
    clear hb2
    clear bc bf
    obtain ⟨bc, bf⟩ := bcell HB2.out
    go_wp2_with fail
    go_ret
    refine ⟨?_, (BX.out.trans (HB2.out.mono (by simp; try omega)))⟩
    rw [HN.out]; rfl
  have f_t0 : ¬ f.ttl < 0 := by omega
  have g_t0 : decide (f.ttl < 0) = false := decide_eq_false f_t0
  have e_t0 := Aside0.mk q_t0
  clear q_t0
  by_cases q_t1 : f.ttl ≤ 604800
  rotate_left
  · have HN : Aside0 ((fSound f) = false) := ⟨eq_false_of_ne_true fun h => q_t1 (by obtain ⟨g_n, g_r1, g_r4, g_go, g_t0, g_t1, g_x1, g_x2, g_zn, g_un, g_do, g_k3, g_t00⟩ := HD.out.1 h; exact g_t1)⟩
    have f_t1 : 604800 < f.ttl := by omega
    have g_t1 : decide (604800 < f.ttl) = true := decide_eq_true f_t1
    have e_t1 := Aside0.mk q_t1
    clear q_t1
    go_enter Try.func54, Try.ntmps54
    go_wp2_with fail
    refine (bv (sound_calls _ f.name _ (RN.out.below pS (BX.out.trans (HB0.out.mono (by simp; try omega))))) (e_n.out)).mono ?_
    rintro e w1 ⟨rfl, hb1⟩
    have HB1 := Aside0.mk (HB0.out.trans (hb1.mono HB0.out.size))
    clear hb1
    obtain ⟨bc, bf⟩ := bcell HB1.out
    go_wp2_with fail
    refine (bv (time_calls f.got _) (e_go.out)).mono ?_
    rintro e w2 ⟨rfl, hb2⟩
    have HB2 := Aside0.mk (HB1.out.trans (hb2.mono HB1.out.size))
    clear hb2
    clear bc bf
    obtain ⟨bc, bf⟩ := bcell HB2.out
    go_wp2_with fail
    go_ret
    refine ⟨?_, (BX.out.trans (HB2.out.mono (by simp; try omega)))⟩
    rw [HN.out]; rfl
  have f_t1 : ¬ 604800 < f.ttl := by omega
  have g_t1 : decide (604800 < f.ttl) = false := decide_eq_false f_t1
  have e_t1 := Aside0.mk q_t1
  clear q_t1
  by_cases q_x1 : f.ttl ≤ 10800
  rotate_left
  · have HN : Aside0 ((fSound f) = false) := ⟨eq_false_of_ne_true fun h => q_x1 (by obtain ⟨g_n, g_r1, g_r4, g_go, g_t0, g_t1, g_x1, g_x2, g_zn, g_un, g_do, g_k3, g_t00⟩ := HD.out.1 h; exact g_x1)⟩
    have f_x1 : 10800 < f.ttl := by omega
    have g_x1 : decide (10800 < f.ttl) = true := decide_eq_true f_x1
    have e_x1 := Aside0.mk q_x1
    clear q_x1
    go_enter Try.func54, Try.ntmps54
    go_wp2_with fail
    refine (bv (sound_calls _ f.name _ (RN.out.below pS (BX.out.trans (HB0.out.mono (by simp; try omega))))) (e_n.out)).mono ?_
    rintro e w1 ⟨rfl, hb1⟩
    have HB1 := Aside0.mk (HB0.out.trans (hb1.mono HB0.out.size))
    clear hb1
    obtain ⟨bc, bf⟩ := bcell HB1.out
    go_wp2_with fail
    refine (bv (time_calls f.got _) (e_go.out)).mono ?_
    rintro e w2 ⟨rfl, hb2⟩
    have HB2 := Aside0.mk (HB1.out.trans (hb2.mono HB1.out.size))
    clear hb2
    clear bc bf
    obtain ⟨bc, bf⟩ := bcell HB2.out
    go_wp2_with fail
    go_ret
    refine ⟨?_, (BX.out.trans (HB2.out.mono (by simp; try omega)))⟩
    rw [HN.out]; rfl
  have f_x1 : ¬ 10800 < f.ttl := by omega
  have g_x1 : decide (10800 < f.ttl) = false := decide_eq_false f_x1
  have e_x1 := Aside0.mk q_x1
  clear q_x1
  by_cases q_x2 : f.set.length = 0
  rotate_left
  · have HN : Aside0 ((fSound f) = false) := ⟨eq_false_of_ne_true fun h => q_x2 (by obtain ⟨g_n, g_r1, g_r4, g_go, g_t0, g_t1, g_x1, g_x2, g_zn, g_un, g_do, g_k3, g_t00⟩ := HD.out.1 h; exact g_x2)⟩
    have f_x2 : 0 < f.set.length := by omega
    have g_x2 : decide (0 < f.set.length) = true := decide_eq_true f_x2
    have e_x2 := Aside0.mk q_x2
    clear q_x2
    go_enter Try.func54, Try.ntmps54
    go_wp2_with fail
    refine (bv (sound_calls _ f.name _ (RN.out.below pS (BX.out.trans (HB0.out.mono (by simp; try omega))))) (e_n.out)).mono ?_
    rintro e w1 ⟨rfl, hb1⟩
    have HB1 := Aside0.mk (HB0.out.trans (hb1.mono HB0.out.size))
    clear hb1
    obtain ⟨bc, bf⟩ := bcell HB1.out
    go_wp2_with fail
    refine (bv (time_calls f.got _) (e_go.out)).mono ?_
    rintro e w2 ⟨rfl, hb2⟩
    have HB2 := Aside0.mk (HB1.out.trans (hb2.mono HB1.out.size))
    clear hb2
    clear bc bf
    obtain ⟨bc, bf⟩ := bcell HB2.out
    go_wp2_with fail
    go_ret
    refine ⟨?_, (BX.out.trans (HB2.out.mono (by simp; try omega)))⟩
    rw [HN.out]; rfl
  have f_x2 : ¬ 0 < f.set.length := by omega
  have g_x2 : decide (0 < f.set.length) = false := decide_eq_false f_x2
  have e_x2 := Aside0.mk q_x2
  clear q_x2
  by_cases q_zn : nSound f.zone = true
  rotate_left
  · have HN : Aside0 ((fSound f) = false) := ⟨eq_false_of_ne_true fun h => q_zn (by obtain ⟨g_n, g_r1, g_r4, g_go, g_t0, g_t1, g_x1, g_x2, g_zn, g_un, g_do, g_k3, g_t00⟩ := HD.out.1 h; exact g_zn)⟩
    have e_zn := Aside0.mk q_zn
    clear q_zn
    go_enter Try.func54, Try.ntmps54
    go_wp2_with fail
    refine (bv (sound_calls _ f.name _ (RN.out.below pS (BX.out.trans (HB0.out.mono (by simp; try omega))))) (e_n.out)).mono ?_
    rintro e w1 ⟨rfl, hb1⟩
    have HB1 := Aside0.mk (HB0.out.trans (hb1.mono HB0.out.size))
    clear hb1
    obtain ⟨bc, bf⟩ := bcell HB1.out
    go_wp2_with fail
    refine (bv (time_calls f.got _) (e_go.out)).mono ?_
    rintro e w2 ⟨rfl, hb2⟩
    have HB2 := Aside0.mk (HB1.out.trans (hb2.mono HB1.out.size))
    clear hb2
    clear bc bf
    obtain ⟨bc, bf⟩ := bcell HB2.out
    go_wp2_with fail
    refine (bv (sound_calls _ f.zone _ (RZ.out.below pS (BX.out.trans (HB2.out.mono (by simp; try omega))))) (eq_false_of_ne_true e_zn.out)).mono ?_
    rintro e w3 ⟨rfl, hb3⟩
    have HB3 := Aside0.mk (HB2.out.trans (hb3.mono HB2.out.size))
    clear hb3
    clear bc bf
    obtain ⟨bc, bf⟩ := bcell HB3.out
    go_wp2_with fail
    go_ret
    refine ⟨?_, (BX.out.trans (HB3.out.mono (by simp; try omega)))⟩
    rw [HN.out]; rfl
  have e_zn := Aside0.mk q_zn
  clear q_zn
  by_cases q_un : nUnder f.name f.zone = true
  rotate_left
  · have HN : Aside0 ((fSound f) = false) := ⟨eq_false_of_ne_true fun h => q_un (by obtain ⟨g_n, g_r1, g_r4, g_go, g_t0, g_t1, g_x1, g_x2, g_zn, g_un, g_do, g_k3, g_t00⟩ := HD.out.1 h; exact g_un)⟩
    have e_un := Aside0.mk q_un
    clear q_un
    go_enter Try.func54, Try.ntmps54
    go_wp2_with fail
    refine (bv (sound_calls _ f.name _ (RN.out.below pS (BX.out.trans (HB0.out.mono (by simp; try omega))))) (e_n.out)).mono ?_
    rintro e w1 ⟨rfl, hb1⟩
    have HB1 := Aside0.mk (HB0.out.trans (hb1.mono HB0.out.size))
    clear hb1
    obtain ⟨bc, bf⟩ := bcell HB1.out
    go_wp2_with fail
    refine (bv (time_calls f.got _) (e_go.out)).mono ?_
    rintro e w2 ⟨rfl, hb2⟩
    have HB2 := Aside0.mk (HB1.out.trans (hb2.mono HB1.out.size))
    clear hb2
    clear bc bf
    obtain ⟨bc, bf⟩ := bcell HB2.out
    go_wp2_with fail
    refine (bv (sound_calls _ f.zone _ (RZ.out.below pS (BX.out.trans (HB2.out.mono (by simp; try omega))))) (e_zn.out)).mono ?_
    rintro e w3 ⟨rfl, hb3⟩
    have HB3 := Aside0.mk (HB2.out.trans (hb3.mono HB2.out.size))
    clear hb3
    clear bc bf
    obtain ⟨bc, bf⟩ := bcell HB3.out
    go_wp2_with fail
    refine (bv (under_calls _ _ f.name f.zone _ (RN.out.below pS (BX.out.trans (HB3.out.mono (by simp; try omega)))) (RZ.out.below pS (BX.out.trans (HB3.out.mono (by simp; try omega))))) (eq_false_of_ne_true e_un.out)).mono ?_
    rintro e w4 ⟨rfl, hb4⟩
    have HB4 := Aside0.mk (HB3.out.trans (hb4.mono HB3.out.size))
    clear hb4
    clear bc bf
    obtain ⟨bc, bf⟩ := bcell HB4.out
    go_wp2_with fail
    go_ret
    refine ⟨?_, (BX.out.trans (HB4.out.mono (by simp; try omega)))⟩
    rw [HN.out]; rfl
  have e_un := Aside0.mk q_un
  clear q_un
  by_cases q_do : DOk 6 f.soa
  rotate_left
  · have HN : Aside0 ((fSound f) = false) := ⟨eq_false_of_ne_true fun h => q_do (by obtain ⟨g_n, g_r1, g_r4, g_go, g_t0, g_t1, g_x1, g_x2, g_zn, g_un, g_do, g_k3, g_t00⟩ := HD.out.1 h; exact g_do)⟩
    have e_do := Aside0.mk q_do
    clear q_do
    go_enter Try.func54, Try.ntmps54
    go_wp2_with fail
    refine (bv (sound_calls _ f.name _ (RN.out.below pS (BX.out.trans (HB0.out.mono (by simp; try omega))))) (e_n.out)).mono ?_
    rintro e w1 ⟨rfl, hb1⟩
    have HB1 := Aside0.mk (HB0.out.trans (hb1.mono HB0.out.size))
    clear hb1
    obtain ⟨bc, bf⟩ := bcell HB1.out
    go_wp2_with fail
    refine (bv (time_calls f.got _) (e_go.out)).mono ?_
    rintro e w2 ⟨rfl, hb2⟩
    have HB2 := Aside0.mk (HB1.out.trans (hb2.mono HB1.out.size))
    clear hb2
    clear bc bf
    obtain ⟨bc, bf⟩ := bcell HB2.out
    go_wp2_with fail
    refine (bv (sound_calls _ f.zone _ (RZ.out.below pS (BX.out.trans (HB2.out.mono (by simp; try omega))))) (e_zn.out)).mono ?_
    rintro e w3 ⟨rfl, hb3⟩
    have HB3 := Aside0.mk (HB2.out.trans (hb3.mono HB2.out.size))
    clear hb3
    clear bc bf
    obtain ⟨bc, bf⟩ := bcell HB3.out
    go_wp2_with fail
    refine (bv (under_calls _ _ f.name f.zone _ (RN.out.below pS (BX.out.trans (HB3.out.mono (by simp; try omega)))) (RZ.out.below pS (BX.out.trans (HB3.out.mono (by simp; try omega))))) (e_un.out)).mono ?_
    rintro e w4 ⟨rfl, hb4⟩
    have HB4 := Aside0.mk (HB3.out.trans (hb4.mono HB3.out.size))
    clear hb4
    clear bc bf
    obtain ⟨bc, bf⟩ := bcell HB4.out
    go_wp2_with fail
    refine (bv (dsound_calls 6 f.soa _ _ (K_below KS.out (BX.out.trans (HB4.out.mono (by simp; try omega))))) (decide_eq_false e_do.out)).mono ?_
    rintro e w5 ⟨rfl, hb5⟩
    have HB5 := Aside0.mk (HB4.out.trans (hb5.mono HB4.out.size))
    clear hb5
    clear bc bf
    obtain ⟨bc, bf⟩ := bcell HB5.out
    go_wp2_with fail
    go_ret
    refine ⟨?_, (BX.out.trans (HB5.out.mono (by simp; try omega)))⟩
    rw [HN.out]; rfl
  have e_do := Aside0.mk q_do
  clear q_do
  by_cases q_k3 : f.kind = 3
  rotate_left
  · have HN : Aside0 ((fSound f) = false) := ⟨eq_false_of_ne_true fun h => q_k3 (by obtain ⟨g_n, g_r1, g_r4, g_go, g_t0, g_t1, g_x1, g_x2, g_zn, g_un, g_do, g_k3, g_t00⟩ := HD.out.1 h; exact g_k3)⟩
    have f_k3 : (f.kind == 3) = false := beq_eq_false_iff_ne.mpr (by omega)
    have e_k3 := Aside0.mk q_k3
    clear q_k3
    go_enter Try.func54, Try.ntmps54
    go_wp2_with fail
    refine (bv (sound_calls _ f.name _ (RN.out.below pS (BX.out.trans (HB0.out.mono (by simp; try omega))))) (e_n.out)).mono ?_
    rintro e w1 ⟨rfl, hb1⟩
    have HB1 := Aside0.mk (HB0.out.trans (hb1.mono HB0.out.size))
    clear hb1
    obtain ⟨bc, bf⟩ := bcell HB1.out
    go_wp2_with fail
    refine (bv (time_calls f.got _) (e_go.out)).mono ?_
    rintro e w2 ⟨rfl, hb2⟩
    have HB2 := Aside0.mk (HB1.out.trans (hb2.mono HB1.out.size))
    clear hb2
    clear bc bf
    obtain ⟨bc, bf⟩ := bcell HB2.out
    go_wp2_with fail
    refine (bv (sound_calls _ f.zone _ (RZ.out.below pS (BX.out.trans (HB2.out.mono (by simp; try omega))))) (e_zn.out)).mono ?_
    rintro e w3 ⟨rfl, hb3⟩
    have HB3 := Aside0.mk (HB2.out.trans (hb3.mono HB2.out.size))
    clear hb3
    clear bc bf
    obtain ⟨bc, bf⟩ := bcell HB3.out
    go_wp2_with fail
    refine (bv (under_calls _ _ f.name f.zone _ (RN.out.below pS (BX.out.trans (HB3.out.mono (by simp; try omega)))) (RZ.out.below pS (BX.out.trans (HB3.out.mono (by simp; try omega))))) (e_un.out)).mono ?_
    rintro e w4 ⟨rfl, hb4⟩
    have HB4 := Aside0.mk (HB3.out.trans (hb4.mono HB3.out.size))
    clear hb4
    clear bc bf
    obtain ⟨bc, bf⟩ := bcell HB4.out
    go_wp2_with fail
    refine (bv (dsound_calls 6 f.soa _ _ (K_below KS.out (BX.out.trans (HB4.out.mono (by simp; try omega))))) (decide_eq_true e_do.out)).mono ?_
    rintro e w5 ⟨rfl, hb5⟩
    have HB5 := Aside0.mk (HB4.out.trans (hb5.mono HB4.out.size))
    clear hb5
    clear bc bf
    obtain ⟨bc, bf⟩ := bcell HB5.out
    go_wp2_with fail
    go_ret
    refine ⟨?_, (BX.out.trans (HB5.out.mono (by simp; try omega)))⟩
    rw [HN.out]; rfl
  have f_k3 : (f.kind == 3) = true := beq_iff_eq.mpr (by omega)
  have e_k3 := Aside0.mk q_k3
  clear q_k3
  by_cases q_t00 : f.typ = 0
  rotate_left
  · have HN : Aside0 ((fSound f) = false) := ⟨eq_false_of_ne_true fun h => q_t00 (by obtain ⟨g_n, g_r1, g_r4, g_go, g_t0, g_t1, g_x1, g_x2, g_zn, g_un, g_do, g_k3, g_t00⟩ := HD.out.1 h; exact g_t00)⟩
    have f_t00 : (f.typ == 0) = false := beq_eq_false_iff_ne.mpr (by omega)
    have e_t00 := Aside0.mk q_t00
    clear q_t00
    go_enter Try.func54, Try.ntmps54
    go_wp2_with fail
    refine (bv (sound_calls _ f.name _ (RN.out.below pS (BX.out.trans (HB0.out.mono (by simp; try omega))))) (e_n.out)).mono ?_
    rintro e w1 ⟨rfl, hb1⟩
    have HB1 := Aside0.mk (HB0.out.trans (hb1.mono HB0.out.size))
    clear hb1
    obtain ⟨bc, bf⟩ := bcell HB1.out
    go_wp2_with fail
    refine (bv (time_calls f.got _) (e_go.out)).mono ?_
    rintro e w2 ⟨rfl, hb2⟩
    have HB2 := Aside0.mk (HB1.out.trans (hb2.mono HB1.out.size))
    clear hb2
    clear bc bf
    obtain ⟨bc, bf⟩ := bcell HB2.out
    go_wp2_with fail
    refine (bv (sound_calls _ f.zone _ (RZ.out.below pS (BX.out.trans (HB2.out.mono (by simp; try omega))))) (e_zn.out)).mono ?_
    rintro e w3 ⟨rfl, hb3⟩
    have HB3 := Aside0.mk (HB2.out.trans (hb3.mono HB2.out.size))
    clear hb3
    clear bc bf
    obtain ⟨bc, bf⟩ := bcell HB3.out
    go_wp2_with fail
    refine (bv (under_calls _ _ f.name f.zone _ (RN.out.below pS (BX.out.trans (HB3.out.mono (by simp; try omega)))) (RZ.out.below pS (BX.out.trans (HB3.out.mono (by simp; try omega))))) (e_un.out)).mono ?_
    rintro e w4 ⟨rfl, hb4⟩
    have HB4 := Aside0.mk (HB3.out.trans (hb4.mono HB3.out.size))
    clear hb4
    clear bc bf
    obtain ⟨bc, bf⟩ := bcell HB4.out
    go_wp2_with fail
    refine (bv (dsound_calls 6 f.soa _ _ (K_below KS.out (BX.out.trans (HB4.out.mono (by simp; try omega))))) (decide_eq_true e_do.out)).mono ?_
    rintro e w5 ⟨rfl, hb5⟩
    have HB5 := Aside0.mk (HB4.out.trans (hb5.mono HB4.out.size))
    clear hb5
    clear bc bf
    obtain ⟨bc, bf⟩ := bcell HB5.out
    go_wp2_with fail
    go_ret
    refine ⟨?_, (BX.out.trans (HB5.out.mono (by simp; try omega)))⟩
    rw [HN.out]; rfl
  have f_t00 : (f.typ == 0) = true := beq_iff_eq.mpr (by omega)
  have e_t00 := Aside0.mk q_t00
  clear q_t00
  have HY : Aside0 ((fSound f) = true) := ⟨HD.out.2 ⟨e_n.out, e_r1.out, e_r4.out, e_go.out, e_t0.out, e_t1.out, e_x1.out, e_x2.out, e_zn.out, e_un.out, e_do.out, e_k3.out, e_t00.out⟩⟩
  go_enter Try.func54, Try.ntmps54
  go_wp2_with fail
  refine (bv (sound_calls _ f.name _ (RN.out.below pS (BX.out.trans (HB0.out.mono (by simp; try omega))))) (e_n.out)).mono ?_
  rintro e w1 ⟨rfl, hb1⟩
  have HB1 := Aside0.mk (HB0.out.trans (hb1.mono HB0.out.size))
  clear hb1
  obtain ⟨bc, bf⟩ := bcell HB1.out
  go_wp2_with fail
  refine (bv (time_calls f.got _) (e_go.out)).mono ?_
  rintro e w2 ⟨rfl, hb2⟩
  have HB2 := Aside0.mk (HB1.out.trans (hb2.mono HB1.out.size))
  clear hb2
  clear bc bf
  obtain ⟨bc, bf⟩ := bcell HB2.out
  go_wp2_with fail
  refine (bv (sound_calls _ f.zone _ (RZ.out.below pS (BX.out.trans (HB2.out.mono (by simp; try omega))))) (e_zn.out)).mono ?_
  rintro e w3 ⟨rfl, hb3⟩
  have HB3 := Aside0.mk (HB2.out.trans (hb3.mono HB2.out.size))
  clear hb3
  clear bc bf
  obtain ⟨bc, bf⟩ := bcell HB3.out
  go_wp2_with fail
  refine (bv (under_calls _ _ f.name f.zone _ (RN.out.below pS (BX.out.trans (HB3.out.mono (by simp; try omega)))) (RZ.out.below pS (BX.out.trans (HB3.out.mono (by simp; try omega))))) (e_un.out)).mono ?_
  rintro e w4 ⟨rfl, hb4⟩
  have HB4 := Aside0.mk (HB3.out.trans (hb4.mono HB3.out.size))
  clear hb4
  clear bc bf
  obtain ⟨bc, bf⟩ := bcell HB4.out
  go_wp2_with fail
  refine (bv (dsound_calls 6 f.soa _ _ (K_below KS.out (BX.out.trans (HB4.out.mono (by simp; try omega))))) (decide_eq_true e_do.out)).mono ?_
  rintro e w5 ⟨rfl, hb5⟩
  have HB5 := Aside0.mk (HB4.out.trans (hb5.mono HB4.out.size))
  clear hb5
  clear bc bf
  obtain ⟨bc, bf⟩ := bcell HB5.out
  go_wp2_with fail
  go_ret
  refine ⟨?_, (BX.out.trans (HB5.out.mono (by simp; try omega)))⟩
  rw [HY.out]; rfl
theorem fsound_calls (f : Fact) (cf : List Value) (w : World) (hf : kF.K w (fun _ => True) f cf) :
    Calls Try.prog 54 #[.agg cf.toArray] w fun e w' => e = .returned (.bool (fSound f)) ∧ Below w.heap.size w w' := by
  by_cases h1 : f.kind = 1
  · exact fsound_1 f cf w hf h1
  by_cases h2 : f.kind = 2
  · exact fsound_2 f cf w hf h2
  exact fsound_3 f cf w hf h1 h2
end Go.Proofs.Ytkbjbkmaokebgaa.Gz

import Derived.Test.YtkbjbkmaokebgaaData
import Derived.Test.YtkbjbkmaokebgaaClone
import Derived.Deep.LoopGhost
set_option linter.unusedVariables false
set_option linter.unusedSimpArgs false
namespace Go.Proofs.Ytkbjbkmaokebgaa.Gz
open Go.RowKit Go.Proofs.YtkbjbkmaokebgaaW.PrintWords
open Ki

theorem enters {f : FuncId} {fn : Func} {c : Code} (hf : Try.prog.funcs[f]? = some fn) (hname : (fn.name == "runtime.NumGoroutine") = false) (hb : fn.body = some c) : ∀ (args : Array Value) (w : World), (callFunc f args).run Try.prog w = .ok (.enter f args) w := by
  intro args w
  have h1 : fn.name ≠ "runtime.NumGoroutine" := by simpa using hname
  simp [callFunc, hf, h1, hb, mark]
/-- The first place where p holds; -1: there is none. -/
def ix {α : Type} (p : α → Bool) (xs : List α) : Int := if xs.any p then (xs.findIdx p : Int) else -1
theorem ix_hit {α : Type} (p : α → Bool) (xs : List α) (k : Nat) (hk : k < xs.length) (h : p xs[k] = true) (ha : ∀ j, (hj : j < xs.length) → j < k → p xs[j] = false) : ix p xs = k := by
  have hany : xs.any p = true := List.any_eq_true.2 ⟨xs[k], List.getElem_mem hk, h⟩
  have hf : xs.findIdx p = k := by
    rw [List.findIdx_eq hk]
    exact ⟨h, fun j hj => ha j (by omega) hj⟩
  unfold ix; rw [if_pos hany, hf]
theorem ix_miss {α : Type} (p : α → Bool) (xs : List α) (ha : ∀ j, (hj : j < xs.length) → p xs[j] = false) : ix p xs = -1 := by
  have hany : ¬ (xs.any p = true) := by
    rw [List.any_eq_true]
    rintro ⟨x, hx, hp⟩
    obtain ⟨j, hj, rfl⟩ := List.getElem_of_mem hx
    rw [ha j hj] at hp; cases hp
  unfold ix; rw [if_neg hany]
theorem ix_any {α : Type} (p : α → Bool) (xs : List α) : decide (0 ≤ ix p xs) = xs.any p := by
  unfold ix
  cases h : xs.any p
  · rw [if_neg (by decide)]; rfl
  · rw [if_pos rfl]; simp
theorem len9 {cs : List Value} (h : cs.length = 9) : ∃ c0 c1 c2 c3 c4 c5 c6 c7 c8, cs = [c0, c1, c2, c3, c4, c5, c6, c7, c8] := by
  match cs, h with
  | [c0, c1, c2, c3, c4, c5, c6, c7, c8], _ => exact ⟨c0, c1, c2, c3, c4, c5, c6, c7, c8, rfl⟩
theorem cells9 {w : World} {ad : Addr} {c0 c1 c2 c3 c4 c5 c6 c7 c8 : Value} (m : Nat) (hc : ∀ j u, ([c0, c1, c2, c3, c4, c5, c6, c7, c8] : List Value)[j]? = some u → w.cell? (ad.add (m + j)) = some u) :
    w.cell? (ad.add m) = some c0 ∧ w.cell? ⟨(ad.add m).block, (ad.add m).off + 1, none⟩ = some c1 ∧ w.cell? ⟨(ad.add m).block, (ad.add m).off + 2, none⟩ = some c2 ∧ w.cell? ⟨(ad.add m).block, (ad.add m).off + 3, none⟩ = some c3 ∧ w.cell? ⟨(ad.add m).block, (ad.add m).off + 4, none⟩ = some c4 ∧ w.cell? ⟨(ad.add m).block, (ad.add m).off + 5, none⟩ = some c5 ∧ w.cell? ⟨(ad.add m).block, (ad.add m).off + 6, none⟩ = some c6 ∧ w.cell? ⟨(ad.add m).block, (ad.add m).off + 7, none⟩ = some c7 ∧ w.cell? ⟨(ad.add m).block, (ad.add m).off + 8, none⟩ = some c8 := ⟨hc 0 _ rfl, by rw [← add_field _ _ 1 (by omega)]; exact hc 1 _ rfl, by rw [← add_field _ _ 2 (by omega)]; exact hc 2 _ rfl, by rw [← add_field _ _ 3 (by omega)]; exact hc 3 _ rfl, by rw [← add_field _ _ 4 (by omega)]; exact hc 4 _ rfl, by rw [← add_field _ _ 5 (by omega)]; exact hc 5 _ rfl, by rw [← add_field _ _ 6 (by omega)]; exact hc 6 _ rfl, by rw [← add_field _ _ 7 (by omega)]; exact hc 7 _ rfl, by rw [← add_field _ _ 8 (by omega)]; exact hc 8 _ rfl⟩
theorem len5 {cs : List Value} (h : cs.length = 5) : ∃ c0 c1 c2 c3 c4, cs = [c0, c1, c2, c3, c4] := by
  match cs, h with
  | [c0, c1, c2, c3, c4], _ => exact ⟨c0, c1, c2, c3, c4, rfl⟩
theorem cells5 {w : World} {ad : Addr} {c0 c1 c2 c3 c4 : Value} (m : Nat) (hc : ∀ j u, ([c0, c1, c2, c3, c4] : List Value)[j]? = some u → w.cell? (ad.add (m + j)) = some u) :
    w.cell? (ad.add m) = some c0 ∧ w.cell? ⟨(ad.add m).block, (ad.add m).off + 1, none⟩ = some c1 ∧ w.cell? ⟨(ad.add m).block, (ad.add m).off + 2, none⟩ = some c2 ∧ w.cell? ⟨(ad.add m).block, (ad.add m).off + 3, none⟩ = some c3 ∧ w.cell? ⟨(ad.add m).block, (ad.add m).off + 4, none⟩ = some c4 := ⟨hc 0 _ rfl, by rw [← add_field _ _ 1 (by omega)]; exact hc 1 _ rfl, by rw [← add_field _ _ 2 (by omega)]; exact hc 2 _ rfl, by rw [← add_field _ _ 3 (by omega)]; exact hc 3 _ rfl, by rw [← add_field _ _ 4 (by omega)]; exact hc 4 _ rfl⟩
theorem len3 {cs : List Value} (h : cs.length = 3) : ∃ c0 c1 c2, cs = [c0, c1, c2] := by
  match cs, h with
  | [c0, c1, c2], _ => exact ⟨c0, c1, c2, rfl⟩
theorem cells3 {w : World} {ad : Addr} {c0 c1 c2 : Value} (m : Nat) (hc : ∀ j u, ([c0, c1, c2] : List Value)[j]? = some u → w.cell? (ad.add (m + j)) = some u) :
    w.cell? (ad.add m) = some c0 ∧ w.cell? ⟨(ad.add m).block, (ad.add m).off + 1, none⟩ = some c1 ∧ w.cell? ⟨(ad.add m).block, (ad.add m).off + 2, none⟩ = some c2 := ⟨hc 0 _ rfl, by rw [← add_field _ _ 1 (by omega)]; exact hc 1 _ rfl, by rw [← add_field _ _ 2 (by omega)]; exact hc 2 _ rfl⟩
/-- What is asked of a predicate that is handed over: at each element it answers p. -/
def Pays {α : Type} (d : Ki α) (val : List Value → Value) (g : Nat) (lb : Array Value) (w : World) (xs : List α) (p : α → Bool) : Prop :=
  ∀ (W : World) (x : α) (cs : List Value), x ∈ xs → Below w.heap.size w W → d.K W (fun _ => True) x cs → Calls Try.prog g (#[val cs] ++ lb) W fun e w' => e = .returned (.bool (p x)) ∧ Below W.heap.size W w'
/-- The value of an element of one cell; of several. -/
def val1 (cs : List Value) : Value := cs.headD undef
abbrev valN (cs : List Value) : Value := .agg cs.toArray
theorem cells_one {α : Type} {d : Ki α} {w : World} {ok : Nat → Prop} {x : α} {cs : List Value} (hz : d.sz = 1) (h : d.K w ok x cs) : cs = [val1 cs] := by
  have := d.len h
  rw [hz] at this
  match cs, this with
  | [c], _ => rfl
theorem add_add (ad : Addr) (m j : Nat) : (ad.add m).add j = ad.add (m + j) := by
  unfold Addr.add
  by_cases h1 : m = 0 <;> by_cases h2 : j = 0 <;> simp [h1, h2, Nat.add_assoc]

set_option maxHeartbeats 2000000 in
theorem index_s (v : Value) (xs : List ByteArray) (w : World) (h : kS.Rd w (fun _ => True) v xs) (g : Nat) (lb : Array Value) (p : ByteArray → Bool)
    (eg : ∀ args w, (callFunc g args).run Try.prog w = .ok (.enter g args) w) (hp : Pays kS val1 g lb w xs p) :
    Calls Try.prog 106 #[v, .func (.func g) #[] lb] w fun e w' => e = .returned (.int .i64 (ix p xs)) ∧ Below w.heap.size w w' := by
  have HR := Aside0.mk h
  obtain ⟨A, c, rfl, hl, hr⟩ := h
  have hmax := hr.1.1
  have HP := Aside0.mk hp
  clear hr hp
  go_enter Try.func106, Try.ntmps106
  go_wp2
  go_loopg [5, 8] xs.length (fun gg _ s8 wr => ∃ k : Nat, k ≤ xs.length ∧ xs.length - k ≤ gg ∧ s8 = .int .i64 k ∧ Aside0 (Below w.heap.size w wr) ∧ Aside0 (∀ j, (hj : j < xs.length) → j < k → p xs[j] = false))
  case atStart => exact ⟨0, Nat.zero_le _, by omega, rfl, ⟨Below.refl _ w⟩, ⟨fun j hj h => absurd h (Nat.not_lt_zero _)⟩⟩
  case round =>
    obtain ⟨k, hk, hg, rfl, HB, HA⟩ := hrel
    by_cases hlt : k < xs.length
    · have hltz : (k : Int) < (xs.length : Int) := by omega
      have HR1 : kS.Rd wr (fun _ => True) (.slice A xs.length c) xs := HR.out.below (by decide) HB.out
      obtain ⟨A', c', he, _, hrow⟩ := HR1
      obtain ⟨rfl, rfl⟩ : A = A' ∧ c = c' := by injection he with h1 _ h3; exact ⟨h1, h3⟩
      obtain ⟨ad, cs, rfl, _, hK, hc⟩ := hrow.at_ k hlt
      have hcall := HP.out wr xs[k] cs (List.getElem_mem hlt) HB.out hK
      have hcell : wr.cell? (ad.add k) = some (val1 cs) := by
        have h1 := cells_one rfl hK
        have h2 := hc 0 (val1 cs) (by rw [h1]; rfl)
        simpa [kS, Ki.one1] using h2
      clear hrow hc hK he
      have HX := Aside0.mk hlt
      generalize hy : xs[k] = y at hcall
      have HY : Aside0 (xs[k] = y) := ⟨hy⟩
      clear hy
      cases hq : p y with
      | true =>
        rw [hq] at hcall
        have HC := Aside0.mk hcall
        clear hcall
        go_wp2_with fail
        refine HC.out.mono ?_
        rintro e w' ⟨rfl, hb'⟩
        go_wp2_with fail
        go_ret
        refine ⟨?_, HB.out.trans (hb'.mono HB.out.size)⟩
        rw [ix_hit p xs k HX.out (by rw [HY.out]; exact hq) HA.out]; rfl
      | false =>
        rw [hq] at hcall
        have HC := Aside0.mk hcall
        clear hcall
        go_wp2_with fail
        refine HC.out.mono ?_
        rintro e w' ⟨rfl, hb'⟩
        go_wp2_with fail
        go_roundg (xs.length - (k + 1))
        case measure => omega
        case rel =>
          refine ⟨k + 1, by omega, by omega, by go_num, ⟨HB.out.trans (hb'.mono HB.out.size)⟩, ⟨fun j hj hjk => ?_⟩⟩
          by_cases e : j = k
          · subst e
            rw [HY.out]; exact hq
          · exact HA.out j hj (by omega)
    · have hltz : ¬ (k : Int) < (xs.length : Int) := by omega
      have : k = xs.length := by omega
      subst this
      go_wp2
      go_ret
      refine ⟨?_, HB.out⟩
      rw [ix_miss p xs (fun j hj => HA.out j hj hj)]; rfl
theorem contains_s (v : Value) (xs : List ByteArray) (w : World) (h : kS.Rd w (fun _ => True) v xs) (g : Nat) (lb : Array Value) (p : ByteArray → Bool)
    (eg : ∀ args w, (callFunc g args).run Try.prog w = .ok (.enter g args) w) (hp : Pays kS val1 g lb w xs p) :
    Calls Try.prog 73 #[v, .func (.func g) #[] lb] w fun e w' => e = .returned (.bool (xs.any p)) ∧ Below w.heap.size w w' := by
  rw [← ix_any p xs]
  have hI := Aside0.mk (index_s v xs w h g lb p eg hp)
  obtain ⟨A, c, rfl, hl, hr⟩ := h
  clear hr hp
  go_enter Try.func73, Try.ntmps73
  go_wp2_with (go_at_call 106; refine hI.out.mono ?_; rintro e w' ⟨rfl, hb'⟩)
  go_ret
  exact ⟨rfl, hb'⟩
theorem contains_s_v (b : Bool) (v : Value) (xs : List ByteArray) (w : World) (h : kS.Rd w (fun _ => True) v xs) (g : Nat) (lb : Array Value) (p : ByteArray → Bool)
    (eg : ∀ args w, (callFunc g args).run Try.prog w = .ok (.enter g args) w) (hp : Pays kS val1 g lb w xs p) (hq : xs.any p = b) :
    Calls Try.prog 73 #[v, .func (.func g) #[] lb] w fun e w' => e = .returned (.bool b) ∧ Below w.heap.size w w' := by
  subst hq; exact contains_s v xs w h g lb p eg hp


set_option maxHeartbeats 2000000 in
theorem index_i (v : Value) (xs : List Int) (w : World) (h : kI.Rd w (fun _ => True) v xs) (g : Nat) (lb : Array Value) (p : Int → Bool)
    (eg : ∀ args w, (callFunc g args).run Try.prog w = .ok (.enter g args) w) (hp : Pays kI val1 g lb w xs p) :
    Calls Try.prog 136 #[v, .func (.func g) #[] lb] w fun e w' => e = .returned (.int .i64 (ix p xs)) ∧ Below w.heap.size w w' := by
  have HR := Aside0.mk h
  obtain ⟨A, c, rfl, hl, hr⟩ := h
  have hmax := hr.1.1
  have HP := Aside0.mk hp
  clear hr hp
  go_enter Try.func136, Try.ntmps136
  go_wp2
  go_loopg [5, 8] xs.length (fun gg _ s8 wr => ∃ k : Nat, k ≤ xs.length ∧ xs.length - k ≤ gg ∧ s8 = .int .i64 k ∧ Aside0 (Below w.heap.size w wr) ∧ Aside0 (∀ j, (hj : j < xs.length) → j < k → p xs[j] = false))
  case atStart => exact ⟨0, Nat.zero_le _, by omega, rfl, ⟨Below.refl _ w⟩, ⟨fun j hj h => absurd h (Nat.not_lt_zero _)⟩⟩
  case round =>
    obtain ⟨k, hk, hg, rfl, HB, HA⟩ := hrel
    by_cases hlt : k < xs.length
    · have hltz : (k : Int) < (xs.length : Int) := by omega
      have HR1 : kI.Rd wr (fun _ => True) (.slice A xs.length c) xs := HR.out.below (by decide) HB.out
      obtain ⟨A', c', he, _, hrow⟩ := HR1
      obtain ⟨rfl, rfl⟩ : A = A' ∧ c = c' := by injection he with h1 _ h3; exact ⟨h1, h3⟩
      obtain ⟨ad, cs, rfl, _, hK, hc⟩ := hrow.at_ k hlt
      have hcall := HP.out wr xs[k] cs (List.getElem_mem hlt) HB.out hK
      have hcell : wr.cell? (ad.add k) = some (val1 cs) := by
        have h1 := cells_one rfl hK
        have h2 := hc 0 (val1 cs) (by rw [h1]; rfl)
        simpa [kI, Ki.one1] using h2
      clear hrow hc hK he
      have HX := Aside0.mk hlt
      generalize hy : xs[k] = y at hcall
      have HY : Aside0 (xs[k] = y) := ⟨hy⟩
      clear hy
      cases hq : p y with
      | true =>
        rw [hq] at hcall
        have HC := Aside0.mk hcall
        clear hcall
        go_wp2_with fail
        refine HC.out.mono ?_
        rintro e w' ⟨rfl, hb'⟩
        go_wp2_with fail
        go_ret
        refine ⟨?_, HB.out.trans (hb'.mono HB.out.size)⟩
        rw [ix_hit p xs k HX.out (by rw [HY.out]; exact hq) HA.out]; rfl
      | false =>
        rw [hq] at hcall
        have HC := Aside0.mk hcall
        clear hcall
        go_wp2_with fail
        refine HC.out.mono ?_
        rintro e w' ⟨rfl, hb'⟩
        go_wp2_with fail
        go_roundg (xs.length - (k + 1))
        case measure => omega
        case rel =>
          refine ⟨k + 1, by omega, by omega, by go_num, ⟨HB.out.trans (hb'.mono HB.out.size)⟩, ⟨fun j hj hjk => ?_⟩⟩
          by_cases e : j = k
          · subst e
            rw [HY.out]; exact hq
          · exact HA.out j hj (by omega)
    · have hltz : ¬ (k : Int) < (xs.length : Int) := by omega
      have : k = xs.length := by omega
      subst this
      go_wp2
      go_ret
      refine ⟨?_, HB.out⟩
      rw [ix_miss p xs (fun j hj => HA.out j hj hj)]; rfl
theorem contains_i (v : Value) (xs : List Int) (w : World) (h : kI.Rd w (fun _ => True) v xs) (g : Nat) (lb : Array Value) (p : Int → Bool)
    (eg : ∀ args w, (callFunc g args).run Try.prog w = .ok (.enter g args) w) (hp : Pays kI val1 g lb w xs p) :
    Calls Try.prog 118 #[v, .func (.func g) #[] lb] w fun e w' => e = .returned (.bool (xs.any p)) ∧ Below w.heap.size w w' := by
  rw [← ix_any p xs]
  have hI := Aside0.mk (index_i v xs w h g lb p eg hp)
  obtain ⟨A, c, rfl, hl, hr⟩ := h
  clear hr hp
  go_enter Try.func118, Try.ntmps118
  go_wp2_with (go_at_call 136; refine hI.out.mono ?_; rintro e w' ⟨rfl, hb'⟩)
  go_ret
  exact ⟨rfl, hb'⟩
theorem contains_i_v (b : Bool) (v : Value) (xs : List Int) (w : World) (h : kI.Rd w (fun _ => True) v xs) (g : Nat) (lb : Array Value) (p : Int → Bool)
    (eg : ∀ args w, (callFunc g args).run Try.prog w = .ok (.enter g args) w) (hp : Pays kI val1 g lb w xs p) (hq : xs.any p = b) :
    Calls Try.prog 118 #[v, .func (.func g) #[] lb] w fun e w' => e = .returned (.bool b) ∧ Below w.heap.size w w' := by
  subst hq; exact contains_i v xs w h g lb p eg hp


set_option maxHeartbeats 2000000 in
theorem index_n (v : Value) (xs : List (List ByteArray)) (w : World) (h : (kL kS pS).Rd w (fun _ => True) v xs) (g : Nat) (lb : Array Value) (p : (List ByteArray) → Bool)
    (eg : ∀ args w, (callFunc g args).run Try.prog w = .ok (.enter g args) w) (hp : Pays (kL kS pS) val1 g lb w xs p) :
    Calls Try.prog 113 #[v, .func (.func g) #[] lb] w fun e w' => e = .returned (.int .i64 (ix p xs)) ∧ Below w.heap.size w w' := by
  have HR := Aside0.mk h
  obtain ⟨A, c, rfl, hl, hr⟩ := h
  have hmax := hr.1.1
  have HP := Aside0.mk hp
  clear hr hp
  go_enter Try.func113, Try.ntmps113
  go_wp2
  go_loopg [5, 8] xs.length (fun gg _ s8 wr => ∃ k : Nat, k ≤ xs.length ∧ xs.length - k ≤ gg ∧ s8 = .int .i64 k ∧ Aside0 (Below w.heap.size w wr) ∧ Aside0 (∀ j, (hj : j < xs.length) → j < k → p xs[j] = false))
  case atStart => exact ⟨0, Nat.zero_le _, by omega, rfl, ⟨Below.refl _ w⟩, ⟨fun j hj h => absurd h (Nat.not_lt_zero _)⟩⟩
  case round =>
    obtain ⟨k, hk, hg, rfl, HB, HA⟩ := hrel
    by_cases hlt : k < xs.length
    · have hltz : (k : Int) < (xs.length : Int) := by omega
      have HR1 : (kL kS pS).Rd wr (fun _ => True) (.slice A xs.length c) xs := HR.out.below (by decide) HB.out
      obtain ⟨A', c', he, _, hrow⟩ := HR1
      obtain ⟨rfl, rfl⟩ : A = A' ∧ c = c' := by injection he with h1 _ h3; exact ⟨h1, h3⟩
      obtain ⟨ad, cs, rfl, _, hK, hc⟩ := hrow.at_ k hlt
      have hcall := HP.out wr xs[k] cs (List.getElem_mem hlt) HB.out hK
      have hcell : wr.cell? (ad.add k) = some (val1 cs) := by
        have h1 := cells_one rfl hK
        have h2 := hc 0 (val1 cs) (by rw [h1]; rfl)
        simpa [kL, Ki.one1] using h2
      clear hrow hc hK he
      have HX := Aside0.mk hlt
      generalize hy : xs[k] = y at hcall
      have HY : Aside0 (xs[k] = y) := ⟨hy⟩
      clear hy
      cases hq : p y with
      | true =>
        rw [hq] at hcall
        have HC := Aside0.mk hcall
        clear hcall
        go_wp2_with fail
        refine HC.out.mono ?_
        rintro e w' ⟨rfl, hb'⟩
        go_wp2_with fail
        go_ret
        refine ⟨?_, HB.out.trans (hb'.mono HB.out.size)⟩
        rw [ix_hit p xs k HX.out (by rw [HY.out]; exact hq) HA.out]; rfl
      | false =>
        rw [hq] at hcall
        have HC := Aside0.mk hcall
        clear hcall
        go_wp2_with fail
        refine HC.out.mono ?_
        rintro e w' ⟨rfl, hb'⟩
        go_wp2_with fail
        go_roundg (xs.length - (k + 1))
        case measure => omega
        case rel =>
          refine ⟨k + 1, by omega, by omega, by go_num, ⟨HB.out.trans (hb'.mono HB.out.size)⟩, ⟨fun j hj hjk => ?_⟩⟩
          by_cases e : j = k
          · subst e
            rw [HY.out]; exact hq
          · exact HA.out j hj (by omega)
    · have hltz : ¬ (k : Int) < (xs.length : Int) := by omega
      have : k = xs.length := by omega
      subst this
      go_wp2
      go_ret
      refine ⟨?_, HB.out⟩
      rw [ix_miss p xs (fun j hj => HA.out j hj hj)]; rfl
theorem contains_n (v : Value) (xs : List (List ByteArray)) (w : World) (h : (kL kS pS).Rd w (fun _ => True) v xs) (g : Nat) (lb : Array Value) (p : (List ByteArray) → Bool)
    (eg : ∀ args w, (callFunc g args).run Try.prog w = .ok (.enter g args) w) (hp : Pays (kL kS pS) val1 g lb w xs p) :
    Calls Try.prog 81 #[v, .func (.func g) #[] lb] w fun e w' => e = .returned (.bool (xs.any p)) ∧ Below w.heap.size w w' := by
  rw [← ix_any p xs]
  have hI := Aside0.mk (index_n v xs w h g lb p eg hp)
  obtain ⟨A, c, rfl, hl, hr⟩ := h
  clear hr hp
  go_enter Try.func81, Try.ntmps81
  go_wp2_with (go_at_call 113; refine hI.out.mono ?_; rintro e w' ⟨rfl, hb'⟩)
  go_ret
  exact ⟨rfl, hb'⟩
theorem contains_n_v (b : Bool) (v : Value) (xs : List (List ByteArray)) (w : World) (h : (kL kS pS).Rd w (fun _ => True) v xs) (g : Nat) (lb : Array Value) (p : (List ByteArray) → Bool)
    (eg : ∀ args w, (callFunc g args).run Try.prog w = .ok (.enter g args) w) (hp : Pays (kL kS pS) val1 g lb w xs p) (hq : xs.any p = b) :
    Calls Try.prog 81 #[v, .func (.func g) #[] lb] w fun e w' => e = .returned (.bool b) ∧ Below w.heap.size w w' := by
  subst hq; exact contains_n v xs w h g lb p eg hp


set_option maxHeartbeats 2000000 in
theorem index_r (v : Value) (xs : List RR) (w : World) (h : kR.Rd w (fun _ => True) v xs) (g : Nat) (lb : Array Value) (p : RR → Bool)
    (eg : ∀ args w, (callFunc g args).run Try.prog w = .ok (.enter g args) w) (hp : Pays kR valN g lb w xs p) :
    Calls Try.prog 104 #[v, .func (.func g) #[] lb] w fun e w' => e = .returned (.int .i64 (ix p xs)) ∧ Below w.heap.size w w' := by
  have HR := Aside0.mk h
  obtain ⟨A, c, rfl, hl, hr⟩ := h
  have hmax := hr.1.1
  have HP := Aside0.mk hp
  clear hr hp
  go_enter Try.func104, Try.ntmps104
  go_wp2
  go_loopg [5, 8] xs.length (fun gg _ s8 wr => ∃ k : Nat, k ≤ xs.length ∧ xs.length - k ≤ gg ∧ s8 = .int .i64 k ∧ Aside0 (Below w.heap.size w wr) ∧ Aside0 (∀ j, (hj : j < xs.length) → j < k → p xs[j] = false))
  case atStart => exact ⟨0, Nat.zero_le _, by omega, rfl, ⟨Below.refl _ w⟩, ⟨fun j hj h => absurd h (Nat.not_lt_zero _)⟩⟩
  case round =>
    obtain ⟨k, hk, hg, rfl, HB, HA⟩ := hrel
    by_cases hlt : k < xs.length
    · have hltz : (k : Int) < (xs.length : Int) := by omega
      have HR1 : kR.Rd wr (fun _ => True) (.slice A xs.length c) xs := HR.out.below (by decide) HB.out
      obtain ⟨A', c', he, _, hrow⟩ := HR1
      obtain ⟨rfl, rfl⟩ : A = A' ∧ c = c' := by injection he with h1 _ h3; exact ⟨h1, h3⟩
      obtain ⟨ad, cs, rfl, _, hK, hc⟩ := hrow.at_ k hlt
      have hcall := HP.out wr xs[k] cs (List.getElem_mem hlt) HB.out hK
      obtain ⟨c0, c1, c2, c3, c4, c5, c6, c7, c8, rfl⟩ := len9 (kR.len hK)
      obtain ⟨ec0, ec1, ec2, ec3, ec4, ec5, ec6, ec7, ec8⟩ := cells9 (k * 9) hc
      have hcall : Calls Try.prog g (#[.agg #[c0, c1, c2, c3, c4, c5, c6, c7, c8]] ++ lb) wr fun e w' => e = .returned (.bool (p xs[k])) ∧ Below wr.heap.size wr w' := hcall
      clear hrow hc hK he
      have HX := Aside0.mk hlt
      generalize hy : xs[k] = y at hcall
      have HY : Aside0 (xs[k] = y) := ⟨hy⟩
      clear hy
      cases hq : p y with
      | true =>
        rw [hq] at hcall
        have HC := Aside0.mk hcall
        clear hcall
        go_wp2_with fail
        refine HC.out.mono ?_
        rintro e w' ⟨rfl, hb'⟩
        go_wp2_with fail
        go_ret
        refine ⟨?_, HB.out.trans (hb'.mono HB.out.size)⟩
        rw [ix_hit p xs k HX.out (by rw [HY.out]; exact hq) HA.out]; rfl
      | false =>
        rw [hq] at hcall
        have HC := Aside0.mk hcall
        clear hcall
        go_wp2_with fail
        refine HC.out.mono ?_
        rintro e w' ⟨rfl, hb'⟩
        go_wp2_with fail
        go_roundg (xs.length - (k + 1))
        case measure => omega
        case rel =>
          refine ⟨k + 1, by omega, by omega, by go_num, ⟨HB.out.trans (hb'.mono HB.out.size)⟩, ⟨fun j hj hjk => ?_⟩⟩
          by_cases e : j = k
          · subst e
            rw [HY.out]; exact hq
          · exact HA.out j hj (by omega)
    · have hltz : ¬ (k : Int) < (xs.length : Int) := by omega
      have : k = xs.length := by omega
      subst this
      go_wp2
      go_ret
      refine ⟨?_, HB.out⟩
      rw [ix_miss p xs (fun j hj => HA.out j hj hj)]; rfl
theorem contains_r (v : Value) (xs : List RR) (w : World) (h : kR.Rd w (fun _ => True) v xs) (g : Nat) (lb : Array Value) (p : RR → Bool)
    (eg : ∀ args w, (callFunc g args).run Try.prog w = .ok (.enter g args) w) (hp : Pays kR valN g lb w xs p) :
    Calls Try.prog 70 #[v, .func (.func g) #[] lb] w fun e w' => e = .returned (.bool (xs.any p)) ∧ Below w.heap.size w w' := by
  rw [← ix_any p xs]
  have hI := Aside0.mk (index_r v xs w h g lb p eg hp)
  obtain ⟨A, c, rfl, hl, hr⟩ := h
  clear hr hp
  go_enter Try.func70, Try.ntmps70
  go_wp2_with (go_at_call 104; refine hI.out.mono ?_; rintro e w' ⟨rfl, hb'⟩)
  go_ret
  exact ⟨rfl, hb'⟩
theorem contains_r_v (b : Bool) (v : Value) (xs : List RR) (w : World) (h : kR.Rd w (fun _ => True) v xs) (g : Nat) (lb : Array Value) (p : RR → Bool)
    (eg : ∀ args w, (callFunc g args).run Try.prog w = .ok (.enter g args) w) (hp : Pays kR valN g lb w xs p) (hq : xs.any p = b) :
    Calls Try.prog 70 #[v, .func (.func g) #[] lb] w fun e w' => e = .returned (.bool b) ∧ Below w.heap.size w w' := by
  subst hq; exact contains_r v xs w h g lb p eg hp


set_option maxHeartbeats 2000000 in
theorem index_d (v : Value) (xs : List Dat) (w : World) (h : kD.Rd w (fun _ => True) v xs) (g : Nat) (lb : Array Value) (p : Dat → Bool)
    (eg : ∀ args w, (callFunc g args).run Try.prog w = .ok (.enter g args) w) (hp : Pays kD valN g lb w xs p) :
    Calls Try.prog 135 #[v, .func (.func g) #[] lb] w fun e w' => e = .returned (.int .i64 (ix p xs)) ∧ Below w.heap.size w w' := by
  have HR := Aside0.mk h
  obtain ⟨A, c, rfl, hl, hr⟩ := h
  have hmax := hr.1.1
  have HP := Aside0.mk hp
  clear hr hp
  go_enter Try.func135, Try.ntmps135
  go_wp2
  go_loopg [5, 8] xs.length (fun gg _ s8 wr => ∃ k : Nat, k ≤ xs.length ∧ xs.length - k ≤ gg ∧ s8 = .int .i64 k ∧ Aside0 (Below w.heap.size w wr) ∧ Aside0 (∀ j, (hj : j < xs.length) → j < k → p xs[j] = false))
  case atStart => exact ⟨0, Nat.zero_le _, by omega, rfl, ⟨Below.refl _ w⟩, ⟨fun j hj h => absurd h (Nat.not_lt_zero _)⟩⟩
  case round =>
    obtain ⟨k, hk, hg, rfl, HB, HA⟩ := hrel
    by_cases hlt : k < xs.length
    · have hltz : (k : Int) < (xs.length : Int) := by omega
      have HR1 : kD.Rd wr (fun _ => True) (.slice A xs.length c) xs := HR.out.below (by decide) HB.out
      obtain ⟨A', c', he, _, hrow⟩ := HR1
      obtain ⟨rfl, rfl⟩ : A = A' ∧ c = c' := by injection he with h1 _ h3; exact ⟨h1, h3⟩
      obtain ⟨ad, cs, rfl, _, hK, hc⟩ := hrow.at_ k hlt
      have hcall := HP.out wr xs[k] cs (List.getElem_mem hlt) HB.out hK
      obtain ⟨c0, c1, c2, c3, c4, rfl⟩ := len5 (kD.len hK)
      obtain ⟨ec0, ec1, ec2, ec3, ec4⟩ := cells5 (k * 5) hc
      have hcall : Calls Try.prog g (#[.agg #[c0, c1, c2, c3, c4]] ++ lb) wr fun e w' => e = .returned (.bool (p xs[k])) ∧ Below wr.heap.size wr w' := hcall
      clear hrow hc hK he
      have HX := Aside0.mk hlt
      generalize hy : xs[k] = y at hcall
      have HY : Aside0 (xs[k] = y) := ⟨hy⟩
      clear hy
      cases hq : p y with
      | true =>
        rw [hq] at hcall
        have HC := Aside0.mk hcall
        clear hcall
        go_wp2_with fail
        refine HC.out.mono ?_
        rintro e w' ⟨rfl, hb'⟩
        go_wp2_with fail
        go_ret
        refine ⟨?_, HB.out.trans (hb'.mono HB.out.size)⟩
        rw [ix_hit p xs k HX.out (by rw [HY.out]; exact hq) HA.out]; rfl
      | false =>
        rw [hq] at hcall
        have HC := Aside0.mk hcall
        clear hcall
        go_wp2_with fail
        refine HC.out.mono ?_
        rintro e w' ⟨rfl, hb'⟩
        go_wp2_with fail
        go_roundg (xs.length - (k + 1))
        case measure => omega
        case rel =>
          refine ⟨k + 1, by omega, by omega, by go_num, ⟨HB.out.trans (hb'.mono HB.out.size)⟩, ⟨fun j hj hjk => ?_⟩⟩
          by_cases e : j = k
          · subst e
            rw [HY.out]; exact hq
          · exact HA.out j hj (by omega)
    · have hltz : ¬ (k : Int) < (xs.length : Int) := by omega
      have : k = xs.length := by omega
      subst this
      go_wp2
      go_ret
      refine ⟨?_, HB.out⟩
      rw [ix_miss p xs (fun j hj => HA.out j hj hj)]; rfl
theorem contains_d (v : Value) (xs : List Dat) (w : World) (h : kD.Rd w (fun _ => True) v xs) (g : Nat) (lb : Array Value) (p : Dat → Bool)
    (eg : ∀ args w, (callFunc g args).run Try.prog w = .ok (.enter g args) w) (hp : Pays kD valN g lb w xs p) :
    Calls Try.prog 115 #[v, .func (.func g) #[] lb] w fun e w' => e = .returned (.bool (xs.any p)) ∧ Below w.heap.size w w' := by
  rw [← ix_any p xs]
  have hI := Aside0.mk (index_d v xs w h g lb p eg hp)
  obtain ⟨A, c, rfl, hl, hr⟩ := h
  clear hr hp
  go_enter Try.func115, Try.ntmps115
  go_wp2_with (go_at_call 135; refine hI.out.mono ?_; rintro e w' ⟨rfl, hb'⟩)
  go_ret
  exact ⟨rfl, hb'⟩
theorem contains_d_v (b : Bool) (v : Value) (xs : List Dat) (w : World) (h : kD.Rd w (fun _ => True) v xs) (g : Nat) (lb : Array Value) (p : Dat → Bool)
    (eg : ∀ args w, (callFunc g args).run Try.prog w = .ok (.enter g args) w) (hp : Pays kD valN g lb w xs p) (hq : xs.any p = b) :
    Calls Try.prog 115 #[v, .func (.func g) #[] lb] w fun e w' => e = .returned (.bool b) ∧ Below w.heap.size w w' := by
  subst hq; exact contains_d v xs w h g lb p eg hp


set_option maxHeartbeats 2000000 in
theorem index_q (v : Value) (xs : List Qn) (w : World) (h : kQ.Rd w (fun _ => True) v xs) (g : Nat) (lb : Array Value) (p : Qn → Bool)
    (eg : ∀ args w, (callFunc g args).run Try.prog w = .ok (.enter g args) w) (hp : Pays kQ valN g lb w xs p) :
    Calls Try.prog 137 #[v, .func (.func g) #[] lb] w fun e w' => e = .returned (.int .i64 (ix p xs)) ∧ Below w.heap.size w w' := by
  have HR := Aside0.mk h
  obtain ⟨A, c, rfl, hl, hr⟩ := h
  have hmax := hr.1.1
  have HP := Aside0.mk hp
  clear hr hp
  go_enter Try.func137, Try.ntmps137
  go_wp2
  go_loopg [5, 8] xs.length (fun gg _ s8 wr => ∃ k : Nat, k ≤ xs.length ∧ xs.length - k ≤ gg ∧ s8 = .int .i64 k ∧ Aside0 (Below w.heap.size w wr) ∧ Aside0 (∀ j, (hj : j < xs.length) → j < k → p xs[j] = false))
  case atStart => exact ⟨0, Nat.zero_le _, by omega, rfl, ⟨Below.refl _ w⟩, ⟨fun j hj h => absurd h (Nat.not_lt_zero _)⟩⟩
  case round =>
    obtain ⟨k, hk, hg, rfl, HB, HA⟩ := hrel
    by_cases hlt : k < xs.length
    · have hltz : (k : Int) < (xs.length : Int) := by omega
      have HR1 : kQ.Rd wr (fun _ => True) (.slice A xs.length c) xs := HR.out.below (by decide) HB.out
      obtain ⟨A', c', he, _, hrow⟩ := HR1
      obtain ⟨rfl, rfl⟩ : A = A' ∧ c = c' := by injection he with h1 _ h3; exact ⟨h1, h3⟩
      obtain ⟨ad, cs, rfl, _, hK, hc⟩ := hrow.at_ k hlt
      have hcall := HP.out wr xs[k] cs (List.getElem_mem hlt) HB.out hK
      obtain ⟨c0, c1, c2, rfl⟩ := len3 (kQ.len hK)
      obtain ⟨ec0, ec1, ec2⟩ := cells3 (k * 3) hc
      have hcall : Calls Try.prog g (#[.agg #[c0, c1, c2]] ++ lb) wr fun e w' => e = .returned (.bool (p xs[k])) ∧ Below wr.heap.size wr w' := hcall
      clear hrow hc hK he
      have HX := Aside0.mk hlt
      generalize hy : xs[k] = y at hcall
      have HY : Aside0 (xs[k] = y) := ⟨hy⟩
      clear hy
      cases hq : p y with
      | true =>
        rw [hq] at hcall
        have HC := Aside0.mk hcall
        clear hcall
        go_wp2_with fail
        refine HC.out.mono ?_
        rintro e w' ⟨rfl, hb'⟩
        go_wp2_with fail
        go_ret
        refine ⟨?_, HB.out.trans (hb'.mono HB.out.size)⟩
        rw [ix_hit p xs k HX.out (by rw [HY.out]; exact hq) HA.out]; rfl
      | false =>
        rw [hq] at hcall
        have HC := Aside0.mk hcall
        clear hcall
        go_wp2_with fail
        refine HC.out.mono ?_
        rintro e w' ⟨rfl, hb'⟩
        go_wp2_with fail
        go_roundg (xs.length - (k + 1))
        case measure => omega
        case rel =>
          refine ⟨k + 1, by omega, by omega, by go_num, ⟨HB.out.trans (hb'.mono HB.out.size)⟩, ⟨fun j hj hjk => ?_⟩⟩
          by_cases e : j = k
          · subst e
            rw [HY.out]; exact hq
          · exact HA.out j hj (by omega)
    · have hltz : ¬ (k : Int) < (xs.length : Int) := by omega
      have : k = xs.length := by omega
      subst this
      go_wp2
      go_ret
      refine ⟨?_, HB.out⟩
      rw [ix_miss p xs (fun j hj => HA.out j hj hj)]; rfl
theorem contains_q (v : Value) (xs : List Qn) (w : World) (h : kQ.Rd w (fun _ => True) v xs) (g : Nat) (lb : Array Value) (p : Qn → Bool)
    (eg : ∀ args w, (callFunc g args).run Try.prog w = .ok (.enter g args) w) (hp : Pays kQ valN g lb w xs p) :
    Calls Try.prog 124 #[v, .func (.func g) #[] lb] w fun e w' => e = .returned (.bool (xs.any p)) ∧ Below w.heap.size w w' := by
  rw [← ix_any p xs]
  have hI := Aside0.mk (index_q v xs w h g lb p eg hp)
  obtain ⟨A, c, rfl, hl, hr⟩ := h
  clear hr hp
  go_enter Try.func124, Try.ntmps124
  go_wp2_with (go_at_call 137; refine hI.out.mono ?_; rintro e w' ⟨rfl, hb'⟩)
  go_ret
  exact ⟨rfl, hb'⟩
theorem contains_q_v (b : Bool) (v : Value) (xs : List Qn) (w : World) (h : kQ.Rd w (fun _ => True) v xs) (g : Nat) (lb : Array Value) (p : Qn → Bool)
    (eg : ∀ args w, (callFunc g args).run Try.prog w = .ok (.enter g args) w) (hp : Pays kQ valN g lb w xs p) (hq : xs.any p = b) :
    Calls Try.prog 124 #[v, .func (.func g) #[] lb] w fun e w' => e = .returned (.bool b) ∧ Below w.heap.size w w' := by
  subst hq; exact contains_q v xs w h g lb p eg hp

end Go.Proofs.Ytkbjbkmaokebgaa.Gz

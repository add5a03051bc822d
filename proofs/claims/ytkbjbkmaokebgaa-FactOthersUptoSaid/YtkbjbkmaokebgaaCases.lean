import Derived.Test.YtkbjbkmaokebgaaHas
set_option linter.unusedVariables false
set_option linter.unusedSimpArgs false
namespace Go.Proofs.Ytkbjbkmaokebgaa.Gz
open Go.RowKit Go.Proofs.YtkbjbkmaokebgaaW.PrintWords
open Ki
/-! The plain laws behind ZoneCases and ZoneAsked. -/
theorem nEq_cong {a b x y : List ByteArray} (h : a.map Nm.lows = b.map Nm.lows) (k : x.map Nm.lows = y.map Nm.lows) : nEq a x = nEq b y := by unfold nEq; rw [h, k]
theorem map_len {a b : List ByteArray} (h : a.map Nm.lows = b.map Nm.lows) : a.length = b.length := by simpa using congrArg List.length h
theorem map_drop {a b : List ByteArray} (h : a.map Nm.lows = b.map Nm.lows) (k : Nat) : (a.drop k).map Nm.lows = (b.drop k).map Nm.lows := by rw [List.map_drop, List.map_drop, h]
theorem nUnder_cong {a b x y : List ByteArray} (h : a.map Nm.lows = b.map Nm.lows) (k : x.map Nm.lows = y.map Nm.lows) : nUnder a x = nUnder b y := by
  unfold nUnder
  rw [map_len h, map_len k, nEq_cong (map_drop h _) k]
theorem zof_cong {l : List RR} {a b : List ByteArray} (h : a.map Nm.lows = b.map Nm.lows) (kind : Int) : zof l a kind = zof l b kind := by
  unfold zof
  refine List.filter_congr fun r _ => ?_
  rw [nEq_cong (x := a) (y := b) rfl h]
theorem zcutG_cong {l : List RR} {a b : List ByteArray} (h : a.map Nm.lows = b.map Nm.lows) (k : Nat) :
    (zcutG l a k = none ∧ zcutG l b k = none) ∨ ∃ c d, zcutG l a k = some c ∧ zcutG l b k = some d ∧ c.map Nm.lows = d.map Nm.lows := by
  induction k with
  | zero => exact .inl ⟨rfl, rfl⟩
  | succ k ih =>
    unfold zcutG
    rw [zof_cong (map_drop h k) 2]
    split
    · exact .inr ⟨_, _, rfl, rfl, map_drop h k⟩
    · exact ih
theorem zcut_cong {z : Zone} {a b : List ByteArray} (h : a.map Nm.lows = b.map Nm.lows) :
    (zcut z a = none ∧ zcut z b = none) ∨ ∃ c d, zcut z a = some c ∧ zcut z b = some d ∧ c.map Nm.lows = d.map Nm.lows := by
  unfold zcut
  rw [map_len h]
  exact zcutG_cong h _
theorem any_under_cong {l : List RR} {a b : List ByteArray} (h : a.map Nm.lows = b.map Nm.lows) : (l.any fun r => nUnder r.name a) = (l.any fun r => nUnder r.name b) := by
  congr 1
  funext r
  exact nUnder_cong rfl h
theorem any_eq_cong {s t : List (List ByteArray)} (h : ∀ x, (s.any fun y => nEq y x) = (t.any fun y => nEq y x)) (n : List ByteArray) : ∀ x, ((s ++ [n]).any fun y => nEq y x) = ((t ++ [n]).any fun y => nEq y x) := by
  intro x
  rw [List.any_append, List.any_append, h x]
/-- What is answered does not hang on capital letters. -/
theorem fills_cong {z : Zone} {kind : Int} {seen : List (List ByteArray)} {n : List ByteArray} {ans : List RR} {o : Out} (h : Fills z kind seen n ans o) :
    ∀ (seen' : List (List ByteArray)) (n' : List ByteArray), (∀ x, (seen.any fun y => nEq y x) = (seen'.any fun y => nEq y x)) → n.map Nm.lows = n'.map Nm.lows → Fills z kind seen' n' ans o := by
  induction h with
  | cut seen n ans c hc =>
    intro seen' n' hs hn
    rcases zcut_cong (z := z) hn with ⟨h1, _⟩ | ⟨c1, d, h1, h2, h3⟩
    · rw [hc] at h1; cases h1
    · rw [hc] at h1
      obtain rfl : c = c1 := by injection h1
      rw [zof_cong h3]
      exact .cut _ _ _ _ h2
  | hit seen n ans hc hl =>
    intro seen' n' hs hn
    rcases zcut_cong (z := z) hn with ⟨_, h2⟩ | ⟨c1, d, h1, _, _⟩
    · rw [zof_cong hn] at hl ⊢
      exact .hit _ _ _ h2 hl
    · rw [hc] at h1; cases h1
  | none seen n ans hc hl h5 =>
    intro seen' n' hs hn
    rcases zcut_cong (z := z) hn with ⟨_, h2⟩ | ⟨c1, d, h1, _, _⟩
    · rw [zof_cong hn] at hl h5
      rw [any_under_cong hn]
      exact .none _ _ _ h2 hl h5
    · rw [hc] at h1; cases h1
  | out seen n ans r hc hl h5 h =>
    intro seen' n' hs hn
    rcases zcut_cong (z := z) hn with ⟨_, h2⟩ | ⟨c1, d, h1, _, _⟩
    · rw [zof_cong hn] at hl h5
      rw [hs] at h
      exact .out _ _ _ _ h2 hl h5 h
    · rw [hc] at h1; cases h1
  | go seen n ans r o hc hl h5 h hf ih =>
    intro seen' n' hs hn
    rcases zcut_cong (z := z) hn with ⟨_, h2⟩ | ⟨c1, d, h1, _, _⟩
    · rw [zof_cong hn] at hl h5
      rw [hs] at h
      exact .go _ _ _ _ _ h2 hl h5 h (ih _ _ (any_eq_cong hs _) rfl)
    · rw [hc] at h1; cases h1
/-- There is one answer. -/
theorem fills_det {z : Zone} {kind : Int} {seen : List (List ByteArray)} {n : List ByteArray} {ans : List RR} {o o' : Out} (h : Fills z kind seen n ans o) (k : Fills z kind seen n ans o') : o = o' := by
  induction h with
  | cut seen n ans c hc =>
    cases k with
    | cut _ _ _ c' hc' =>
      rw [hc] at hc'
      injection hc' with hc'
      subst hc'
      rfl
    | hit _ _ _ hc' => rw [hc] at hc'; cases hc'
    | none _ _ _ hc' => rw [hc] at hc'; cases hc'
    | out _ _ _ _ hc' => rw [hc] at hc'; cases hc'
    | go _ _ _ _ _ hc' => rw [hc] at hc'; cases hc'
  | hit seen n ans hc hl =>
    cases k with
    | cut _ _ _ c' hc' => rw [hc] at hc'; cases hc'
    | hit _ _ _ hc' => rfl
    | none _ _ _ _ hl' => exact absurd hl hl'
    | out _ _ _ _ _ hl' => exact absurd hl hl'
    | go _ _ _ _ _ _ hl' => exact absurd hl hl'
  | none seen n ans hc hl h5 =>
    cases k with
    | cut _ _ _ c' hc' => rw [hc] at hc'; cases hc'
    | hit _ _ _ _ hl' => exact absurd hl' hl
    | none _ _ _ _ hl' => rfl
    | out _ _ _ _ _ _ h5' => rw [List.eq_nil_of_length_eq_zero h5] at h5'; cases h5'
    | go _ _ _ _ _ _ _ h5' => rw [List.eq_nil_of_length_eq_zero h5] at h5'; cases h5'
  | out seen n ans r hc hl h5 h =>
    cases k with
    | cut _ _ _ c' hc' => rw [hc] at hc'; cases hc'
    | hit _ _ _ _ hl' => exact absurd hl' hl
    | none _ _ _ _ _ h5' => rw [List.eq_nil_of_length_eq_zero h5'] at h5; cases h5
    | out _ _ _ r' _ _ h5' =>
      rw [h5] at h5'
      injection h5' with h5'
      subst h5'
      rfl
    | go _ _ _ r' _ _ _ h5' h' =>
      rw [h5] at h5'
      injection h5' with h5'
      subst h5'
      rw [h] at h'
      cases h'
  | go seen n ans r o hc hl h5 h hf ih =>
    cases k with
    | cut _ _ _ c' hc' => rw [hc] at hc'; cases hc'
    | hit _ _ _ _ hl' => exact absurd hl' hl
    | none _ _ _ _ _ h5' => rw [List.eq_nil_of_length_eq_zero h5'] at h5; cases h5
    | out _ _ _ r' _ _ h5' h' =>
      rw [h5] at h5'
      injection h5' with h5'
      subst h5'
      rw [h] at h'
      cases h'
    | go _ _ _ r' _ _ _ h5' h' hf' =>
      rw [h5] at h5'
      injection h5' with h5'
      subst h5'
      exact ih hf'
theorem lows_size_of {a b : ByteArray} (h : Nm.lows a = Nm.lows b) : a.size = b.size := by rw [← Nm.lows_size a, h, Nm.lows_size]
theorem nsz_cong : ∀ {a b : List ByteArray}, a.map Nm.lows = b.map Nm.lows → nsz a = nsz b
  | [], [], _ => rfl
  | [], _ :: _, h => by cases h
  | _ :: _, [], h => by cases h
  | x :: a, y :: b, h => by
    simp only [List.map_cons, List.cons.injEq] at h
    have := nsz_cong h.2
    unfold nsz at this ⊢
    simp only [List.map_cons, List.sum_cons]
    rw [lows_size_of h.1]
    omega
theorem bad_cong : ∀ {a b : List ByteArray}, a.map Nm.lows = b.map Nm.lows → (a.any fun l => decide (l.size = 0) || decide (63 < l.size)) = (b.any fun l => decide (l.size = 0) || decide (63 < l.size))
  | [], [], _ => rfl
  | [], _ :: _, h => by cases h
  | _ :: _, [], h => by cases h
  | x :: a, y :: b, h => by
    simp only [List.map_cons, List.cons.injEq] at h
    rw [List.any_cons, List.any_cons, bad_cong h.2, lows_size_of h.1]
theorem nSound_cong {a b : List ByteArray} (h : a.map Nm.lows = b.map Nm.lows) : nSound a = nSound b := by
  unfold nSound
  rw [map_len h, bad_cong h, nsz_cong h]
theorem zmay_cong (z : Zone) {q u : Qn} (hn : q.name.map Nm.lows = u.name.map Nm.lows) (hc : q.cls = u.cls) : zmay z q = zmay z u := by
  unfold zmay
  rw [nSound_cong hn, nUnder_cong hn rfl, hc]
/-- ZoneCases, without the program. -/
theorem cases_law {z : Zone} {q u : Qn} {m k : Msg} (hn : q.name.map Nm.lows = u.name.map Nm.lows) (ht : q.typ = u.typ) (hc : q.cls = u.cls) (hm : Answers z q m) (hk : Answers z u k) : k.qs = [u] ∧ m.qs = [q] ∧ { k with qs := m.qs } = m := by
  unfold Answers at hm hk
  rw [← zmay_cong z hn hc] at hk
  split at hm
  · next h =>
    rw [if_pos h] at hk
    obtain ⟨o, ho, rfl⟩ := hm
    obtain ⟨p, hp, rfl⟩ := hk
    rw [← ht] at hp
    have hp2 := fills_cong hp [q.name] q.name (fun x => by simp [nEq_cong hn.symm (rfl : x.map Nm.lows = _)]) hn.symm
    obtain rfl := fills_det ho hp2
    exact ⟨rfl, rfl, rfl⟩
  · next h =>
    rw [if_neg h] at hk
    subst hm; subst hk
    exact ⟨rfl, rfl, rfl⟩
end Go.Proofs.Ytkbjbkmaokebgaa.Gz

import Derived.Test.YtkbjbkmaokebgaaCases
set_option linter.unusedVariables false
set_option linter.unusedSimpArgs false
namespace Go.Proofs.Ytkbjbkmaokebgaa.Gz
open Go.RowKit Go.Proofs.YtkbjbkmaokebgaaW.PrintWords
open Ki
/-! The plain law behind ZoneAsked. -/
/-- The set of a name and a type, and the least TTL. -/
def rsetG (n : List ByteArray) (kind : Int) : List RR → List Dat → Int → Bool → List Dat × Int
  | [], out, ttl, _ => (out, ttl)
  | r :: l, out, ttl, any => if (decide (r.cls = 1) && decide (r.typ = kind) && nEq r.name n) = true then rsetG n kind l (if (out.any fun x => dSame x r.data) = true then out else out ++ [r.data]) (if (!any || decide (r.ttl < ttl)) = true then r.ttl else ttl) true else rsetG n kind l out ttl any
def rset (l : List RR) (n : List ByteArray) (kind : Int) : List Dat × Int := rsetG n kind l [] 0 false
theorem rsetG_zof (n : List ByteArray) (kind : Int) (l : List RR) (out : List Dat) (ttl : Int) (any : Bool) : rsetG n kind (zof l n kind) out ttl any = rsetG n kind l out ttl any := by
  induction l generalizing out ttl any with
  | nil => rfl
  | cons r l ih =>
    unfold zof
    rw [List.filter_cons]
    by_cases h : ((decide (kind = 255) || decide (r.typ = kind)) && nEq r.name n) = true
    · rw [if_pos h]
      unfold rsetG
      split
      · exact ih _ _ _
      · exact ih _ _ _
    · rw [if_neg h]
      have h2 : ¬ (decide (r.cls = 1) && decide (r.typ = kind) && nEq r.name n) = true := by
        intro h3
        simp only [Bool.and_eq_true] at h3
        exact h (by simp [h3.1.2, h3.2])
      rw [show rsetG n kind (r :: l) out ttl any = rsetG n kind l out ttl any from by rw [rsetG, if_neg h2]]
      exact ih _ _ _
theorem rset_zof (l : List RR) (n : List ByteArray) (kind : Int) : rset (zof l n kind) n kind = rset l n kind := rsetG_zof n kind l [] 0 false
def dIn (l : List Dat) (d : Dat) : Bool := l.any fun x => dSame x d
def sameSet (a b : List Dat) : Bool := (a.all fun x => dIn b x) && b.all fun x => dIn a x
theorem dSame_refl (a : Dat) : dSame a a = true := by unfold dSame; simp [nEq_refl]
theorem sameSet_refl (a : List Dat) : sameSet a a = true := by
  unfold sameSet dIn
  have h : (a.all fun x => a.any fun y => dSame y x) = true := List.all_eq_true.2 fun x hx => List.any_eq_true.2 ⟨x, hx, dSame_refl x⟩
  rw [h]; rfl
theorem zall_mem (zn : List ByteArray) (rs pre : List RR) (h : zall zn pre rs = true) : ∀ r ∈ rs, ∃ p, zrec zn p r = true := by
  induction rs generalizing pre with
  | nil => intro r hr; cases hr
  | cons a rs ih =>
    intro r hr
    unfold zall at h
    rw [Bool.and_eq_true] at h
    rcases List.mem_cons.1 hr with rfl | hr
    · exact ⟨_, h.1⟩
    · exact ih _ h.2 r hr
theorem zrec_facts {zn : List ByteArray} {p : List RR} {r : RR} (h : zrec zn p r = true) : rrSound r = true ∧ r.cls = 1 ∧ nUnder r.name zn = true ∧ r.typ ≠ 41 ∧ r.typ ≠ 255 ∧ (r.typ = 6 → r.name.length = zn.length) := by
  unfold zrec at h
  simp only [Bool.and_eq_true, Bool.not_eq_true', Bool.or_eq_true, decide_eq_true_eq, decide_eq_false_iff_not] at h
  obtain ⟨⟨⟨⟨⟨⟨h1, h2⟩, h3⟩, h4⟩, h5⟩, _⟩, h7⟩ := h
  exact ⟨h1, h2, h3, h4, h5, fun e => h7.resolve_left (fun hne => hne e)⟩
theorem nUnder_cons {r z : List ByteArray} (x : ByteArray) (h : nUnder r z = true) : nUnder (x :: r) z = true := by
  unfold nUnder at h ⊢
  simp only [Bool.and_eq_true, decide_eq_true_eq] at h ⊢
  refine ⟨by simp; omega, ?_⟩
  rw [List.length_cons, show r.length + 1 - z.length = (r.length - z.length) + 1 from by omega, List.drop_succ_cons]
  exact h.2
theorem under_eq {a b : List ByteArray} (h : nUnder a b = true) (hl : a.length = b.length) : nEq a b = true := by
  unfold nUnder at h
  simp only [Bool.and_eq_true] at h
  have h2 := h.2
  rwa [hl, Nat.sub_self, List.drop_zero] at h2
theorem eq_under {a b : List ByteArray} (h : nEq a b = true) : nUnder a b = true := by
  have hl : a.length = b.length := map_len ((nEq_iff _ _).1 h)
  unfold nUnder
  rw [hl, Nat.sub_self, List.drop_zero, h]
  simp
theorem zSound_soas {z : Zone} (h : zSound z = true) : soas z.recs = 1 := by
  unfold zSound at h
  simp only [Bool.and_eq_true, decide_eq_true_eq] at h
  exact h.2
theorem zof_soa {z : Zone} (h : zSound z = true) : (zof z.recs z.name 6).length = 1 := by
  have h1 := zSound_soas h
  unfold soas at h1
  have : zof z.recs z.name 6 = z.recs.filter fun r => decide (r.typ = 6) := by
    unfold zof
    refine List.filter_congr fun r hr => ?_
    obtain ⟨p, hp⟩ := zall_mem _ _ _ (zSound_all h) r hr
    obtain ⟨_, _, h3, _, _, h6⟩ := zrec_facts hp
    by_cases e : r.typ = 6
    · rw [under_eq h3 (h6 e)]; simp [e]
    · simp [e]
  rw [this]
  exact h1
/-- ZoneAsked, without the program: what is asked of a record's own name and type. -/
theorem asked_law {z : Zone} (hs : zSound z = true) {r : RR} (hr : r ∈ z.recs) {m : Msg} (hm : Answers z ⟨r.name, r.typ, 1⟩ m) :
    (∀ c, zcut z r.name = some c → m.aa = false ∧ m.ans = []) ∧ (zcut z r.name = none → m.ans = zof z.recs r.name r.typ ∧ m.aa = true ∧ m.rcode = 0) := by
  obtain ⟨p, hp⟩ := zall_mem _ _ _ (zSound_all hs) r hr
  obtain ⟨h1, h2, h3, _, _, _⟩ := zrec_facts hp
  have hn : nSound r.name = true := by
    unfold rrSound at h1
    simp only [Bool.and_eq_true] at h1
    exact h1.1.1.1.1
  have hmay : zmay z ⟨r.name, r.typ, 1⟩ = true := by
    unfold zmay
    rw [hs, hn, h3]; rfl
  unfold Answers at hm
  rw [if_pos hmay] at hm
  obtain ⟨o, ho, rfl⟩ := hm
  refine ⟨fun c hc => ?_, fun hc => ?_⟩
  · have h4 := Fills.cut (z := z) (kind := r.typ) [r.name] r.name [] c hc
    obtain rfl := fills_det ho h4
    exact ⟨rfl, rfl⟩
  · have h5 : r ∈ zof z.recs r.name r.typ := List.mem_filter.2 ⟨hr, by simp [nEq_refl]⟩
    have h4 := Fills.hit (z := z) (kind := r.typ) [r.name] r.name [] hc (List.length_pos_of_mem h5)
    obtain rfl := fills_det ho h4
    exact ⟨by simp, rfl, rfl⟩
/-- ZoneAsked, without the program: a name that nothing is under. -/
theorem asked_none {z : Zone} (hs : zSound z = true) {r : RR} (hr : r ∈ z.recs) (x : ByteArray) (hn : nSound (x :: r.name) = true) (ht : (z.recs.any fun o => nUnder o.name (x :: r.name)) = false) (hc : zcut z (x :: r.name) = none) {k : Msg}
    (hk : Answers z ⟨x :: r.name, 1, 1⟩ k) : k.rcode = 3 ∧ k.auth.length = 1 ∧ ∀ o, k.auth[0]? = some o → o.typ = 6 := by
  obtain ⟨p, hp⟩ := zall_mem _ _ _ (zSound_all hs) r hr
  obtain ⟨_, _, h3, _, _, _⟩ := zrec_facts hp
  have hmay : zmay z ⟨x :: r.name, 1, 1⟩ = true := by
    unfold zmay
    rw [hs, hn, nUnder_cons x h3]; rfl
  have none' : ∀ kind, zof z.recs (x :: r.name) kind = [] := by
    intro kind
    unfold zof
    rw [List.filter_eq_nil_iff]
    intro o ho hc
    simp only [Bool.and_eq_true] at hc
    have : (z.recs.any fun o => nUnder o.name (x :: r.name)) = true := List.any_eq_true.2 ⟨o, ho, eq_under hc.2⟩
    rw [ht] at this; cases this
  unfold Answers at hk
  rw [if_pos hmay] at hk
  obtain ⟨o, ho, rfl⟩ := hk
  have h4 := Fills.none (z := z) (kind := 1) [x :: r.name] (x :: r.name) [] hc (by rw [none']; simp) (by rw [none']; rfl)
  obtain rfl := fills_det ho h4
  refine ⟨?_, zof_soa hs, fun o ho => zof_typ (by decide) (List.mem_of_getElem? ho)⟩
  show (if _ then (0 : Int) else 3) = 3
  rw [if_neg (by rw [ht]; simp)]
end Go.Proofs.Ytkbjbkmaokebgaa.Gz

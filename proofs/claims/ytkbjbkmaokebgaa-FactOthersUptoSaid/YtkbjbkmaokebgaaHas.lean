import Derived.Test.YtkbjbkmaokebgaaZans
set_option linter.unusedVariables false
set_option linter.unusedSimpArgs false
namespace Go.Proofs.Ytkbjbkmaokebgaa.Gz
open Go.RowKit Go.Proofs.YtkbjbkmaokebgaaW.PrintWords
open Ki
/-! The plain law behind ZoneHas. -/
theorem nEq_refl (a : List ByteArray) : nEq a a = true := (nEq_iff _ _).2 rfl
theorem rrSame_iff (a b : RR) : rrSame a b = true ↔ a.name = b.name ∧ a.typ = b.typ ∧ a.cls = b.cls ∧ a.ttl = b.ttl ∧ a.data.bytes = b.data.bytes ∧ a.data.nums = b.data.nums ∧ a.data.texts = b.data.texts ∧ a.data.host = b.data.host ∧ a.data.mail = b.data.mail := by
  unfold rrSame dExact dSame
  simp only [Bool.and_eq_true, decide_eq_true_eq]
  constructor
  · rintro ⟨⟨⟨⟨h1, h2⟩, h3⟩, h4⟩, ⟨⟨⟨⟨⟨h5, h6⟩, h7⟩, _⟩, _⟩, h8⟩, h9⟩
    exact ⟨h1, h2, h3, h4, h5, h6, h7, h8, h9⟩
  · rintro ⟨h1, h2, h3, h4, h5, h6, h7, h8, h9⟩
    exact ⟨⟨⟨⟨h1, h2⟩, h3⟩, h4⟩, ⟨⟨⟨⟨⟨h5, h6⟩, h7⟩, by rw [h8]; exact nEq_refl _⟩, by rw [h9]; exact nEq_refl _⟩, h8⟩, h9⟩
theorem rrSame_refl (a : RR) : rrSame a a = true := (rrSame_iff a a).2 ⟨rfl, rfl, rfl, rfl, rfl, rfl, rfl, rfl, rfl⟩
theorem rrSame_clash {a b r : RR} (ha : rrSame a r = true) (hb : rrSame b r = true) : clash a b = true := by
  obtain ⟨h1, h2, h3, h4, h5, h6, h7, h8, h9⟩ := (rrSame_iff a r).1 ha
  obtain ⟨k1, k2, k3, k4, k5, k6, k7, k8, k9⟩ := (rrSame_iff b r).1 hb
  unfold clash
  rw [h1, k1, nEq_refl, if_pos (h2.trans k2.symm)]
  have : dSame a.data b.data = true := by
    unfold dSame
    rw [h5, h6, h7, h8, h9, k5, k6, k7, k8, k9]
    simp [nEq_refl]
  rw [this]; simp
theorem zall_pair (zn : List ByteArray) (rs pre : List RR) (h : zall zn pre rs = true) : rs.Pairwise (fun o r => clash o r = false) ∧ ∀ o ∈ pre, ∀ r ∈ rs, clash o r = false := by
  induction rs generalizing pre with
  | nil => exact ⟨List.Pairwise.nil, fun _ _ r hr => absurd hr (by simp)⟩
  | cons a rs ih =>
    unfold zall at h
    rw [Bool.and_eq_true] at h
    obtain ⟨ih1, ih2⟩ := ih _ h.2
    have ha : ∀ o ∈ pre, clash o a = false := by
      intro o ho
      have h1 := h.1
      unfold zrec at h1
      simp only [Bool.and_eq_true, Bool.not_eq_true'] at h1
      have h2 := h1.1.2
      by_cases hc : clash o a = true
      · exfalso
        have : (pre.any fun o => clash o a) = true := List.any_eq_true.2 ⟨o, ho, hc⟩
        rw [this] at h2; cases h2
      · simpa using hc
    refine ⟨List.Pairwise.cons (fun r hr => ih2 a (by simp) r hr) ih1, fun o ho r hr => ?_⟩
    rcases List.mem_cons.1 hr with rfl | hr
    · exact ha o ho
    · exact ih2 o (by simp [ho]) r hr
theorem count_none (l : List RR) (a r : RR) (h : ∀ x ∈ l, clash a x = false) (ha : rrSame a r = true) : (l.filter fun x => rrSame x r) = [] := by
  rw [List.filter_eq_nil_iff]
  intro x hx hc
  have := rrSame_clash ha hc
  rw [h x hx] at this; cases this
theorem count_one (l : List RR) (h : l.Pairwise (fun o r => clash o r = false)) (r : RR) (hr : r ∈ l) : (l.filter fun x => rrSame x r).length = 1 := by
  induction l with
  | nil => cases hr
  | cons a l ih =>
    obtain ⟨h1, h2⟩ := List.pairwise_cons.1 h
    rw [List.filter_cons]
    by_cases ha : rrSame a r = true
    · rw [if_pos ha, count_none l a r h1 ha]; rfl
    · rw [if_neg ha]
      rcases List.mem_cons.1 hr with rfl | hr
      · exact absurd (rrSame_refl _) ha
      · exact ih h2 hr
theorem zSound_all {z : Zone} (h : zSound z = true) : zall z.name [] z.recs = true := by
  unfold zSound at h
  simp only [Bool.and_eq_true] at h
  exact h.1.2
theorem zof_mem {l : List RR} {n : List ByteArray} {k : Int} {r : RR} (h : r ∈ zof l n k) : r ∈ l := (List.mem_filter.1 h).1
theorem zhosts_mem {l ns : List RR} {r : RR} (h : r ∈ zhosts l ns) : r ∈ l := (List.mem_filter.1 h).1
theorem fills_mem {z : Zone} {kind : Int} {seen : List (List ByteArray)} {n : List ByteArray} {ans : List RR} {o : Out} (h : Fills z kind seen n ans o) (ha : ∀ r ∈ ans, r ∈ z.recs) :
    (∀ r ∈ o.ans ++ o.auth ++ o.extra, r ∈ z.recs) ∧ o.rcode ≠ 5 ∧ (o.aa = true ∨ o.ans = [] ∧ ∃ c, o.auth = zof z.recs c 2 ∧ 0 < (zof z.recs c 2).length) := by
  induction h with
  | cut seen n ans c hc =>
    refine ⟨fun r hr => ?_, by simp, ?_⟩
    · simp only [List.mem_append] at hr
      rcases hr with (hr | hr) | hr
      · exact ha r hr
      · exact zof_mem hr
      · exact zhosts_mem hr
    · by_cases h0 : 0 < ans.length
      · exact .inl (by simp [h0])
      · refine .inr ⟨(List.eq_nil_of_length_eq_zero (by omega) : ans = []), c, rfl, ?_⟩
        unfold zcut at hc
        generalize n.length - z.name.length = k at hc
        induction k with
        | zero => simp [zcutG] at hc
        | succ k ih =>
          unfold zcutG at hc
          split at hc
          · next h => obtain rfl : n.drop k = c := by simpa using hc
                      exact h
          · exact ih hc
  | hit seen n ans hc hl =>
    refine ⟨fun r hr => ?_, by simp, .inl rfl⟩
    simp only [List.mem_append] at hr
    rcases hr with ((hr | hr) | hr) | hr
    · exact ha r hr
    · exact zof_mem hr
    · cases hr
    · cases hr
  | none seen n ans hc hl h5 =>
    refine ⟨fun r hr => ?_, ?_, .inl rfl⟩
    · simp only [List.mem_append] at hr
      rcases hr with (hr | hr) | hr
      · exact ha r hr
      · exact zof_mem hr
      · cases hr
    · show (if _ then (0 : Int) else 3) ≠ 5
      split <;> decide
  | out seen n ans r hc hl h5 hs =>
    refine ⟨fun r' hr => ?_, by simp, .inl rfl⟩
    simp only [List.mem_append, List.mem_singleton] at hr
    rcases hr with ((hr | rfl) | hr) | hr
    · exact ha _ hr
    · exact zof_mem (List.mem_of_getElem? h5)
    · cases hr
    · cases hr
  | go seen n ans r o hc hl h5 hs h ih =>
    refine ih (fun r' hr => ?_)
    simp only [List.mem_append, List.mem_singleton] at hr
    rcases hr with hr | rfl
    · exact ha _ hr
    · exact zof_mem (List.mem_of_getElem? h5)
theorem zof_typ {l : List RR} {n : List ByteArray} {r : RR} {k : Int} (hk : k ≠ 255) (h : r ∈ zof l n k) : r.typ = k := by
  have := (List.mem_filter.1 h).2
  simp only [Bool.and_eq_true, Bool.or_eq_true, decide_eq_true_eq] at this
  rcases this.1 with h1 | h1
  · exact absurd h1 hk
  · exact h1
/-- ZoneHas, without the program. -/
theorem has_law {z : Zone} {q : Qn} {m : Msg} (hs : zSound z = true) (h : Answers z q m) :
    (∀ r ∈ m.ans ++ m.auth ++ m.extra, (z.recs.filter fun a => rrSame a r).length = 1) ∧ (m.rcode = 5 → m.ans = [] ∧ m.auth = [] ∧ m.extra = [] ∧ m.aa = false) ∧
      (m.rcode ≠ 5 → m.aa = true ∨ m.ans = [] ∧ 0 < m.auth.length ∧ ∀ r, m.auth[0]? = some r → r.typ = 2) := by
  unfold Answers at h
  split at h
  · obtain ⟨o, hf, rfl⟩ := h
    obtain ⟨h1, h2, h3⟩ := fills_mem hf (fun r hr => by cases hr)
    refine ⟨fun r hr => count_one _ (zall_pair _ _ _ (zSound_all hs)).1 r (h1 r hr), fun h => absurd h h2, fun _ => ?_⟩
    rcases h3 with h3 | ⟨h3, c, h4, h5⟩
    · exact .inl h3
    · refine .inr ⟨h3, ?_, fun r hr => ?_⟩
      · show 0 < o.auth.length
        rw [h4]; exact h5
      · have hr' : o.auth[0]? = some r := hr
        rw [h4] at hr'
        exact zof_typ (by decide) (List.mem_of_getElem? hr')
  · subst h
    exact ⟨fun r hr => absurd hr (by simp), fun _ => ⟨rfl, rfl, rfl, rfl⟩, fun h => absurd rfl h⟩
end Go.Proofs.Ytkbjbkmaokebgaa.Gz

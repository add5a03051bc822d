import Derived.Test.YtkbjbkmaokebgaaApp
set_option linter.unusedVariables false
set_option linter.unusedSimpArgs false
namespace Go.Proofs.Ytkbjbkmaokebgaa.Gz
open Go.RowKit Go.Proofs.YtkbjbkmaokebgaaW.PrintWords
open Ki
theorem pS : 0 < kS.sz := by decide
theorem pI : 0 < kI.sz := by decide
theorem pU : 0 < kU.sz := by decide
/-! Dat -/
structure Dat where
  bytes : List Int
  host : List ByteArray
  mail : List ByteArray
  nums : List Int
  texts : List ByteArray
def kD : Ki Dat where
  sz := 5
  bytes := 120
  K := fun w ok x cs => ∃ v_bytes v_host v_mail v_nums v_texts, cs = [v_bytes, v_host, v_mail, v_nums, v_texts] ∧ kU.Rd w ok v_bytes x.bytes ∧ kS.Rd w ok v_host x.host ∧ kS.Rd w ok v_mail x.mail ∧ kI.Rd w ok v_nums x.nums ∧ kS.Rd w ok v_texts x.texts
  len := by
    rintro w ok x cs ⟨v_bytes, v_host, v_mail, v_nums, v_texts, rfl, h_bytes, h_host, h_mail, h_nums, h_texts⟩
    rfl
  one := by
    rintro w ok x cs ⟨v_bytes, v_host, v_mail, v_nums, v_texts, rfl, h_bytes, h_host, h_mail, h_nums, h_texts⟩ u hu
    simp only [List.mem_cons, List.not_mem_nil, or_false] at hu
    rcases hu with rfl | rfl | rfl | rfl | rfl
    · exact h_bytes.one'
    · exact h_host.one'
    · exact h_mail.one'
    · exact h_nums.one'
    · exact h_texts.one'
  mono := by
    rintro w ok ok' x cs ho ⟨v_bytes, v_host, v_mail, v_nums, v_texts, rfl, h_bytes, h_host, h_mail, h_nums, h_texts⟩
    exact ⟨v_bytes, v_host, v_mail, v_nums, v_texts, rfl, h_bytes.mono ho, h_host.mono ho, h_mail.mono ho, h_nums.mono ho, h_texts.mono ho⟩
  step := by
    rintro w w1 ok x cs ho ⟨v_bytes, v_host, v_mail, v_nums, v_texts, rfl, h_bytes, h_host, h_mail, h_nums, h_texts⟩
    exact ⟨v_bytes, v_host, v_mail, v_nums, v_texts, rfl, h_bytes.step pU ho, h_host.step pS ho, h_mail.step pS ho, h_nums.step pI ho, h_texts.step pS ho⟩
  low := by
    rintro w ok x cs ⟨v_bytes, v_host, v_mail, v_nums, v_texts, rfl, h_bytes, h_host, h_mail, h_nums, h_texts⟩
    exact ⟨v_bytes, v_host, v_mail, v_nums, v_texts, rfl, h_bytes.low pU, h_host.low pS, h_mail.low pS, h_nums.low pI, h_texts.low pS⟩
theorem pD : 0 < kD.sz := by decide
/-! RR -/
structure RR where
  name : List ByteArray
  typ : Int
  cls : Int
  ttl : Int
  data : Dat
def kR : Ki RR where
  sz := 9
  bytes := 168
  K := fun w ok x cs => ∃ v_name cd, cs = v_name :: .int .i64 x.typ :: .int .i64 x.cls :: .int .i64 x.ttl :: cd ∧ kS.Rd w ok v_name x.name ∧ R64 x.typ ∧ R64 x.cls ∧ R64 x.ttl ∧ kD.K w ok x.data cd
  len := by
    rintro w ok x cs ⟨v_name, cd, rfl, h_name, h_typ, h_cls, h_ttl, h_data⟩
    have := kD.len h_data; simp only [List.length_cons, this]; rfl
  one := by
    rintro w ok x cs ⟨v_name, cd, rfl, h_name, h_typ, h_cls, h_ttl, h_data⟩ u hu
    simp only [List.mem_cons, List.not_mem_nil, or_false] at hu
    rcases hu with rfl | rfl | rfl | rfl | hu
    · exact h_name.one'
    · rfl
    · rfl
    · rfl
    · exact kD.one h_data u hu
  mono := by
    rintro w ok ok' x cs ho ⟨v_name, cd, rfl, h_name, h_typ, h_cls, h_ttl, h_data⟩
    exact ⟨v_name, cd, rfl, h_name.mono ho, h_typ, h_cls, h_ttl, kD.mono ho h_data⟩
  step := by
    rintro w w1 ok x cs ho ⟨v_name, cd, rfl, h_name, h_typ, h_cls, h_ttl, h_data⟩
    exact ⟨v_name, cd, rfl, h_name.step pS ho, h_typ, h_cls, h_ttl, kD.step ho h_data⟩
  low := by
    rintro w ok x cs ⟨v_name, cd, rfl, h_name, h_typ, h_cls, h_ttl, h_data⟩
    exact ⟨v_name, cd, rfl, h_name.low pS, h_typ, h_cls, h_ttl, kD.low h_data⟩
theorem pR : 0 < kR.sz := by decide
/-! Qn -/
structure Qn where
  name : List ByteArray
  typ : Int
  cls : Int
def kQ : Ki Qn where
  sz := 3
  bytes := 40
  K := fun w ok x cs => ∃ v_name, cs = [v_name, .int .i64 x.typ, .int .i64 x.cls] ∧ kS.Rd w ok v_name x.name ∧ R64 x.typ ∧ R64 x.cls
  len := by
    rintro w ok x cs ⟨v_name, rfl, h_name, h_typ, h_cls⟩
    rfl
  one := by
    rintro w ok x cs ⟨v_name, rfl, h_name, h_typ, h_cls⟩ u hu
    simp only [List.mem_cons, List.not_mem_nil, or_false] at hu
    rcases hu with rfl | rfl | rfl
    · exact h_name.one'
    · rfl
    · rfl
  mono := by
    rintro w ok ok' x cs ho ⟨v_name, rfl, h_name, h_typ, h_cls⟩
    exact ⟨v_name, rfl, h_name.mono ho, h_typ, h_cls⟩
  step := by
    rintro w w1 ok x cs ho ⟨v_name, rfl, h_name, h_typ, h_cls⟩
    exact ⟨v_name, rfl, h_name.step pS ho, h_typ, h_cls⟩
  low := by
    rintro w ok x cs ⟨v_name, rfl, h_name, h_typ, h_cls⟩
    exact ⟨v_name, rfl, h_name.low pS, h_typ, h_cls⟩
theorem pQ : 0 < kQ.sz := by decide
/-! Msg -/
structure Msg where
  id : Int
  resp : Bool
  opc : Int
  aa : Bool
  tc : Bool
  rd : Bool
  ra : Bool
  rcode : Int
  qs : List Qn
  ans : List RR
  auth : List RR
  extra : List RR
  edns : Bool
  size : Int
def kM : Ki Msg where
  sz := 14
  bytes := 152
  K := fun w ok x cs => ∃ v_qs v_ans v_auth v_extra, cs = [.int .i64 x.id, .bool x.resp, .int .i64 x.opc, .bool x.aa, .bool x.tc, .bool x.rd, .bool x.ra, .int .i64 x.rcode, v_qs, v_ans, v_auth, v_extra, .bool x.edns, .int .i64 x.size] ∧ R64 x.id ∧ R64 x.opc ∧ R64 x.rcode ∧ kQ.Rd w ok v_qs x.qs ∧ kR.Rd w ok v_ans x.ans ∧ kR.Rd w ok v_auth x.auth ∧ kR.Rd w ok v_extra x.extra ∧ R64 x.size
  len := by
    rintro w ok x cs ⟨v_qs, v_ans, v_auth, v_extra, rfl, h_id, h_opc, h_rcode, h_qs, h_ans, h_auth, h_extra, h_size⟩
    rfl
  one := by
    rintro w ok x cs ⟨v_qs, v_ans, v_auth, v_extra, rfl, h_id, h_opc, h_rcode, h_qs, h_ans, h_auth, h_extra, h_size⟩ u hu
    simp only [List.mem_cons, List.not_mem_nil, or_false] at hu
    rcases hu with rfl | rfl | rfl | rfl | rfl | rfl | rfl | rfl | rfl | rfl | rfl | rfl | rfl | rfl
    · rfl
    · rfl
    · rfl
    · rfl
    · rfl
    · rfl
    · rfl
    · rfl
    · exact h_qs.one'
    · exact h_ans.one'
    · exact h_auth.one'
    · exact h_extra.one'
    · rfl
    · rfl
  mono := by
    rintro w ok ok' x cs ho ⟨v_qs, v_ans, v_auth, v_extra, rfl, h_id, h_opc, h_rcode, h_qs, h_ans, h_auth, h_extra, h_size⟩
    exact ⟨v_qs, v_ans, v_auth, v_extra, rfl, h_id, h_opc, h_rcode, h_qs.mono ho, h_ans.mono ho, h_auth.mono ho, h_extra.mono ho, h_size⟩
  step := by
    rintro w w1 ok x cs ho ⟨v_qs, v_ans, v_auth, v_extra, rfl, h_id, h_opc, h_rcode, h_qs, h_ans, h_auth, h_extra, h_size⟩
    exact ⟨v_qs, v_ans, v_auth, v_extra, rfl, h_id, h_opc, h_rcode, h_qs.step pQ ho, h_ans.step pR ho, h_auth.step pR ho, h_extra.step pR ho, h_size⟩
  low := by
    rintro w ok x cs ⟨v_qs, v_ans, v_auth, v_extra, rfl, h_id, h_opc, h_rcode, h_qs, h_ans, h_auth, h_extra, h_size⟩
    exact ⟨v_qs, v_ans, v_auth, v_extra, rfl, h_id, h_opc, h_rcode, h_qs.low pQ, h_ans.low pR, h_auth.low pR, h_extra.low pR, h_size⟩
theorem pM : 0 < kM.sz := by decide
/-! Zone -/
structure Zone where
  name : List ByteArray
  recs : List RR
def kZ : Ki Zone where
  sz := 2
  bytes := 48
  K := fun w ok x cs => ∃ v_name v_recs, cs = [v_name, v_recs] ∧ kS.Rd w ok v_name x.name ∧ kR.Rd w ok v_recs x.recs
  len := by
    rintro w ok x cs ⟨v_name, v_recs, rfl, h_name, h_recs⟩
    rfl
  one := by
    rintro w ok x cs ⟨v_name, v_recs, rfl, h_name, h_recs⟩ u hu
    simp only [List.mem_cons, List.not_mem_nil, or_false] at hu
    rcases hu with rfl | rfl
    · exact h_name.one'
    · exact h_recs.one'
  mono := by
    rintro w ok ok' x cs ho ⟨v_name, v_recs, rfl, h_name, h_recs⟩
    exact ⟨v_name, v_recs, rfl, h_name.mono ho, h_recs.mono ho⟩
  step := by
    rintro w w1 ok x cs ho ⟨v_name, v_recs, rfl, h_name, h_recs⟩
    exact ⟨v_name, v_recs, rfl, h_name.step pS ho, h_recs.step pR ho⟩
  low := by
    rintro w ok x cs ⟨v_name, v_recs, rfl, h_name, h_recs⟩
    exact ⟨v_name, v_recs, rfl, h_name.low pS, h_recs.low pR⟩
theorem pZ : 0 < kZ.sz := by decide
/-! Fact -/
structure Fact where
  name : List ByteArray
  typ : Int
  kind : Int
  rank : Int
  got : Int
  ttl : Int
  set : List Dat
  zone : List ByteArray
  soa : Dat
def kF : Ki Fact where
  sz := 13
  bytes := 232
  K := fun w ok x cs => ∃ v_name v_set v_zone cd, cs = v_name :: .int .i64 x.typ :: .int .i64 x.kind :: .int .i64 x.rank :: .int .i64 x.got :: .int .i64 x.ttl :: v_set :: v_zone :: cd ∧ kS.Rd w ok v_name x.name ∧ R64 x.typ ∧ R64 x.kind ∧ R64 x.rank ∧ R64 x.got ∧ R64 x.ttl ∧ kD.Rd w ok v_set x.set ∧ kS.Rd w ok v_zone x.zone ∧ kD.K w ok x.soa cd
  len := by
    rintro w ok x cs ⟨v_name, v_set, v_zone, cd, rfl, h_name, h_typ, h_kind, h_rank, h_got, h_ttl, h_set, h_zone, h_soa⟩
    have := kD.len h_soa; simp only [List.length_cons, this]; rfl
  one := by
    rintro w ok x cs ⟨v_name, v_set, v_zone, cd, rfl, h_name, h_typ, h_kind, h_rank, h_got, h_ttl, h_set, h_zone, h_soa⟩ u hu
    simp only [List.mem_cons, List.not_mem_nil, or_false] at hu
    rcases hu with rfl | rfl | rfl | rfl | rfl | rfl | rfl | rfl | hu
    · exact h_name.one'
    · rfl
    · rfl
    · rfl
    · rfl
    · rfl
    · exact h_set.one'
    · exact h_zone.one'
    · exact kD.one h_soa u hu
  mono := by
    rintro w ok ok' x cs ho ⟨v_name, v_set, v_zone, cd, rfl, h_name, h_typ, h_kind, h_rank, h_got, h_ttl, h_set, h_zone, h_soa⟩
    exact ⟨v_name, v_set, v_zone, cd, rfl, h_name.mono ho, h_typ, h_kind, h_rank, h_got, h_ttl, h_set.mono ho, h_zone.mono ho, kD.mono ho h_soa⟩
  step := by
    rintro w w1 ok x cs ho ⟨v_name, v_set, v_zone, cd, rfl, h_name, h_typ, h_kind, h_rank, h_got, h_ttl, h_set, h_zone, h_soa⟩
    exact ⟨v_name, v_set, v_zone, cd, rfl, h_name.step pS ho, h_typ, h_kind, h_rank, h_got, h_ttl, h_set.step pD ho, h_zone.step pS ho, kD.step ho h_soa⟩
  low := by
    rintro w ok x cs ⟨v_name, v_set, v_zone, cd, rfl, h_name, h_typ, h_kind, h_rank, h_got, h_ttl, h_set, h_zone, h_soa⟩
    exact ⟨v_name, v_set, v_zone, cd, rfl, h_name.low pS, h_typ, h_kind, h_rank, h_got, h_ttl, h_set.low pD, h_zone.low pS, kD.low h_soa⟩
theorem pF : 0 < kF.sz := by decide
end Go.Proofs.Ytkbjbkmaokebgaa.Gz


import Derived.Test.YtkbjbkmaokebgaaOpen
import Derived.Test.YtkbjbkmaokebgaaSamers
import Derived.Test.YtkbjbkmaokebgaaRows
set_option linter.unusedVariables false
set_option linter.unusedSimpArgs false
namespace Go.Proofs.Ytkbjbkmaokebgaa.Gz
open Go.RowKit Go.Proofs.YtkbjbkmaokebgaaW.PrintWords
open Ki
/-! A message as a law's argument; how much of it there is ('..UptoSaid'). -/
theorem opens_qs : Opens Try.prog (kL kQ pQ) 33 := opens_slice opens_Q Try.underlying33 (by kernel_rfl) (by kernel_rfl) pQ
theorem c_bool : Try.prog.cellsOf 4 = 1 := by kernel_rfl
theorem c_qs : Try.prog.cellsOf 33 = 1 := by kernel_rfl
theorem opens_M : Opens Try.prog kM 35 := by
  intro H enc w fuel cs x h hw hz
  obtain ⟨hl, hf⟩ := open_fields Try.underlying35 h hw hz
  rw [show Try.prog.cellsOf 35 = 14 from by kernel_rfl] at hl
  obtain ⟨v0, e0, r0⟩ := hf 0 _ rfl kI (opens_i64 Try.underlying3) 0 _ rfl c_int
  obtain ⟨v1, e1, _⟩ := hf 1 _ rfl kB (opens_bool Try.underlying4) 1 _ rfl c_bool
  obtain ⟨v2, e2, r2⟩ := hf 2 _ rfl kI (opens_i64 Try.underlying3) 2 _ rfl c_int
  obtain ⟨v3, e3, _⟩ := hf 3 _ rfl kB (opens_bool Try.underlying4) 3 _ rfl c_bool
  obtain ⟨v4, e4, _⟩ := hf 4 _ rfl kB (opens_bool Try.underlying4) 4 _ rfl c_bool
  obtain ⟨v5, e5, _⟩ := hf 5 _ rfl kB (opens_bool Try.underlying4) 5 _ rfl c_bool
  obtain ⟨v6, e6, _⟩ := hf 6 _ rfl kB (opens_bool Try.underlying4) 6 _ rfl c_bool
  obtain ⟨v7, e7, r7⟩ := hf 7 _ rfl kI (opens_i64 Try.underlying3) 7 _ rfl c_int
  obtain ⟨v8, u8, e8, r8⟩ := hf 8 _ rfl (kL kQ pQ) opens_qs 8 _ rfl c_qs
  obtain ⟨v9, u9, e9, r9⟩ := hf 9 _ rfl (kL kR pR) opens_recs 9 _ rfl c_r
  obtain ⟨v10, u10, e10, r10⟩ := hf 10 _ rfl (kL kR pR) opens_recs 10 _ rfl c_r
  obtain ⟨v11, u11, e11, r11⟩ := hf 11 _ rfl (kL kR pR) opens_recs 11 _ rfl c_r
  obtain ⟨v12, e12, _⟩ := hf 12 _ rfl kB (opens_bool Try.underlying4) 12 _ rfl c_bool
  obtain ⟨v13, e13, r13⟩ := hf 13 _ rfl kI (opens_i64 Try.underlying3) 13 _ rfl c_int
  match cs, hl with
  | [a0, a1, a2, a3, a4, a5, a6, a7, a8, a9, a10, a11, a12, a13], _ =>
    simp only [List.drop_zero, List.drop_succ_cons, List.take_succ_cons, List.take_zero, List.cons.injEq, and_true] at e0 e1 e2 e3 e4 e5 e6 e7 e8 e9 e10 e11 e12 e13
    subst e0 e1 e2 e3 e4 e5 e6 e7 e8 e9 e10 e11 e12 e13
    exact ⟨⟨v0, v1, v2, v3, v4, v5, v6, v7, v8, v9, v10, v11, v12, v13⟩, _, _, _, _, rfl, r0, r2, r7, r8, r9, r10, r11, r13⟩
theorem bulk_one {H : Type} (d : DataW H) : 1 ≤ Rows.uptoBulk d := by
  cases d with
  | lit l => cases l <;> simp [Rows.uptoBulk]
  | nil => simp [Rows.uptoBulk]
  | ptr d => simp [Rows.uptoBulk]
  | slice a b => simp [Rows.uptoBulk]
  | agg a => simp [Rows.uptoBulk]
  | iface t d => simp [Rows.uptoBulk]
  | map e => simp [Rows.uptoBulk]
  | held h => simp [Rows.uptoBulk]
theorem bulk_len {H : Type} (l : List (DataW H)) : l.length ≤ Rows.uptoBulkAll l := by
  induction l with
  | nil => simp [Rows.uptoBulkAll]
  | cons d l ih =>
    have := bulk_one d
    simp only [List.length_cons, Rows.uptoBulkAll]
    omega
theorem slice_bulk {H : Type} {enc : TypeId × Value → H} {P : Program} {w : World} {fuel : Nat} {t e : TypeId} (ht : P.underlying t = some (.slice e)) {A : Option Addr} {n k : Nat} {x : DataW H × List MemPlace}
    (h : DataW.trod enc P w 0 (fun _ => true) true fuel t [.slice A n k] = some x) : n ≤ Rows.uptoBulk x.1 := by
  rcases DataW.trod_slice ht h with ⟨e1, rfl⟩ | ⟨a, len, cap, elems, rest, m, _, e1, rfl, _, _, _, hlen, _⟩
  · simp only [List.cons.injEq, Value.slice.injEq, and_true] at e1
    omega
  · simp only [List.cons.injEq, Value.slice.injEq, and_true] at e1
    have h1 := bulk_len (elems.map (·.1))
    rw [List.length_map] at h1
    simp only [Rows.uptoBulk]
    omega
theorem field_at {H : Type} {enc : TypeId × Value → H} {P : Program} {w : World} {n : Nat} {fs : Array Field} {cs : List Value} {xs : List (DataW H × List MemPlace)}
    (h : ∀ (i : Nat) (f : Field), fs[i]? = some f → DataW.trod enc P w 0 (fun _ => true) true n f.type ((cs.drop f.offset).take (P.cellsOf f.type)) = xs[i]?) (i : Nat) (f : Field) (hi : fs[i]? = some f) (t : TypeId) (o m : Nat) (ht : f.type = t) (ho : f.offset = o) (hm : P.cellsOf t = m) :
    DataW.trod enc P w 0 (fun _ => true) true n t ((cs.drop o).take m) = xs[i]? := by
  subst ht ho hm
  exact h i f hi
/-- How many records there are in a message is no more than its bulk. -/
theorem msg_bulk {H : Type} {enc : TypeId × Value → H} {w W' : World} {cs : Array Value} {d : DataW H} {p : List MemPlace} {ok : Nat → Prop} {m : Msg} (h : DataW.Trod enc Try.prog w 0 (fun _ => true) true 35 (.agg cs) d p) (hK : kM.K W' ok m cs.toList) :
    m.ans.length + m.auth.length + m.extra.length ≤ Rows.uptoBulk d := by
  obtain ⟨fuel, hf⟩ := h
  have hf' : DataW.trod enc Try.prog w 0 (fun _ => true) true fuel 35 cs.toList = some (d, p) := hf
  obtain ⟨A8, k8, A9, k9, A10, k10, A11, k11, hc, _⟩ := kM_form hK
  rw [hc] at hf'
  obtain ⟨xs, n, _, hx, _, hxl, hfs⟩ := DataW.trod_struct Try.underlying35 hf'
  have g9 : DataW.trod enc Try.prog w 0 (fun _ => true) true n 23 [.slice A9 m.ans.length k9] = xs[9]? := by
    exact field_at hfs 9 _ rfl _ 9 1 rfl rfl c_r
  have g10 : DataW.trod enc Try.prog w 0 (fun _ => true) true n 23 [.slice A10 m.auth.length k10] = xs[10]? := by
    exact field_at hfs 10 _ rfl _ 10 1 rfl rfl c_r
  have g11 : DataW.trod enc Try.prog w 0 (fun _ => true) true n 23 [.slice A11 m.extra.length k11] = xs[11]? := by
    exact field_at hfs 11 _ rfl _ 11 1 rfl rfl c_r
  have hxl' : xs.length = 14 := hxl
  match xs, hxl' with
  | [a0, a1, a2, a3, a4, a5, a6, a7, a8, a9, a10, a11, a12, a13], _ =>
    have s9 := slice_bulk Try.underlying23 (g9.trans rfl : _ = some a9)
    have s10 := slice_bulk Try.underlying23 (g10.trans rfl : _ = some a10)
    have s11 := slice_bulk Try.underlying23 (g11.trans rfl : _ = some a11)
    have hd : d = .agg [a0.1, a1.1, a2.1, a3.1, a4.1, a5.1, a6.1, a7.1, a8.1, a9.1, a10.1, a11.1, a12.1, a13.1] := congrArg Prod.fst hx
    rw [hd]
    simp only [Rows.uptoBulk, Rows.uptoBulkAll]
    omega
theorem room_bulk {a b c : Nat} (h : a + b + c ≤ 1048576) : (a + b + c) * kR.bytes ≤ B47 := by
  have e : kR.bytes = 168 := rfl
  rw [e]
  unfold B47
  omega
end Go.Proofs.Ytkbjbkmaokebgaa.Gz

import Derived.Test.YtkbjbkmaokebgaaProg
import Derived.Test.YtkbjbkmaokebgaaWWords
import Derived.Lib.ConvBytes
set_option linter.unusedVariables false
namespace Go.Proofs.Ytkbjbkmaokebgaa.Nm
open Go.RowKit Go.Proofs.YtkbjbkmaokebgaaW.PrintWords

/-- A capital letter's small one. -/
def low (c : UInt8) : UInt8 := if 65 ≤ c ∧ c ≤ 90 then c + 32 else c
/-- A label with small letters. -/
def lows (s : ByteArray) : ByteArray := ⟨s.data.map low⟩

theorem low_yes (c : UInt8) (h : 65 ≤ c.toNat ∧ c.toNat ≤ 90) : ((low c).toNat : Int) = c.toNat + 32 := by
  have h1 : (65 : UInt8) ≤ c ∧ c ≤ 90 := by constructor <;> (rw [UInt8.le_iff_toNat_le]; simp; omega)
  rw [low, if_pos h1, UInt8.toNat_add]; simp; omega
theorem low_no (c : UInt8) (h : ¬ (65 ≤ c.toNat ∧ c.toNat ≤ 90)) : ((low c).toNat : Int) = c.toNat := by
  have h1 : ¬ ((65 : UInt8) ≤ c ∧ c ≤ 90) := by
    rintro ⟨a, b⟩; rw [UInt8.le_iff_toNat_le] at a b; simp at a b; omega
  rw [low, if_neg h1]

theorem lows_list (s : ByteArray) : (lows s).data.toList = s.data.toList.map low := by simp [lows]
theorem lows_size (s : ByteArray) : (lows s).size = s.size := by
  show (s.data.map low).size = s.data.size
  exact Array.size_map ..
theorem strOf_bytes (s : ByteArray) : strOfNums (bytesOf s) = s := by
  unfold strOfNums bytesOf
  rw [List.map_map]
  have : ((fun n : Int => UInt8.ofNat n.toNat) ∘ fun b : UInt8 => (b.toNat : Int)) = id := by
    funext b
    exact (UInt8.ofNat_toNat : UInt8.ofNat b.toNat = b)
  rw [this, List.map_id]
/-- What the row of a text's bytes holds when its first k are small. -/
def Low (s : ByteArray) (w : World) (B M k : Nat) : Prop :=
  ∃ cur : Array Value, w.heap[B]? = some (.cells cur 5 (M, M + 1)) ∧ cur.size = M ∧ s.size ≤ M ∧
    ∀ j, j < s.size → cur[j]? = some (.int .u8 (((if j < k then low (s.data.toList.getD j 0) else s.data.toList.getD j 0).toNat : Nat) : Int))
theorem Low.cell {s : ByteArray} {w : World} {B M k : Nat} (h : Low s w B M k) (hk : k < s.size) :
    w.cell? ⟨B, k, none⟩ = some (.int .u8 ((s.data.toList.getD k 0).toNat : Int)) ∧ w.frozen? ⟨B, k, none⟩ = false := by
  obtain ⟨cur, hb, hM, hsM, hc⟩ := h
  refine ⟨by rw [cell_of_row w B k cur _ _ hb, hc k hk, if_neg (Nat.lt_irrefl k)], ?_⟩
  simp [World.frozen?, hb]; omega
theorem Low.store {s : ByteArray} {w : World} {B M k : Nat} (h : Low s w B M k) (hk : k < s.size) {x : Int} (hx : x = ((low (s.data.toList.getD k 0)).toNat : Int)) :
    Low s (w.setCell ⟨B, k, none⟩ (.int .u8 x)) B M (k + 1) := by
  obtain ⟨cur, hb, hM, hsM, hc⟩ := h
  refine ⟨cur.setIfInBounds k (.int .u8 x), ?_, by simpa using hM, hsM, fun j hj => ?_⟩
  · simp only [World.setCell, Array.getElem?_modify]; simp [hb]
  · by_cases e : j = k
    · subst e
      rw [Array.getElem?_setIfInBounds_self_of_lt (by omega), if_pos (Nat.lt_succ_self _), hx]
    · rw [Array.getElem?_setIfInBounds_ne (by omega), hc j hj]
      by_cases hjk : j < k
      · rw [if_pos hjk, if_pos (by omega)]
      · rw [if_neg hjk, if_neg (by omega)]
theorem Low.skip {s : ByteArray} {w : World} {B M k : Nat} (h : Low s w B M k) (hk : k < s.size) (hx : ((low (s.data.toList.getD k 0)).toNat : Int) = ((s.data.toList.getD k 0).toNat : Int)) :
    Low s w B M (k + 1) := by
  obtain ⟨cur, hb, hM, hsM, hc⟩ := h
  refine ⟨cur, hb, hM, hsM, fun j hj => ?_⟩
  rw [hc j hj]
  by_cases hjk : j < k
  · rw [if_pos hjk, if_pos (by omega)]
  · rw [if_neg hjk]
    by_cases e : j = k
    · subst e; rw [if_pos (Nat.lt_succ_self _), hx]
    · rw [if_neg (by omega)]
theorem Low.start (s : ByteArray) (w : World) : ∃ M, Low s (Lib.bytesWorld w 5 s) w.heap.size M 0 := by
  refine ⟨_, Lib.bytesCells w 5 s, Lib.bytesWorld_at_new w _ s, rfl, ?_, fun j hj => ?_⟩
  · have : s.data.size = s.size := rfl
    simp [Lib.bytesCells]
  · have := Lib.bytesWorld_cell w 5 s j hj
    simpa [World.cell?, Lib.bytesWorld_at_new] using this
theorem Low.str {s : ByteArray} {w : World} {B M : Nat} (h : Low s w B M s.size) (c : Nat) :
    (convert 39 9 (.slice (some ⟨B, 0, none⟩) s.size c)).run Try.prog w = .ok (.string (lows s)) w := by
  obtain ⟨cur, hb, hM, hsM, hc⟩ := h
  have hl : (bytesOf (lows s)).length = s.size := by rw [bytesOf_length, lows_size]
  have := run_convert_bytes_arg (P := Try.prog) w 39 5 Try.underlying39 Try.underlying5 B 0 s.size c (bytesOf (lows s)) hl (fun i hi => ?_) 9 Try.underlying9
  · rw [this, strOf_bytes]
  · have hlt : i < s.data.toList.length := by rw [data_length]; exact hi
    rw [cell_of_row w B (0 + i) cur _ _ hb, Nat.zero_add, hc i hi, if_pos hi]
    simp only [bytesOf, lows_list, List.map_map, List.getD_eq_getElem?_getD, List.getElem?_map, List.getElem?_eq_getElem hlt]
    rfl
set_option maxHeartbeats 400000 in
theorem small_calls (s : ByteArray) (w : World) (hs : s.size ≤ 9223372036854775807) :
    Calls Try.prog 109 #[.string s] w fun e w' => e = .returned (.string (lows s)) ∧ Below w.heap.size w w' := by
  have hcv := fun W => Lib.run_convert_string_bytes (P := Try.prog) W 9 39 5 s Try.underlying9 Try.underlying39 Try.underlying5
  go_enter Try.func109, Try.ntmps109
  go_wp2
  go_loopw [10] (fun i wr => ∃ k : Nat, k ≤ s.size ∧ i = .int .i64 k ∧ Aside0 (∃ M, Low s wr w.heap.size M k) ∧ Aside0 (Below w.heap.size w wr)) (fun i _ => s.size - (intOf i).toNat)
  case atStart => exact ⟨0, Nat.zero_le _, rfl, ⟨Low.start s w⟩, ⟨bytes_below (Below.refl _ _) (Nat.le_refl _) _ _⟩⟩
  case round =>
    obtain ⟨k, hk, rfl, ⟨M, HL⟩, ⟨HB⟩⟩ := hrel
    have HL' : Aside0 (Low s wr w.heap.size M k) := ⟨HL⟩
    have HB' : Aside0 (Below w.heap.size w wr) := ⟨HB⟩
    clear HL HB
    by_cases hlt : k < s.size
    · obtain ⟨c1, f1⟩ := HL'.out.cell hlt
      generalize hcc : s.data.toList.getD k 0 = cc at c1
      have Hcc : Hid (s.data.toList.getD k 0 = cc) := hcc
      clear hcc
      have hcb := cc.toNat_lt
      go_wp2
      · refine ⟨⟨k + 1, by omega, by go_num, ⟨M, HL'.out.store hlt ?_⟩, ⟨HB'.out.setCell (Nat.le_refl _) _⟩⟩, by simp [intOf]; omega⟩
        rw [Hcc.out, low_yes cc ⟨by omega, by omega⟩]; omega
      · refine ⟨⟨k + 1, by omega, by go_num, ⟨M, HL'.out.skip hlt ?_⟩, HB'⟩, by simp [intOf]; omega⟩
        rw [Hcc.out, low_no cc (by omega)]
      · refine ⟨⟨k + 1, by omega, by go_num, ⟨M, HL'.out.skip hlt ?_⟩, HB'⟩, by simp [intOf]; omega⟩
        rw [Hcc.out, low_no cc (by omega)]
    · obtain rfl : k = s.size := by omega
      have hst := fun c => HL'.out.str c
      go_wp2
      go_ret
      exact ⟨rfl, HB'.out⟩
end Go.Proofs.Ytkbjbkmaokebgaa.Nm

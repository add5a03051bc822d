import Derived.Test.YtgacjbdnpnaglaaCases
import Derived.Test.YtgacjbdnpnaglaaNm
set_option linter.unusedVariables false
namespace Go.Proofs.Ytgacjbdnpnaglaa.Up
open Go.RowKit Go.Proofs.YtgacjbdnpnaglaaW.PrintWords Go.Proofs.Ytgacjbdnpnaglaa.Nm
/-- A small letter's capital one. -/
def upc (c : UInt8) : UInt8 := if 97 ≤ c ∧ c ≤ 122 then c - 32 else c
/-- A label with capital letters. -/
def ups (s : ByteArray) : ByteArray := ⟨s.data.map upc⟩
theorem upc_yes (c : UInt8) (h : 97 ≤ c.toNat ∧ c.toNat ≤ 122) : ((upc c).toNat : Int) = c.toNat - 32 := by
  have h1 : (97 : UInt8) ≤ c ∧ c ≤ 122 := by constructor <;> (rw [UInt8.le_iff_toNat_le]; simp; omega)
  rw [upc, if_pos h1, UInt8.toNat_sub]; simp; omega
theorem upc_no (c : UInt8) (h : ¬ (97 ≤ c.toNat ∧ c.toNat ≤ 122)) : ((upc c).toNat : Int) = c.toNat := by
  have h1 : ¬ ((97 : UInt8) ≤ c ∧ c ≤ 122) := by
    rintro ⟨a, b⟩; rw [UInt8.le_iff_toNat_le] at a b; simp at a b; omega
  rw [upc, if_neg h1]
theorem low_upc (c : UInt8) : low (upc c) = low c := by
  refine UInt8.toNat_inj.1 ?_
  have e : ∀ a b : Nat, (a : Int) = b → a = b := fun a b h => by omega
  refine e _ _ ?_
  by_cases h : 97 ≤ c.toNat ∧ c.toNat ≤ 122
  · have h1 := upc_yes c h
    rw [low_yes (upc c) (by omega), low_no c (by omega)]
    omega
  · have h1 := upc_no c h
    by_cases h2 : 65 ≤ c.toNat ∧ c.toNat ≤ 90
    · rw [low_yes (upc c) (by omega), low_yes c h2, h1]
    · rw [low_no (upc c) (by omega), low_no c h2, h1]
theorem lows_ups (s : ByteArray) : lows (ups s) = lows s := by
  unfold lows ups
  congr 1
  rw [Array.map_map]
  congr 1
  funext c
  exact low_upc c
theorem map_ups (l : List ByteArray) : (l.map ups).map lows = l.map lows := by
  rw [List.map_map]
  refine List.map_congr_left fun s _ => lows_ups s
theorem ups_list (s : ByteArray) : (ups s).data.toList = s.data.toList.map upc := by simp [ups]
theorem ups_size (s : ByteArray) : (ups s).size = s.size := by
  show (s.data.map upc).size = s.data.size
  exact Array.size_map ..
/-- What the row of a text's bytes holds when its first k are capitals. -/
def Upp (s : ByteArray) (w : World) (B M k : Nat) : Prop :=
  ∃ cur : Array Value, w.heap[B]? = some (.cells cur 5 (M, M + 1)) ∧ cur.size = M ∧ s.size ≤ M ∧
    ∀ j, j < s.size → cur[j]? = some (.int .u8 (((if j < k then upc (s.data.toList.getD j 0) else s.data.toList.getD j 0).toNat : Nat) : Int))
theorem Upp.cell {s : ByteArray} {w : World} {B M k : Nat} (h : Upp s w B M k) (hk : k < s.size) :
    w.cell? ⟨B, k, none⟩ = some (.int .u8 ((s.data.toList.getD k 0).toNat : Int)) ∧ w.frozen? ⟨B, k, none⟩ = false := by
  obtain ⟨cur, hb, hM, hsM, hc⟩ := h
  refine ⟨by rw [cell_of_row w B k cur _ _ hb, hc k hk, if_neg (Nat.lt_irrefl k)], ?_⟩
  simp [World.frozen?, hb]; omega
theorem Upp.store {s : ByteArray} {w : World} {B M k : Nat} (h : Upp s w B M k) (hk : k < s.size) {x : Int} (hx : x = ((upc (s.data.toList.getD k 0)).toNat : Int)) :
    Upp s (w.setCell ⟨B, k, none⟩ (.int .u8 x)) B M (k + 1) := by
  obtain ⟨cur, hb, hM, hsM, hc⟩ := h
  refine ⟨cur.setIfInBounds k (.int .u8 x), ?_, by simpa using hM, hsM, fun j hj => ?_⟩
  · simp only [World.setCell, Array.getElem?_modify]; simp [hb]
  · by_cases e : j = k
    · subst e
      rw [Array.getElem?_setIfInBounds_self_of_lt (by omega), if_pos (Nat.lt_succ_self _), hx]
    · rw [Array.getElem?_setIfInBounds_ne (by omega), hc j hj]
      by_cases hjk : j < k
      · rw [if_pos hjk, if_pos (by omega)]
      · rw [if_neg hjk, if_neg (by omega)]
theorem Upp.skip {s : ByteArray} {w : World} {B M k : Nat} (h : Upp s w B M k) (hk : k < s.size) (hx : ((upc (s.data.toList.getD k 0)).toNat : Int) = ((s.data.toList.getD k 0).toNat : Int)) :
    Upp s w B M (k + 1) := by
  obtain ⟨cur, hb, hM, hsM, hc⟩ := h
  refine ⟨cur, hb, hM, hsM, fun j hj => ?_⟩
  rw [hc j hj]
  by_cases hjk : j < k
  · rw [if_pos hjk, if_pos (by omega)]
  · rw [if_neg hjk]
    by_cases e : j = k
    · subst e; rw [if_pos (Nat.lt_succ_self _), hx]
    · rw [if_neg (by omega)]
theorem Upp.start (s : ByteArray) (w : World) : ∃ M, Upp s (Lib.bytesWorld w 5 s) w.heap.size M 0 := by
  refine ⟨_, Lib.bytesCells w 5 s, Lib.bytesWorld_at_new w _ s, rfl, ?_, fun j hj => ?_⟩
  · have : s.data.size = s.size := rfl
    simp [Lib.bytesCells]
  · have := Lib.bytesWorld_cell w 5 s j hj
    simpa [World.cell?, Lib.bytesWorld_at_new] using this
theorem Upp.str {s : ByteArray} {w : World} {B M : Nat} (h : Upp s w B M s.size) (c : Nat) :
    (convert 39 9 (.slice (some ⟨B, 0, none⟩) s.size c)).run Try.prog w = .ok (.string (ups s)) w := by
  obtain ⟨cur, hb, hM, hsM, hc⟩ := h
  have hl : (bytesOf (ups s)).length = s.size := by rw [bytesOf_length, ups_size]
  have := run_convert_bytes_arg (P := Try.prog) w 39 5 Try.underlying39 Try.underlying5 B 0 s.size c (bytesOf (ups s)) hl (fun i hi => ?_) 9 Try.underlying9
  · rw [this, strOf_bytes]
  · have hlt : i < s.data.toList.length := by rw [data_length]; exact hi
    rw [cell_of_row w B (0 + i) cur _ _ hb, Nat.zero_add, hc i hi, if_pos hi]
    simp only [bytesOf, ups_list, List.map_map, List.getD_eq_getElem?_getD, List.getElem?_map, List.getElem?_eq_getElem hlt]
    rfl
end Go.Proofs.Ytgacjbdnpnaglaa.Up

import Derived.Test.YtkbjbkmaokebgaaRef3
set_option linter.unusedVariables false
set_option linter.unusedSimpArgs false
namespace Go.Proofs.Ytkbjbkmaokebgaa.Gz
open Go.RowKit Go.Proofs.YtkbjbkmaokebgaaW.PrintWords
open Ki
/-- Has a number so many bytes? -/
def fits (n size : Int) : Bool := decide (1 ≤ size) && decide (size ≤ 7) && decide (0 ≤ n) && decide (n < 256 ^ size.toNat)
theorem fits_lo (n size : Int) (h : size < 1) : fits n size = false := by unfold fits; rw [decide_eq_false (by omega)]; rfl
theorem fits_hi (n size : Int) (h : 7 < size) : fits n size = false := by unfold fits; rw [decide_eq_false (show ¬ size ≤ 7 by omega)]; simp
theorem fits_neg (n size : Int) (h : n < 0) : fits n size = false := by unfold fits; rw [decide_eq_false (show ¬ 0 ≤ n by omega)]; simp
theorem fits_in (n size : Int) (h1 : 1 ≤ size) (h2 : size ≤ 7) (h3 : 0 ≤ n) : fits n size = decide (n < 256 ^ size.toNat) := by
  unfold fits; rw [decide_eq_true h1, decide_eq_true h2, decide_eq_true h3]; rfl
set_option maxHeartbeats 1000000 in
theorem fits_calls (n size : Int) (w : World) (hn : R64 n) (hs : R64 size) :
    Calls Try.prog 103 #[.int .i64 n, .int .i64 size] w fun e w' => e = .returned (.bool (fits n size)) ∧ w = w' := by
  by_cases h1 : size < 1
  · have h1' : ¬ 1 ≤ size := by omega
    rw [fits_lo n size h1]
    clear h1
    go_enter Try.func103, Try.ntmps103
    go_wp2
    go_ret
    exact ⟨rfl, rfl⟩
  · by_cases h2 : 7 < size
    · have h2' : ¬ size ≤ 7 := by omega
      have h1' : 1 ≤ size := by omega
      rw [fits_hi n size h2]
      clear h1 h2
      go_enter Try.func103, Try.ntmps103
      go_wp2
      go_ret
      exact ⟨rfl, rfl⟩
    · by_cases h3 : n < 0
      · have h3' : ¬ 0 ≤ n := by omega
        have h2' : size ≤ 7 := by omega
        have h1' : 1 ≤ size := by omega
        rw [fits_neg n size h3]
        clear h1 h2 h3
        go_enter Try.func103, Try.ntmps103
        go_wp2
        go_ret
        exact ⟨rfl, rfl⟩
      · have h3' : 0 ≤ n := by omega
        rw [fits_in n size (by omega) (by omega) h3']
        have hc : size = 1 ∨ size = 2 ∨ size = 3 ∨ size = 4 ∨ size = 5 ∨ size = 6 ∨ size = 7 := by omega
        clear h1 h2 h3 hn hs
        rcases hc with rfl | rfl | rfl | rfl | rfl | rfl | rfl
        · rw [show decide (n < 256 ^ Int.toNat 1) = (n / 256 == 0) from by
            rw [Bool.eq_iff_iff, decide_eq_true_eq, beq_iff_eq, show (256 : Int) ^ Int.toNat 1 = 256 from by decide]; omega]
          go_enter Try.func103, Try.ntmps103
          go_wp2
          go_ret
          exact ⟨rfl, rfl⟩
        · rw [show decide (n < 256 ^ Int.toNat 2) = (n / 65536 == 0) from by
            rw [Bool.eq_iff_iff, decide_eq_true_eq, beq_iff_eq, show (256 : Int) ^ Int.toNat 2 = 65536 from by decide]; omega]
          go_enter Try.func103, Try.ntmps103
          go_wp2
          go_ret
          exact ⟨rfl, rfl⟩
        · rw [show decide (n < 256 ^ Int.toNat 3) = (n / 16777216 == 0) from by
            rw [Bool.eq_iff_iff, decide_eq_true_eq, beq_iff_eq, show (256 : Int) ^ Int.toNat 3 = 16777216 from by decide]; omega]
          go_enter Try.func103, Try.ntmps103
          go_wp2
          go_ret
          exact ⟨rfl, rfl⟩
        · rw [show decide (n < 256 ^ Int.toNat 4) = (n / 4294967296 == 0) from by
            rw [Bool.eq_iff_iff, decide_eq_true_eq, beq_iff_eq, show (256 : Int) ^ Int.toNat 4 = 4294967296 from by decide]; omega]
          go_enter Try.func103, Try.ntmps103
          go_wp2
          go_ret
          exact ⟨rfl, rfl⟩
        · rw [show decide (n < 256 ^ Int.toNat 5) = (n / 1099511627776 == 0) from by
            rw [Bool.eq_iff_iff, decide_eq_true_eq, beq_iff_eq, show (256 : Int) ^ Int.toNat 5 = 1099511627776 from by decide]; omega]
          go_enter Try.func103, Try.ntmps103
          go_wp2
          go_ret
          exact ⟨rfl, rfl⟩
        · rw [show decide (n < 256 ^ Int.toNat 6) = (n / 281474976710656 == 0) from by
            rw [Bool.eq_iff_iff, decide_eq_true_eq, beq_iff_eq, show (256 : Int) ^ Int.toNat 6 = 281474976710656 from by decide]; omega]
          go_enter Try.func103, Try.ntmps103
          go_wp2
          go_ret
          exact ⟨rfl, rfl⟩
        · rw [show decide (n < 256 ^ Int.toNat 7) = (n / 72057594037927936 == 0) from by
            rw [Bool.eq_iff_iff, decide_eq_true_eq, beq_iff_eq, show (256 : Int) ^ Int.toNat 7 = 72057594037927936 from by decide]; omega]
          go_enter Try.func103, Try.ntmps103
          go_wp2
          go_ret
          exact ⟨rfl, rfl⟩
theorem pow_pos256 (k : Nat) : (0 : Int) < 256 ^ k := Int.pow_pos (by decide)
theorem div_lt_iff (n : Int) (k : Nat) (h : 0 ≤ n) : (n / 256 ^ k == 0) = decide (n < 256 ^ k) := by
  have hp := pow_pos256 k
  generalize (256 : Int) ^ k = m at hp
  rw [Bool.eq_iff_iff, decide_eq_true_eq, beq_iff_eq]
  constructor
  · intro e
    have := Int.lt_ediv_add_one_mul_self n hp
    rw [e] at this; omega
  · intro hlt
    exact Int.ediv_eq_zero_of_lt h hlt
set_option maxHeartbeats 1000000 in
theorem rfits_calls (n size : Int) (w : World) (hn : R64 n) (hs : R64 size) :
    Calls Try.prog 64 #[.int .i64 n, .int .i64 size] w fun e w' => e = .returned (.bool (fits n size)) ∧ w = w' := by
  by_cases h1 : size < 1
  · rw [fits_lo n size h1]
    go_enter Try.func64, Try.ntmps64
    go_wp2
    go_ret
    exact ⟨rfl, rfl⟩
  · by_cases h2 : 7 < size
    · rw [fits_hi n size h2]
      go_enter Try.func64, Try.ntmps64
      go_wp2
      go_ret
      exact ⟨rfl, rfl⟩
    · by_cases h3 : n < 0
      · rw [fits_neg n size h3]
        go_enter Try.func64, Try.ntmps64
        go_wp2
        go_ret
        exact ⟨rfl, rfl⟩
      · have h3' : 0 ≤ n := by omega
        obtain ⟨m, rfl⟩ : ∃ m : Nat, size = m := ⟨size.toNat, by omega⟩
        rw [fits_in n m (by omega) (by omega) h3', Int.toNat_natCast, ← div_lt_iff n m h3']
        have hm : m ≤ 7 := by omega
        have hn2 := hn.2
        have HN := Aside0.mk h3'
        clear hs hn
        go_enter Try.func64, Try.ntmps64
        go_wp2
        go_loop [0, 5] (fun x i => ∃ k : Nat, k ≤ m ∧ i = .int .i64 k ∧ x = .int .i64 (n / 256 ^ k)) (fun _ i => m - (intOf i).toNat)
        case atStart => exact ⟨0, Nat.zero_le _, rfl, by simp⟩
        case round =>
          obtain ⟨k, hk, rfl, rfl⟩ := hrel
          have hb1 : 0 ≤ n / 256 ^ k := Int.ediv_nonneg HN.out (Int.le_of_lt (pow_pos256 k))
          have hb2 : n / 256 ^ k ≤ n := Int.ediv_le_self _ HN.out
          have HS : Aside0 (n / 256 ^ (k + 1) = n / 256 ^ k / 256) := ⟨by rw [Int.pow_succ, Int.ediv_ediv_of_nonneg (Int.le_of_lt (pow_pos256 k))]⟩
          by_cases hlt : k < m
          · generalize n / 256 ^ k = q at hb1 hb2 HS
            go_wp2
            go_round
            case rel => exact ⟨k + 1, by omega, by go_num, by rw [HS.out]⟩
            case measure => simp [intOf]; omega
          · obtain rfl : k = m := by omega
            generalize hq : n / 256 ^ k = q at hb1 hb2 HS
            have HQ := Aside0.mk hq
            clear hq
            go_wp2
            go_ret
            refine ⟨?_, rfl⟩
            rw [HQ.out]; rfl
end Go.Proofs.Ytkbjbkmaokebgaa.Gz

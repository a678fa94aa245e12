/- A quotient, rounded down; what is left; which of two slopes is more: plain, without the program's text. -/
import Derived.Test.YtcomnpmkedabeaaDoorBase
set_option linter.unusedVariables false
set_option linter.unusedSimpArgs false
namespace Go.Proofs.YtcomnpmkedabeaaDoor

theorem floor_tdiv (s n : Int) (hn : 0 < n) : (if s.tmod n < 0 then s.tdiv n - 1 else s.tdiv n) = s / n := by
  have e := Int.mul_tdiv_add_tmod s n
  have b1 := Int.tmod_lt_of_pos s hn
  have b2 : -n < s.tmod n := by
    have := Int.tmod_lt_of_pos (-s) hn
    rw [Int.neg_tmod] at this
    omega
  by_cases h : s.tmod n < 0
  · rw [if_pos h]
    exact ((Int.ediv_emod_unique hn (a := s) (r := s.tmod n + n) (q := s.tdiv n - 1)).2 ⟨by rw [Int.mul_sub, Int.mul_one]; omega, by omega, by omega⟩).1.symm
  · rw [if_neg h]
    exact ((Int.ediv_emod_unique hn (a := s) (r := s.tmod n) (q := s.tdiv n)).2 ⟨by omega, by omega, by omega⟩).1.symm
theorem left_tmod (s n : Int) (hn : 0 < n) : (if s.tmod n < 0 then s.tmod n + n else s.tmod n) = s % n := by
  have e := Int.mul_tdiv_add_tmod s n
  have b1 := Int.tmod_lt_of_pos s hn
  have b2 : -n < s.tmod n := by
    have := Int.tmod_lt_of_pos (-s) hn
    rw [Int.neg_tmod] at this
    omega
  by_cases h : s.tmod n < 0
  · rw [if_pos h]
    exact ((Int.ediv_emod_unique hn (a := s) (r := s.tmod n + n) (q := s.tdiv n - 1)).2 ⟨by rw [Int.mul_sub, Int.mul_one]; omega, by omega, by omega⟩).2.symm
  · rw [if_neg h]
    exact ((Int.ediv_emod_unique hn (a := s) (r := s.tmod n) (q := s.tdiv n)).2 ⟨by omega, by omega, by omega⟩).2.symm

/-- Below, at, or above 0. -/
def sgn (n : Int) : Int := if n < 0 then -1 else if 0 < n then 1 else 0
theorem sgn_neg (n : Int) : sgn (-n) = -sgn n := by unfold sgn; split <;> split <;> (try split) <;> omega
/-- Which of a over b, c over d is more. -/
def cmpS (a b c d : Int) : Int := sgn (a * d - c * b)
theorem cmpS_bd (a b c d : Int) : -1 ≤ cmpS a b c d ∧ cmpS a b c d ≤ 1 := by unfold cmpS sgn; split <;> (try split) <;> omega
theorem cmpS_pos {a b c d : Int} : 0 < cmpS a b c d ↔ c * b < a * d := by unfold cmpS sgn; split <;> (try split) <;> omega
theorem cmp_parts (a b c d : Int) : a * d - c * b = b * d * (a / b - c / d) + (a % b * d - c % d * b) := by
  have h1 := Int.mul_ediv_add_emod a b
  have h2 := Int.mul_ediv_add_emod c d
  generalize a / b = p at *
  generalize a % b = r at *
  generalize c / d = q at *
  generalize c % d = s at *
  subst h1 h2
  grind
theorem cmp_rest {b d r s : Int} (hb : 0 < b) (hd : 0 < d) (r0 : 0 ≤ r) (r1 : r < b) (s0 : 0 ≤ s) (s1 : s < d) : -(b * d) < r * d - s * b ∧ r * d - s * b < b * d := by
  have h1 := Int.mul_le_mul_of_nonneg_right (show r + 1 ≤ b by omega) (show 0 ≤ d by omega)
  have h2 := Int.mul_le_mul_of_nonneg_right (show s + 1 ≤ d by omega) (show 0 ≤ b by omega)
  have h3 := Int.mul_nonneg r0 (show 0 ≤ d by omega)
  have h4 := Int.mul_nonneg s0 (show 0 ≤ b by omega)
  rw [Int.add_mul] at h1 h2
  rw [Int.mul_comm d b] at h2
  omega
theorem cmp_lt {a b c d : Int} (hb : 0 < b) (hd : 0 < d) (h : a / b < c / d) : cmpS a b c d = -1 := by
  have e := cmp_parts a b c d
  have k := cmp_rest hb hd (Int.emod_nonneg a (by omega)) (Int.emod_lt_of_pos a hb) (Int.emod_nonneg c (by omega)) (Int.emod_lt_of_pos c hd)
  have m := Int.mul_le_mul_of_nonneg_left (show a / b - c / d ≤ -1 by omega) (show 0 ≤ b * d from Int.mul_nonneg (by omega) (by omega))
  rw [Int.mul_neg, Int.mul_one] at m
  unfold cmpS sgn
  rw [if_pos (by omega)]
theorem cmp_gt {a b c d : Int} (hb : 0 < b) (hd : 0 < d) (h : c / d < a / b) : cmpS a b c d = 1 := by
  have e := cmp_parts a b c d
  have k := cmp_rest hb hd (Int.emod_nonneg a (by omega)) (Int.emod_lt_of_pos a hb) (Int.emod_nonneg c (by omega)) (Int.emod_lt_of_pos c hd)
  have m := Int.mul_le_mul_of_nonneg_left (show 1 ≤ a / b - c / d by omega) (show 0 ≤ b * d from Int.mul_nonneg (by omega) (by omega))
  rw [Int.mul_one] at m
  unfold cmpS sgn
  rw [if_neg (by omega), if_pos (by omega)]
theorem cmp_eq {a b c d : Int} (h : a / b = c / d) : cmpS a b c d = sgn (a % b * d - c % d * b) := by
  have e := cmp_parts a b c d
  rw [h, Int.sub_self, Int.mul_zero, Int.zero_add] at e
  unfold cmpS
  rw [e]
theorem cmp_turn {a b c d : Int} (h : a / b = c / d) : cmpS a b c d = -cmpS b (a % b) d (c % d) := by
  rw [cmp_eq h]
  unfold cmpS
  rw [← sgn_neg]
  congr 1
  rw [Int.mul_comm b, Int.mul_comm d]
  omega
/-- The product halves. -/
theorem euclid_half {a b k : Int} (hb : 0 < b) (hab : b < a) (h : a * b ≤ 2 * k) : b * (a % b) ≤ k := by
  have h0 := Int.emod_nonneg a (show b ≠ 0 by omega)
  have h1 := Int.emod_lt_of_pos a hb
  have h2 := Int.mul_ediv_add_emod a b
  have h3 : 1 ≤ a / b := (Int.le_ediv_iff_mul_le hb).2 (by omega)
  have h4 := Int.mul_le_mul_of_nonneg_left h3 (show 0 ≤ b by omega)
  have h5 : 2 * (a % b) ≤ a := by omega
  have h6 := Int.mul_le_mul_of_nonneg_left h5 (show 0 ≤ b by omega)
  rw [Int.mul_comm b a] at h6
  have : b * (2 * (a % b)) = 2 * (b * (a % b)) := by grind
  omega
end Go.Proofs.YtcomnpmkedabeaaDoor

/- A ray's cells: plain. -/
import Derived.Test.YtcomnpmkedabeaaDoorBase
set_option linter.unusedVariables false
set_option linter.unusedSimpArgs false
namespace Go.Proofs.YtcomnpmkedabeaaDoor

def sg1 (n : Int) : Int := if n < 0 then -1 else 1
def ab1 (n : Int) : Int := if n < 0 then -n else n
theorem sg1_bd (n : Int) : -1 ≤ sg1 n ∧ sg1 n ≤ 1 := by unfold sg1; split <;> omega
theorem ab1_bd {n A : Int} (h1 : -A ≤ n) (h2 : n ≤ A) : 0 ≤ ab1 n ∧ ab1 n ≤ A := by unfold ab1; split <;> omega
theorem sg_ab (n : Int) : ab1 n * sg1 n = n := by unfold ab1 sg1; split <;> omega
/-- The greater, the lesser difference; the steps along both axes. -/
def rN (ax ay bx by' : Int) : Int := if ab1 (bx - ax) < ab1 (by' - ay) then ab1 (by' - ay) else ab1 (bx - ax)
def rM (ax ay bx by' : Int) : Int := if ab1 (bx - ax) < ab1 (by' - ay) then ab1 (bx - ax) else ab1 (by' - ay)
def rAX (ax ay bx by' : Int) : Int := if ab1 (bx - ax) < ab1 (by' - ay) then 0 else sg1 (bx - ax)
def rAY (ax ay bx by' : Int) : Int := if ab1 (bx - ax) < ab1 (by' - ay) then sg1 (by' - ay) else 0
def rOX (ax ay bx by' : Int) : Int := if ab1 (bx - ax) < ab1 (by' - ay) then sg1 (bx - ax) else 0
def rOY (ax ay bx by' : Int) : Int := if ab1 (bx - ax) < ab1 (by' - ay) then 0 else sg1 (by' - ay)
/-- So many steps over. -/
def rO (n m i : Int) : Int := (2 * i * m + n) / (2 * n)
/-- The i-th cell. -/
def rX (ax ay bx by' i : Int) : Int := ax + i * rAX ax ay bx by' + rO (rN ax ay bx by') (rM ax ay bx by') i * rOX ax ay bx by'
def rY (ax ay bx by' i : Int) : Int := ay + i * rAY ax ay bx by' + rO (rN ax ay bx by') (rM ax ay bx by') i * rOY ax ay bx by'
/-- Both cells can be. -/
structure Cans (ax ay bx by' : Int) : Prop where
  a1 : 0 ≤ ax
  a2 : ax < 1024
  a3 : 0 ≤ ay
  a4 : ay < 1024
  b1 : 0 ≤ bx
  b2 : bx < 1024
  b3 : 0 ≤ by'
  b4 : by' < 1024
section
variable {ax ay bx by' : Int}
theorem r_bd (H : Cans ax ay bx by') : 0 ≤ rM ax ay bx by' ∧ rM ax ay bx by' ≤ rN ax ay bx by' ∧ rN ax ay bx by' ≤ 1023 := by
  obtain ⟨a1, a2, a3, a4, b1, b2, b3, b4⟩ := H
  have h1 := ab1_bd (n := bx - ax) (A := 1023) (by omega) (by omega)
  have h2 := ab1_bd (n := by' - ay) (A := 1023) (by omega) (by omega)
  unfold rM rN
  split <;> omega
theorem r_steps : (-1 ≤ rAX ax ay bx by' ∧ rAX ax ay bx by' ≤ 1) ∧ (-1 ≤ rAY ax ay bx by' ∧ rAY ax ay bx by' ≤ 1) ∧ (-1 ≤ rOX ax ay bx by' ∧ rOX ax ay bx by' ≤ 1) ∧ (-1 ≤ rOY ax ay bx by' ∧ rOY ax ay bx by' ≤ 1) := by
  have h1 := sg1_bd (bx - ax)
  have h2 := sg1_bd (by' - ay)
  unfold rAX rAY rOX rOY
  split <;> omega
end
theorem rO_zero (n m : Int) (hn : 0 ≤ n) : rO n m 0 = 0 := by
  unfold rO
  rcases Int.lt_or_eq_of_le hn with h | h
  · exact Int.ediv_eq_zero_of_lt (by omega) (by omega)
  · subst h; simp
/-- What is behind: rest. -/
def rR (n m i : Int) : Int := 2 * i * m + n - 2 * n * rO n m i
theorem rR_zero (n m : Int) (hn : 0 ≤ n) : rR n m 0 = n := by unfold rR; rw [rO_zero n m hn]; simp
theorem rR_bd {n m i : Int} (hn : 0 < n) : 0 ≤ rR n m i ∧ rR n m i < 2 * n := by
  have h1 := Int.mul_ediv_add_emod (2 * i * m + n) (2 * n)
  have h2 := Int.emod_nonneg (2 * i * m + n) (show 2 * n ≠ 0 by omega)
  have h3 := Int.emod_lt_of_pos (2 * i * m + n) (show 0 < 2 * n by omega)
  unfold rR rO
  omega
theorem rO_next {n m i : Int} (hn : 0 < n) (hm : 0 ≤ m) (hmn : m ≤ n) : rO n m (i + 1) = (if 2 * n ≤ rR n m i + 2 * m then rO n m i + 1 else rO n m i) ∧ rR n m (i + 1) = (if 2 * n ≤ rR n m i + 2 * m then rR n m i + 2 * m - 2 * n else rR n m i + 2 * m) := by
  have hb := rR_bd (m := m) (i := i) hn
  have e : 2 * (i + 1) * m + n = 2 * n * rO n m i + (rR n m i + 2 * m) := by
    unfold rR
    rw [Int.mul_add, Int.add_mul]
    omega
  have key : rO n m (i + 1) = if 2 * n ≤ rR n m i + 2 * m then rO n m i + 1 else rO n m i := by
    show (2 * (i + 1) * m + n) / (2 * n) = _
    rw [e, Int.mul_add_ediv_left _ _ (by omega)]
    split
    · rename_i h
      have : (rR n m i + 2 * m) / (2 * n) = 1 := by
        have := (Int.ediv_emod_unique (show 0 < 2 * n by omega) (a := rR n m i + 2 * m) (r := rR n m i + 2 * m - 2 * n) (q := 1)).2 ⟨by omega, by omega, by omega⟩
        exact this.1
      omega
    · rename_i h
      rw [Int.ediv_eq_zero_of_lt (by omega) (by omega)]
      omega
  refine ⟨key, ?_⟩
  show 2 * (i + 1) * m + n - 2 * n * rO n m (i + 1) = _
  rw [key, e]
  split
  · rw [Int.mul_add]; omega
  · omega
theorem rO_bd {n m i : Int} (hn : 0 ≤ n) (hm : 0 ≤ m) (hmn : m ≤ n) (hi : 0 ≤ i) (hin : i ≤ n) : 0 ≤ rO n m i ∧ rO n m i ≤ n := by
  rcases Int.lt_or_eq_of_le hn with h | h
  · unfold rO
    have h1 := mul_bd hi hin hm hmn
    have e : 2 * i * m = 2 * (i * m) := Int.mul_assoc 2 i m
    refine ⟨Int.ediv_nonneg (by omega) (by omega), ?_⟩
    have := Int.ediv_lt_of_lt_mul (a := 2 * i * m + n) (b := n + 1) (c := 2 * n) (by omega) (by
      have e2 : (n + 1) * (2 * n) = 2 * (n * n) + 2 * n := by grind
      omega)
    omega
  · subst h
    have : i = 0 := by omega
    subst this
    rw [rO_zero _ _ (Int.le_refl _)]
    omega
theorem one_step {s k A : Int} (h1 : -1 ≤ s) (h2 : s ≤ 1) (k0 : 0 ≤ k) (k1 : k ≤ A) : -A ≤ k * s ∧ k * s ≤ A := by
  rcases (by omega : s = -1 ∨ s = 0 ∨ s = 1) with rfl | rfl | rfl <;> omega
theorem rXY_next {ax ay bx by' i : Int} (H : Cans ax ay bx by') (hn : 0 < rN ax ay bx by') :
    (2 * rN ax ay bx by' ≤ rR (rN ax ay bx by') (rM ax ay bx by') i + 2 * rM ax ay bx by' →
      rX ax ay bx by' (i + 1) = rX ax ay bx by' i + 1 * rAX ax ay bx by' + 1 * rOX ax ay bx by' ∧ rY ax ay bx by' (i + 1) = rY ax ay bx by' i + 1 * rAY ax ay bx by' + 1 * rOY ax ay bx by' ∧
      rR (rN ax ay bx by') (rM ax ay bx by') (i + 1) = rR (rN ax ay bx by') (rM ax ay bx by') i + 2 * rM ax ay bx by' - 2 * rN ax ay bx by') ∧
    (¬ 2 * rN ax ay bx by' ≤ rR (rN ax ay bx by') (rM ax ay bx by') i + 2 * rM ax ay bx by' →
      rX ax ay bx by' (i + 1) = rX ax ay bx by' i + 1 * rAX ax ay bx by' ∧ rY ax ay bx by' (i + 1) = rY ax ay bx by' i + 1 * rAY ax ay bx by' ∧
      rR (rN ax ay bx by') (rM ax ay bx by') (i + 1) = rR (rN ax ay bx by') (rM ax ay bx by') i + 2 * rM ax ay bx by') := by
  obtain ⟨m0, m1, n1⟩ := r_bd H
  obtain ⟨h1, h2⟩ := rO_next (n := rN ax ay bx by') (m := rM ax ay bx by') (i := i) hn m0 m1
  unfold rX rY
  constructor
  · intro hc
    rw [if_pos hc] at h1 h2
    rw [h1, h2]
    refine ⟨?_, ?_, rfl⟩
    · rw [Int.add_mul, Int.add_mul]; omega
    · rw [Int.add_mul, Int.add_mul]; omega
  · intro hc
    rw [if_neg hc] at h1 h2
    rw [h1, h2]
    refine ⟨?_, ?_, rfl⟩
    · rw [Int.add_mul]; omega
    · rw [Int.add_mul]; omega
theorem rX_zero (ax ay bx by' : Int) (H : Cans ax ay bx by') : rX ax ay bx by' 0 = ax ∧ rY ax ay bx by' 0 = ay := by
  have := r_bd H
  unfold rX rY
  rw [rO_zero _ _ (by omega)]
  simp
theorem rX_bd {ax ay bx by' i : Int} (H : Cans ax ay bx by') (hi : 0 ≤ i) (hin : i ≤ rN ax ay bx by') : -2046 ≤ rX ax ay bx by' i ∧ rX ax ay bx by' i ≤ 3069 ∧ -2046 ≤ rY ax ay bx by' i ∧ rY ax ay bx by' i ≤ 3069 := by
  obtain ⟨m0, m1, n1⟩ := r_bd H
  obtain ⟨s1, s2, s3, s4⟩ := r_steps (ax := ax) (ay := ay) (bx := bx) (by' := by')
  have o := rO_bd (n := rN ax ay bx by') (m := rM ax ay bx by') (i := i) (by omega) m0 m1 hi hin
  have t1 := one_step (A := 1023) s1.1 s1.2 hi (by omega)
  have t2 := one_step (A := 1023) s2.1 s2.2 hi (by omega)
  have t3 := one_step (A := 1023) s3.1 s3.2 o.1 (by omega)
  have t4 := one_step (A := 1023) s4.1 s4.2 o.1 (by omega)
  obtain ⟨a1, a2, a3, a4, _, _, _, _⟩ := H
  unfold rX rY
  omega
end Go.Proofs.YtcomnpmkedabeaaDoor

/- Levels' sizes: plain, without the program's text. -/
import Derived.Test.YtgofkgmhpnkchaaRoom
set_option linter.unusedVariables false
set_option linter.unusedSimpArgs false
namespace Go.Proofs.Ytgofkgmhpnkchaa

/-- A side of level k. -/
def lw (w : Int) (k : Nat) : Int := (w - 1) / 2 ^ k + 1
theorem lw0 (w : Int) : lw w 0 = w := by unfold lw; simp
theorem lw_succ (w : Int) (k : Nat) : (lw w k + 1) / 2 = lw w (k + 1) := by
  unfold lw
  rw [Int.pow_succ, ← Int.ediv_ediv_of_nonneg (Int.pow_nonneg (by omega))]
  omega
theorem pow2_pos (k : Nat) : (0 : Int) < 2 ^ k := Int.pow_pos (by omega)
theorem lw_bd {w : Int} (hw : 1 ≤ w) (k : Nat) : 1 ≤ lw w k ∧ lw w k ≤ w := by
  unfold lw
  have h0 := Int.ediv_nonneg (a := w - 1) (b := 2 ^ k) (by omega) (Int.le_of_lt (pow2_pos k))
  have h1 := Int.ediv_le_self (a := w - 1) (2 ^ k) (by omega)
  omega
theorem lw_gt {w : Int} (hw : 1 ≤ w) (k : Nat) : 1 < lw w k ↔ 2 ^ k ≤ w - 1 := by
  unfold lw
  have h0 := Int.le_ediv_iff_mul_le (a := 1) (b := w - 1) (pow2_pos k)
  rw [Int.one_mul] at h0
  omega
/-- How many binary digits. -/
def bl (m : Nat) : Nat := if m = 0 then 0 else m.log2 + 1
theorem bl_lt (m : Nat) : m < 2 ^ bl m := by
  unfold bl
  split
  · subst m; decide
  · exact Nat.lt_log2_self
theorem bl_le {m k : Nat} (h : k < bl m) : 2 ^ k ≤ m := by
  unfold bl at h
  split at h
  · omega
  · rename_i hm
    exact Nat.le_trans (Nat.pow_le_pow_right (by omega) (by omega)) (Nat.log2_self_le hm)
/-- How many levels. -/
def levs (w h : Int) : Nat := bl (imax w h - 1).toNat + 1
theorem levs_bd {w h : Int} (w1 : 1 ≤ w) (w2 : w ≤ 1024) (h1 : 1 ≤ h) (h2 : h ≤ 1024) : 1 ≤ levs w h ∧ levs w h ≤ 11 := by
  unfold levs
  refine ⟨by omega, ?_⟩
  rcases Nat.lt_or_ge 10 (bl (imax w h - 1).toNat) with hlt | hge
  · have := bl_le hlt
    unfold imax at this
    split at this <;> omega
  · omega
theorem more_levs {w h : Int} (w1 : 1 ≤ w) (h1 : 1 ≤ h) (j : Nat) : (1 < lw w j ∨ 1 < lw h j) ↔ j + 1 < levs w h := by
  rw [lw_gt w1, lw_gt h1]
  unfold levs
  constructor
  · intro hc
    rcases Nat.lt_or_ge j (bl (imax w h - 1).toNat) with hlt | hge
    · omega
    · exfalso
      have a := bl_lt (imax w h - 1).toNat
      have b := Nat.pow_le_pow_right (n := 2) (by omega) hge
      have e : ((2 ^ j : Nat) : Int) = 2 ^ j := by push_cast; rfl
      have : (imax w h - 1).toNat < 2 ^ j := by omega
      unfold imax at this
      split at this <;> omega
  · intro hc
    have a := bl_le (show j < bl (imax w h - 1).toNat by omega)
    have e : ((2 ^ j : Nat) : Int) = 2 ^ j := by push_cast; rfl
    unfold imax at a
    split at a
    · right; omega
    · left; omega
end Go.Proofs.Ytgofkgmhpnkchaa

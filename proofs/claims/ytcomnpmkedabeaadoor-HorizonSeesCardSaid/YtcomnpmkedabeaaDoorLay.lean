/- paint.lay: values laid into a rectangle. -/
import Derived.Test.YtcomnpmkedabeaaDoorGridOne
import Derived.Test.YtcomnpmkedabeaaDoorGridValues
import Derived.Test.YtcomnpmkedabeaaDoorFind64
set_option linter.unusedVariables false
set_option linter.unusedSimpArgs false
namespace Go.Proofs.YtcomnpmkedabeaaDoor
open Go.RowKit

/-- The place of a cell in a rectangle, row by row. -/
def idxOf (x0 y0 : Int) (rw : Nat) (x y : Int) : Nat := ((y - y0) * rw + (x - x0)).toNat
/-- The first i values of a rectangle are laid. -/
def layF (f : Int → Int → Int) (x0 y0 x1 y1 : Int) (rw : Nat) (u : Nat → Int) (i : Nat) : Int → Int → Int :=
  fun x y => if inR x0 y0 x1 y1 x y ∧ idxOf x0 y0 rw x y < i then u (idxOf x0 y0 rw x y) else f x y
/-- All values of a rectangle are laid. -/
def pasteF (f : Int → Int → Int) (x0 y0 x1 y1 : Int) (rw : Nat) (u : Nat → Int) : Int → Int → Int :=
  fun x y => if inR x0 y0 x1 y1 x y then u (idxOf x0 y0 rw x y) else f x y
theorem lay_zero (f : Int → Int → Int) (x0 y0 x1 y1 : Int) (rw : Nat) (u : Nat → Int) : layF f x0 y0 x1 y1 rw u 0 = f := by
  funext x y
  unfold layF
  rw [if_neg (fun h => by omega)]
theorem idxOf_lt {x0 y0 x1 y1 x y : Int} {rw rh : Nat} (hrw : (rw : Int) = x1 - x0 + 1) (hrh : (rh : Int) = y1 - y0 + 1) (h : inR x0 y0 x1 y1 x y) : idxOf x0 y0 rw x y < rw * rh := by
  unfold inR at h
  obtain ⟨h1, h2⟩ := idx_lt (x := x - x0) (y := y - y0) (w := rw) (h := rh) (by omega) (by omega) (by omega) (by omega)
  unfold idxOf
  have : ((rw * rh : Nat) : Int) = rw * rh := by push_cast; rfl
  omega
theorem lay_all {f : Int → Int → Int} {x0 y0 x1 y1 : Int} {rw rh : Nat} {u : Nat → Int} (hrw : (rw : Int) = x1 - x0 + 1) (hrh : (rh : Int) = y1 - y0 + 1) : layF f x0 y0 x1 y1 rw u (rw * rh) = pasteF f x0 y0 x1 y1 rw u := by
  funext x y
  unfold layF pasteF
  by_cases h : inR x0 y0 x1 y1 x y
  · rw [if_pos h, if_pos ⟨h, idxOf_lt hrw hrh h⟩]
  · rw [if_neg h, if_neg (fun z => h z.1)]
/-- Ahead of a place of a row: an earlier row, or ahead in it. -/
theorem lex_lt {X Y : Int} {rw J K : Nat} (hX : 0 ≤ X) (hX2 : X < rw) (hY : 0 ≤ Y) (hK : K ≤ rw) : (Y * rw + X).toNat < rw * J + K ↔ Y < J ∨ (Y = J ∧ X < K) := by
  have h0 := Int.mul_nonneg hY (show (0 : Int) ≤ rw by omega)
  have e : ((rw * J + K : Nat) : Int) = J * rw + K := by push_cast; rw [Int.mul_comm]
  have key : Y * rw + X < J * rw + K ↔ Y < J ∨ (Y = J ∧ X < K) := by
    rcases Int.lt_trichotomy Y J with h | h | h
    · have := Int.mul_le_mul_of_nonneg_right (show Y + 1 ≤ J by omega) (show (0 : Int) ≤ rw by omega)
      rw [Int.add_mul] at this
      constructor
      · intro _; exact .inl h
      · intro _; omega
    · subst h
      constructor
      · intro h; exact .inr ⟨rfl, by omega⟩
      · rintro (h | ⟨_, h⟩) <;> omega
    · have := Int.mul_le_mul_of_nonneg_right (show (J : Int) + 1 ≤ Y by omega) (show (0 : Int) ≤ rw by omega)
      rw [Int.add_mul] at this
      constructor
      · intro h; omega
      · rintro (h | ⟨h, _⟩) <;> omega
  rw [← key]
  omega
theorem lay_step {f : Int → Int → Int} {x0 y0 x1 y1 c : Int} {rw rh i n : Nat} {u : Nat → Int} (hrw : (rw : Int) = x1 - x0 + 1) (hrh : (rh : Int) = y1 - y0 + 1) (h1 : 1 ≤ rw) (hi : i < rw * rh) (hn : 1 ≤ n) (hin : i % rw + n ≤ rw) (hu : ∀ t, t < n → u (i + t) = c) :
    fillF (layF f x0 y0 x1 y1 rw u i) (x0 + (i % rw : Nat)) (y0 + (i / rw : Nat)) (x0 + (i % rw : Nat) + n - 1) (y0 + (i / rw : Nat)) c = layF f x0 y0 x1 y1 rw u (i + n) := by
  have hm : i % rw < rw := Nat.mod_lt i (by omega)
  have hd : i / rw < rh := Nat.div_lt_of_lt_mul hi
  have he := Nat.div_add_mod i rw
  generalize hI : i % rw = I at *
  generalize hJ : i / rw = J at *
  funext x y
  unfold fillF layF
  by_cases hr : inR x0 y0 x1 y1 x y
  · have hr' := hr
    unfold inR at hr'
    have k1 := lex_lt (X := x - x0) (Y := y - y0) (rw := rw) (J := J) (K := I) (by omega) (by omega) (by omega) (by omega)
    have k2 := lex_lt (X := x - x0) (Y := y - y0) (rw := rw) (J := J) (K := I + n) (by omega) (by omega) (by omega) (by omega)
    have ek : rw * J + (I + n) = i + n := by omega
    rw [ek] at k2
    rw [he] at k1
    change idxOf x0 y0 rw x y < i ↔ _ at k1
    change idxOf x0 y0 rw x y < i + n ↔ _ at k2
    by_cases hf : inR (x0 + (I : Int)) (y0 + (J : Int)) (x0 + (I : Int) + n - 1) (y0 + (J : Int)) x y
    · have hf' := hf
      unfold inR at hf'
      rw [if_pos hf, if_pos ⟨hr, k2.2 (by omega)⟩]
      have hx : idxOf x0 y0 rw x y = i + (x - x0 - I).toNat := by
        unfold idxOf
        have : (y - y0) * (rw : Int) = ((rw * J : Nat) : Int) := by
          rw [show y - y0 = (J : Int) by omega]; push_cast; rw [Int.mul_comm]
        omega
      rw [hx]
      exact (hu _ (by omega)).symm
    · rw [if_neg hf]
      have hf' : ¬ (y - y0 = J ∧ (I : Int) ≤ x - x0 ∧ x - x0 < I + n) := fun z => hf (by unfold inR; omega)
      by_cases hk : idxOf x0 y0 rw x y < i
      · rw [if_pos ⟨hr, hk⟩, if_pos ⟨hr, by omega⟩]
      · rw [if_neg (fun z => hk z.2), if_neg (fun z => by have a := k2.1 z.2; have b := mt k1.2 hk; omega)]
  · have hf : ¬ inR (x0 + (I : Int)) (y0 + (J : Int)) (x0 + (I : Int) + n - 1) (y0 + (J : Int)) x y := fun z => hr (by unfold inR at z ⊢; omega)
    rw [if_neg hf, if_neg (fun z => hr z.1), if_neg (fun z => hr z.1)]

/-- Of a grid something is filled. -/
def Filled (g : Nat) (F : Nat → Prop) (w h : Int) (f : Int → Int → Int) (W W' : World) : Prop :=
  ∃ F', Mod F W W' ∧ (∀ k, F' k → F k ∨ W.heap.size ≤ k) ∧ GridAt W' g F' w h f
end Go.Proofs.YtcomnpmkedabeaaDoor

/- pyr.join; a level's cells turned one by one. -/
import Derived.Test.YtgofkgmhpnkchaaPyrAt
import Derived.Deep.LoopGhost
set_option linter.unusedVariables false
set_option linter.unusedSimpArgs false
namespace Go.Proofs.Ytgofkgmhpnkchaa
open Go.RowKit

set_option maxHeartbeats 2000000 in
theorem join_ok (a c b d : Int) (W : World) :
    Calls Try.prog 97 #[.agg #[.int .i64 a, .int .i64 c], .agg #[.int .i64 b, .int .i64 d]] W fun e W' => e = .returned (.agg #[.int .i64 (imin a b), .int .i64 (imax c d)]) ∧ Below W.heap.size W W' := by
  go_enter Try.func97, Try.ntmps97
  go_wp2_with fail
  have nR := blk_new2 (W.alloc (.cells #[.int .i64 a, .int .i64 c] 39)) (.cells #[.int .i64 b, .int .i64 d] 39) (.cells #[.int .i64 (imin a b), .int .i64 (imax c d)] 39)
  rw [alloc_size] at nR
  refine bodyPost_ret (res_c rfl rfl nR agg_Range rfl) rfl ?_
  exact ⟨rfl, below_alloc (below_alloc (below_alloc1 _ _) _) _⟩

theorem CellsAt.put {W : World} {b : Nat} {w h : Int} {R R' : Int → Int → Int → Int → Prop} (H : CellsAt W b w h R) {X Y : Int} (b0 : 0 ≤ X) (b1 : X < w) (b2 : 0 ≤ Y) (b3 : Y < h) {a c : Int} (hR : R' X Y a c)
    (hr : ∀ x y a' c', 0 ≤ x → x < w → 0 ≤ y → y < h → ¬ (x = X ∧ y = Y) → R x y a' c' → R' x y a' c') :
    CellsAt ((W.setCell ⟨b, (Y * w + X).toNat * 2, none⟩ (.int .i64 a)).setCell ⟨b, (Y * w + X).toNat * 2 + 1, none⟩ (.int .i64 c)) b w h R' := by
  obtain ⟨cs, h1, h2⟩ := H
  refine ⟨_, blk_set (blk_set h1 _ _) _ _, fun x y a1 a2 a3 a4 => ?_⟩
  obtain ⟨a', c', k1, k2, k3⟩ := h2 x y a1 a2 a3 a4
  obtain ⟨_, _, m1, m2, _⟩ := h2 X Y b0 b1 b2 b3
  by_cases e : x = X ∧ y = Y
  · obtain ⟨rfl, rfl⟩ := e
    have l1 := (Array.getElem?_eq_some_iff.1 m1).1
    have l2 := (Array.getElem?_eq_some_iff.1 m2).1
    refine ⟨a, c, ?_, ?_, hR⟩
    · rw [Array.getElem?_setIfInBounds_ne (by omega), Array.getElem?_setIfInBounds_self_of_lt l1]
    · rw [Array.getElem?_setIfInBounds_self_of_lt (by simpa using l2)]
  · have hne : (y * w + x).toNat ≠ (Y * w + X).toNat := fun q => e (idx_inj a1 a2 a3 b0 b1 b2 q)
    refine ⟨a', c', ?_, ?_, hr x y a' c' a1 a2 a3 a4 e k3⟩
    · rw [Array.getElem?_setIfInBounds_ne (by omega), Array.getElem?_setIfInBounds_ne (by omega)]
      exact k1
    · rw [Array.getElem?_setIfInBounds_ne (by omega), Array.getElem?_setIfInBounds_ne (by omega)]
      exact k2
/-- The first j rows, and i cells of the next one, are mended. -/
def doneM (x0 y0 x1 y1 : Int) (j i : Nat) (x y : Int) : Prop := x0 ≤ x ∧ x ≤ x1 ∧ y0 ≤ y ∧ y ≤ y1 ∧ (y < y0 + j ∨ (y = y0 + j ∧ x < x0 + i))
def MendR (x0 y0 x1 y1 : Int) (j i : Nat) (R' R : Int → Int → Int → Int → Prop) (x y a c : Int) : Prop := (doneM x0 y0 x1 y1 j i x y → R' x y a c) ∧ (¬ doneM x0 y0 x1 y1 j i x y → R x y a c)
/-- Inside a rectangle the one, elsewhere the other. -/
def MixR (x0 y0 x1 y1 : Int) (R' R : Int → Int → Int → Int → Prop) (x y a c : Int) : Prop := (inR x0 y0 x1 y1 x y → R' x y a c) ∧ (¬ inR x0 y0 x1 y1 x y → R x y a c)
theorem mend_zero {x0 y0 x1 y1 x y a c : Int} {R' R : Int → Int → Int → Int → Prop} (h : R x y a c) : MendR x0 y0 x1 y1 0 0 R' R x y a c :=
  ⟨fun hd => by unfold doneM at hd; omega, fun _ => h⟩
theorem mend_row {x0 y0 x1 y1 x y a c : Int} {rw j : Nat} {R' R : Int → Int → Int → Int → Prop} (hrw : (rw : Int) = x1 - x0 + 1) (h : MendR x0 y0 x1 y1 j rw R' R x y a c) : MendR x0 y0 x1 y1 (j + 1) 0 R' R x y a c := by
  have e : doneM x0 y0 x1 y1 (j + 1) 0 x y ↔ doneM x0 y0 x1 y1 j rw x y := by unfold doneM; omega
  unfold MendR at h ⊢
  rw [e]
  exact h
theorem mend_last {x0 y0 x1 y1 x y a c : Int} {rh : Nat} {R' R : Int → Int → Int → Int → Prop} (hrh : (rh : Int) = y1 - y0 + 1) (h : MendR x0 y0 x1 y1 rh 0 R' R x y a c) : MixR x0 y0 x1 y1 R' R x y a c := by
  have e : doneM x0 y0 x1 y1 rh 0 x y ↔ inR x0 y0 x1 y1 x y := by unfold doneM inR; omega
  unfold MendR at h
  rw [e] at h
  exact h
theorem mend_next {x0 y0 x1 y1 X Y x y a c : Int} {j i : Nat} {R' R : Int → Int → Int → Int → Prop} (hX : X = x0 + i) (hY : Y = y0 + j) (hn : ¬ (x = X ∧ y = Y)) (h : MendR x0 y0 x1 y1 j i R' R x y a c) : MendR x0 y0 x1 y1 j (i + 1) R' R x y a c := by
  have e : doneM x0 y0 x1 y1 j (i + 1) x y ↔ doneM x0 y0 x1 y1 j i x y := by unfold doneM; omega
  unfold MendR at h ⊢
  rw [e]
  exact h
theorem mend_this {x0 y0 x1 y1 X Y a c : Int} {j i : Nat} {R' R : Int → Int → Int → Int → Prop} (hX : X = x0 + i) (hY : Y = y0 + j) (h1 : X ≤ x1) (h2 : Y ≤ y1) (h : R' X Y a c) : MendR x0 y0 x1 y1 j (i + 1) R' R X Y a c :=
  ⟨fun _ => h, fun hn => absurd (by unfold doneM; omega) hn⟩
end Go.Proofs.Ytgofkgmhpnkchaa

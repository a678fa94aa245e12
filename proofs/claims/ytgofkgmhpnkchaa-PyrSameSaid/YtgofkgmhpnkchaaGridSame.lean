/- grid.Same: a bool, and what it means. -/
import Derived.Test.YtgofkgmhpnkchaaGridTwin
set_option linter.unusedVariables false
set_option linter.unusedSimpArgs false
namespace Go.Proofs.Ytgofkgmhpnkchaa
open Go.RowKit

set_option maxHeartbeats 2000000 in
set_option maxRecDepth 100000 in
theorem grid_same_any (g1 g2 : Nat) (F1 F2 : Nat → Prop) (w h x y : Int) (f f' : Int → Int → Int) (W : World) (H1 : GridAt W g1 F1 w h f) (H2 : GridAt W g2 F2 x y f') :
    Calls Try.prog 35 #[.pointer (some ⟨g1, 0, none⟩), .pointer (some ⟨g2, 0, none⟩)] W (Tells (w = x ∧ h = y ∧ ∀ X Y, 0 ≤ X → X < w → 0 ≤ Y → Y < h → f X Y = f' X Y) W) := by
  obtain ⟨A1, n1, cap1, ps1, s1, Fs1, R1⟩ := H1
  obtain ⟨A2, n2, cap2, ps2, s2, Fs2, R2⟩ := H2
  have hd1 := R1.grid
  have hd2 := R2.grid
  have a_0 := cells_q hd1 0 rfl
  have a_1 := cells_q hd1 1 rfl
  have a_2 := cells_q hd1 2 rfl
  have a_3 := cells_q hd1 3 rfl
  have b_0 := cells_q hd2 0 rfl
  have b_1 := cells_q hd2 1 rfl
  have b_2 := cells_q hd2 2 rfl
  have b_3 := cells_q hd2 3 rfl
  by_cases hw : w = x
  rotate_left
  · have hwb : (w == x) = false := by simp [hw]
    have HW := Lib.hid hw
    clear hw R1 R2
    go_enter Try.func35, Try.ntmps35
    go_wp2_with fail
    refine wp_quiet (by kernel_rfl) (by kernel_rfl) ?_
    repeat (go_big_quiet_step ((first | fail)))
    refine wpQuiet_nil ?_
    intro W2 hb2
    go_wp2_with fail
    go_ret
    exact ⟨false, rfl, ⟨fun hh => by (cases hh), fun hh => absurd hh.1 HW.out⟩, hb2⟩
  by_cases hh : h = y
  rotate_left
  · have hwb : (w == x) = true := by simp [hw]
    have hhb : (h == y) = false := by simp [hh]
    have HW := Lib.hid hh
    clear hh hw R1 R2
    go_enter Try.func35, Try.ntmps35
    go_wp2_with fail
    refine wp_quiet (by kernel_rfl) (by kernel_rfl) ?_
    repeat (go_big_quiet_step ((first | fail)))
    refine wpQuiet_nil ?_
    intro W2 hb2
    go_wp2_with fail
    go_ret
    exact ⟨false, rfl, ⟨fun hh => by (cases hh), fun hh => absurd hh.2.1 HW.out⟩, hb2⟩
  subst hw hh
  have hn : n1 = n2 := by rw [R1.n_eq, R2.n_eq]
  subst hn
  have bw := acr_bd R1.w1 R1.w2
  have bh := acr_bd R1.h1 R1.h2
  have hnb : n1 ≤ 1048576 := by have := Nat.mul_le_mul bw.2 bh.2; have := R1.n_eq; omega
  have hS : SlabsAt W A1 A2 n1 (fun i => side w (i % acr w)) (fun i => side h (i / acr w)) (fun i => tileF f w i) (fun i => tileF f' w i) := fun i hi => by
    have hi2 : i < acr w * acr h := by rw [← R1.n_eq]; exact hi
    have q1 := side_bd R1.w1 (Nat.mod_lt i (by omega : 0 < acr w))
    have q2 := side_bd R1.h1 (Nat.div_lt_of_lt_mul hi2 : i / acr w < acr h)
    exact ⟨q1.2, q2.2, s1 i, s2 i, Fs1 i, Fs2 i, cells_w R1.row _ (R1.ptr i hi), cells_w R2.row _ (R2.ptr i hi), R1.slab i hi, R2.slab i hi⟩
  have HS := Lib.hid hS
  have hiff : (∀ i, i < n1 → ∀ X Y, 0 ≤ X → X < side w (i % acr w) → 0 ≤ Y → Y < side h (i / acr w) → tileF f w i X Y = tileF f' w i X Y) ↔ (∀ X Y, 0 ≤ X → X < w → 0 ≤ Y → Y < h → f X Y = f' X Y) := by
    constructor
    · intro hall X Y b1 b2 b3 b4
      obtain ⟨t, _, t2, _, _, t5, t6, t7⟩ := tile_of (f := f) (x := X) (y := Y) R1.w1 R1.h1 b1 b2 b3 b4
      have h8 := hall t (by rw [R1.n_eq]; exact t2) (X % 16) (Y % 16) (by omega) t5 (by omega) t6
      obtain ⟨t', e0, _, _, _, _, _, t7'⟩ := tile_of (f := f') (x := X) (y := Y) R1.w1 R1.h1 b1 b2 b3 b4
      have et : t' = t := by omega
      rw [et] at t7'
      rw [← t7, ← t7']
      exact h8
    · intro hall i hi X Y b1 b2 b3 b4
      have hi2 : i < acr w * acr h := by rw [← R1.n_eq]; exact hi
      have e1 := acr_eq R1.w1
      have e2 := acr_eq R1.h1
      have q1 : i % acr w < acr w := Nat.mod_lt i (by omega)
      have q2 : i / acr w < acr h := Nat.div_lt_of_lt_mul hi2
      unfold tileF
      unfold side imin at b2 b4
      generalize i % acr w = p at *
      generalize i / acr w = q at *
      refine hall _ _ (by omega) ?_ (by omega) ?_
      · split at b2 <;> omega
      · split at b4 <;> omega
  have HI := Lib.hid hiff
  clear hS hiff R1 R2 bw bh hd1 hd2
  go_enter Try.func35, Try.ntmps35
  go_wp2_with fail
  refine wp_tail 29 (by kernel_rfl) (by kernel_rfl) ?_
  simp only [List.take_succ_cons, List.take_zero, List.drop_succ_cons, List.drop_zero]
  repeat (go_big_quiet_step ((first | fail)))
  refine wpQuiet_nil ?_
  intro W2 hb2
  clear a_0 a_1 a_2 a_3 b_0 b_1 b_2 b_3
  go_wp2_with fail
  refine (equal_slabs_any A1 A2 n1 cap1 cap2 _ _ _ _ W2 hnb (HS.out.below hb2)).mono ?_
  rintro e W3 ⟨r, rfl, hr, hb3⟩
  have HR := Lib.hid (hr.trans HI.out)
  clear hr
  go_wp2_with fail
  go_ret
  exact ⟨r, rfl, HR.out.trans ⟨fun hh => ⟨by trivial, by trivial, hh⟩, fun hh => hh.2.2⟩, below_next hb2 hb3⟩
end Go.Proofs.Ytgofkgmhpnkchaa

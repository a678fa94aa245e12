/- pyr.Same of two pyramids of one land. -/
import Derived.Test.YtgfcffaoiladmaaPyrAt
import Derived.Deep.LoopGhost
set_option linter.unusedVariables false
set_option linter.unusedSimpArgs false
namespace Go.Proofs.Ytgfcffaoiladmaa
open Go.RowKit

/-- Two rows of ranges, alike. -/
def TwinAt (W : World) (b1 b2 n : Nat) : Prop := ∀ i, i < n → ∃ a c : Int, W.cell? ⟨b1, i * 2, none⟩ = some (.int .i64 a) ∧ W.cell? ⟨b1, i * 2 + 1, none⟩ = some (.int .i64 c) ∧ W.cell? ⟨b2, i * 2, none⟩ = some (.int .i64 a) ∧ W.cell? ⟨b2, i * 2 + 1, none⟩ = some (.int .i64 c)
theorem TwinAt.below {W W' : World} {b1 b2 n : Nat} (h : TwinAt W b1 b2 n) (hb : Below W.heap.size W W') : TwinAt W' b1 b2 n := fun i hi => by
  obtain ⟨a, c, h1, h2, h3, h4⟩ := h i hi
  exact ⟨a, c, below_cell hb h1, below_cell hb h2, below_cell hb h3, below_cell hb h4⟩
theorem twin_cells {W : World} {b1 b2 : Nat} {f : Int → Int → Int} {w h : Int} {k : Nat} (w1 : 1 ≤ w) (h1 : 1 ≤ h) (H1 : CellsAt W b1 (lw w k) (lw h k) (Rng f w h k)) (H2 : CellsAt W b2 (lw w k) (lw h k) (Rng f w h k)) : TwinAt W b1 b2 (area w h k) := by
  intro i hi
  have bw := lw_bd w1 k
  have bh := lw_bd h1 k
  have hp := Int.mul_nonneg (show 0 ≤ lw w k by omega) (show 0 ≤ lw h k by omega)
  have hl := lin_at (w := lw w k) (h := lw h k) (i := i) (by omega) (by unfold area at hi; omega)
  obtain ⟨cs1, e1, g1⟩ := H1
  obtain ⟨cs2, e2, g2⟩ := H2
  obtain ⟨a, c, p1, p2, p3⟩ := g1 _ _ hl.1 hl.2.1 hl.2.2.1 hl.2.2.2.1
  obtain ⟨a', c', q1, q2, q3⟩ := g2 _ _ hl.1 hl.2.1 hl.2.2.1 hl.2.2.2.1
  obtain ⟨rfl, rfl⟩ := RngOn.unique p3 q3
  rw [hl.2.2.2.2, Int.toNat_natCast] at p1 p2 q1 q2
  exact ⟨a, c, cells_w e1 _ p1, cells_w e1 _ p2, cells_w e2 _ q1, cells_w e2 _ q2⟩

set_option maxHeartbeats 2000000 in
theorem equal_ranges_ok (b1 b2 n : Nat) (W : World) (n2 : n ≤ 1048576) (H : TwinAt W b1 b2 n) :
    Calls Try.prog 67 #[.slice (some ⟨b1, 0, none⟩) n n, .slice (some ⟨b2, 0, none⟩) n n] W fun e W' => e = .returned (.bool true) ∧ Below W.heap.size W W' := by
  have HT := Lib.hid H
  clear H
  go_enter Try.func67, Try.ntmps67
  go_wp2_with fail
  go_loopg [13] n (fun q v13 wr => ∃ j : Nat, Hid (j + q = n) ∧ v13 = .int .i64 (j : Int) ∧ Below W.heap.size W wr)
  case atStart => exact ⟨0, Nat.zero_add _, rfl, Below.refl _ _⟩
  case round =>
    obtain ⟨j, hj, rfl, hb⟩ := hrel
    cases gk with
    | zero =>
      have ht : decide (j < n) = false := decide_eq_false (by have := hj.out; omega)
      have ht2 : decide ((j : Int) < (n : Int)) = false := decide_eq_false (by have := hj.out; omega)
      go_wp2_with fail
      go_ret
      exact ⟨rfl, hb⟩
    | succ m =>
      have hlt : j < n := by have := hj.out; omega
      have ht : decide (j < n) = true := decide_eq_true hlt
      have ht2 : decide ((j : Int) < (n : Int)) = true := decide_eq_true (by omega)
      have hji : (j : Int) < (n : Int) := by omega
      obtain ⟨a, c, h1, h2, h3, h4⟩ := (HT.out.below hb) j hlt
      have q1 := fun d os => cell_regrown h1 d os
      have q2 := fun d os => cell_regrown h2 d os
      have q3 := fun d os => cell_regrown h3 d os
      have q4 := fun d os => cell_regrown h4 d os
      go_wp2_with fail
      refine wp_quiet (by kernel_rfl) (by kernel_rfl) ?_
      repeat (go_big_quiet_step ((first | fail)))
      refine wpQuiet_nil ?_
      intro w3 hb3
      clear q1 q2 q3 q4 h1 h2 h3 h4
      go_wp2_with fail
      go_roundg m
      case measure => omega
      case rel => exact ⟨j + 1, by have := hj.out; exact (show j + 1 + m = n by omega), by first | rfl | (exact congrArg (Value.int .i64) (by push_cast; omega)), below_next hb hb3⟩

set_option maxHeartbeats 2000000 in
theorem same1_ok (a b : Int) (b1 b2 n : Nat) (W : World) (n2 : n ≤ 1048576) (H : TwinAt W b1 b2 n) :
    Calls Try.prog 66 #[.agg #[.int .i64 a, .int .i64 b, .slice (some ⟨b1, 0, none⟩) n n], .agg #[.int .i64 a, .int .i64 b, .slice (some ⟨b2, 0, none⟩) n n]] W fun e W' => e = .returned (.bool true) ∧ Below W.heap.size W W' := by
  have HT := Lib.hid (H.below (below_alloc (below_alloc1 W (.cells #[.int .i64 a, .int .i64 b, .slice (some ⟨b1, 0, none⟩) n n] 94)) (.cells #[.int .i64 a, .int .i64 b, .slice (some ⟨b2, 0, none⟩) n n] 94)))
  have hB := below_alloc (below_alloc1 W (.cells #[.int .i64 a, .int .i64 b, .slice (some ⟨b1, 0, none⟩) n n] 94)) (.cells #[.int .i64 a, .int .i64 b, .slice (some ⟨b2, 0, none⟩) n n] 94)
  clear H
  go_enter Try.func66, Try.ntmps66
  go_wp2_with fail
  refine (equal_ranges_ok b1 b2 n _ n2 HT.out).mono ?_
  rintro e w2 ⟨rfl, hb⟩
  go_wp2_with fail
  go_ret
  exact ⟨rfl, below_next hB hb⟩
end Go.Proofs.Ytgfcffaoiladmaa

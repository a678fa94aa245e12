/- tier.check and Span, of a cell that is there. -/
import Derived.Test.YtgofkgmhpnkchaaTier
import Derived.Test.YtgofkgmhpnkchaaSpan16
set_option linter.unusedVariables false
set_option linter.unusedSimpArgs false
namespace Go.Proofs.Ytgofkgmhpnkchaa
open Go.RowKit

set_option maxHeartbeats 2000000 in
theorem tier_check_ok (w h x y : Int) (k : Nat) (W : World) (w1 : 1 ≤ w) (w2 : w ≤ 1024) (h1 : 1 ≤ h) (h2 : h ≤ 1024) (hk : k < levs w h) (a1 : 0 ≤ x) (a2 : x < lw w k) (a3 : 0 ≤ y) (a4 : y < lw h k) :
    Calls Try.prog 101 #[.int .i64 w, .int .i64 h, .int .i64 k, .agg #[.int .i64 x, .int .i64 y]] W fun e W' => e = .returned (.int .i64 0) ∧ Below W.heap.size W W' := by
  have t1 : decide (x < 0) = false := decide_eq_false (by omega)
  have t2 : decide (lw w k ≤ x) = false := decide_eq_false (by omega)
  have t3 : decide (y < 0) = false := decide_eq_false (by omega)
  have t4 : decide (lw h k ≤ y) = false := decide_eq_false (by omega)
  go_enter Try.func101, Try.ntmps101
  go_wp2_with fail
  have n0 := blk_new W (.cells #[.int .i64 x, .int .i64 y] 24)
  have hB := below_alloc1 W (.cells #[.int .i64 x, .int .i64 y] 24)
  refine (tier_size_ok w h k _ w1 w2 h1 h2 hk).mono ?_
  rintro e w2' ⟨rfl, hb⟩
  replace n0 := below_blk hb n0
  replace hB := below_next hB hb
  have i_0 := cells_w n0 0 rfl
  have i_1 := cells_w n0 1 rfl
  go_wp2_with fail
  go_ret
  exact ⟨rfl, hB⟩

set_option maxHeartbeats 2000000 in
set_option maxRecDepth 100000 in
theorem tier_span_ok (w h x y : Int) (k : Nat) (W : World) (w1 : 1 ≤ w) (w2 : w ≤ 1024) (h1 : 1 ≤ h) (h2 : h ≤ 1024) (hk : k < levs w h) (a1 : 0 ≤ x) (a2 : x < lw w k) (a3 : 0 ≤ y) (a4 : y < lw h k) :
    Calls Try.prog 60 #[.int .i64 w, .int .i64 h, .int .i64 k, .agg #[.int .i64 x, .int .i64 y]] W
      fun e W' => e = .returned (.tuple #[.agg #[.int .i64 (x * 2 ^ k), .int .i64 (y * 2 ^ k), .int .i64 (imin ((x + 1) * 2 ^ k - 1) (w - 1)), .int .i64 (imin ((y + 1) * 2 ^ k - 1) (h - 1))], .int .i64 0]) ∧ Below W.heap.size W W' := by
  have hL := levs_bd w1 w2 h1 h2
  have bx := span_bd a1 a2
  have lx := lw_bd w1 k
  have ly := lw_bd h1 k
  have hby := span_bd a3 a4
  have bS := pow_bd (k := k) (by omega)
  have sx : (x + 1) * 2 ^ k = x * 2 ^ k + 2 ^ k := by rw [Int.add_mul, Int.one_mul]
  have sy : (y + 1) * 2 ^ k = y * 2 ^ k + 2 ^ k := by rw [Int.add_mul, Int.one_mul]
  have u1 : IntKind.i64.wrap (x * 2 ^ k) = x * 2 ^ k := IntWalk.i64_in _ (by omega)
  have u2 : IntKind.i64.wrap (y * 2 ^ k) = y * 2 ^ k := IntWalk.i64_in _ (by omega)
  have u3 : IntKind.i64.wrap ((x + 1) * 2 ^ k) = (x + 1) * 2 ^ k := IntWalk.i64_in _ (by omega)
  have u4 : IntKind.i64.wrap ((y + 1) * 2 ^ k) = (y + 1) * 2 ^ k := IntWalk.i64_in _ (by omega)
  have e1 : imin ((x + 1) * 2 ^ k) w - 1 = imin ((x + 1) * 2 ^ k - 1) (w - 1) := by unfold imin; split <;> split <;> omega
  have e2 : imin ((y + 1) * 2 ^ k) h - 1 = imin ((y + 1) * 2 ^ k - 1) (h - 1) := by unfold imin; split <;> split <;> omega
  have b1 : 0 ≤ imin ((x + 1) * 2 ^ k) w ∧ imin ((x + 1) * 2 ^ k) w ≤ 1024 := by unfold imin; split <;> omega
  have b2 : 0 ≤ imin ((y + 1) * 2 ^ k) h ∧ imin ((y + 1) * 2 ^ k) h ≤ 1024 := by unfold imin; split <;> omega
  have HE := Lib.hid (And.intro e1 e2)
  clear e1 e2 sx sy
  go_enter Try.func60, Try.ntmps60
  go_wp2_with fail
  have n0 := below_blk (below_alloc1 _ (.cells #[.int .i64 0, .int .i64 0, .int .i64 0, .int .i64 0] 45)) (blk_new W (.cells #[.int .i64 x, .int .i64 y] 24))
  have nR := blk_new2 W (.cells #[.int .i64 x, .int .i64 y] 24) (.cells #[.int .i64 0, .int .i64 0, .int .i64 0, .int .i64 0] 45)
  have hB := below_alloc (below_alloc1 W (.cells #[.int .i64 x, .int .i64 y] 24)) (.cells #[.int .i64 0, .int .i64 0, .int .i64 0, .int .i64 0] 45)
  refine (tier_check_ok w h x y k _ w1 w2 h1 h2 hk a1 a2 a3 a4).mono ?_
  rintro e w3 ⟨rfl, hb⟩
  replace n0 := below_blk hb n0
  replace nR := below_blk hb nR
  replace hB := below_next hB hb
  clear hb
  have i_0 := cells_q n0 0 rfl
  have i_1 := cells_q n0 1 rfl
  go_wp2_with fail
  refine wp_tail 25 (by kernel_rfl) (by kernel_rfl) ?_
  simp only [List.take_succ_cons, List.take_zero, List.drop_succ_cons, List.drop_zero]
  repeat (go_big_quiet_step ((first | fail)))
  refine wpQuiet_nil ?_
  intro w4 hb4
  clear i_0 i_1
  replace nR := below_blk hb4 nR
  replace hB := below_next hB hb4
  have r_0 := cells_w nR 0 rfl
  have r_1 := cells_w nR 1 rfl
  have r_2 := cells_w nR 2 rfl
  have r_3 := cells_w nR 3 rfl
  have z_0 := blk_frozen nR 0
  have z_1 := blk_frozen nR 1
  have z_2 := blk_frozen nR 2
  have z_3 := blk_frozen nR 3
  go_wp2_with fail
  refine bodyPost_ret (res_ct rfl rfl (blk_set (blk_set (blk_set (blk_set nR 0 _) 1 _) 2 _) 3 _) agg_Rect rfl) rfl ?_
  refine ⟨?_, (((hB.setCell (by simp) _).setCell (by simp) _).setCell (by simp) _).setCell (by simp) _⟩
  rw [← HE.out.1, ← HE.out.2]
  rfl
end Go.Proofs.Ytgofkgmhpnkchaa

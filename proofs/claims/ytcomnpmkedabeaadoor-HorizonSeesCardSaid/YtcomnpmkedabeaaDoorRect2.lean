/- Contracts of package rect, on. -/
import Derived.Test.YtcomnpmkedabeaaDoorRect
set_option linter.unusedVariables false
set_option linter.unusedSimpArgs false
namespace Go.Proofs.YtcomnpmkedabeaaDoor
open Go.RowKit
set_option maxHeartbeats 1000000 in
theorem area_ok (x0 y0 x1 y1 : Int) (w : World) (h0 : 0 ≤ x0) (h1 : x0 ≤ x1) (h2 : x1 < 1024) (h3 : 0 ≤ y0) (h4 : y0 ≤ y1) (h5 : y1 < 1024) :
    Calls Tryd.prog 45 #[.agg #[.int .i64 x0, .int .i64 y0, .int .i64 x1, .int .i64 y1]] w fun r w' => r = .returned (.int .i64 ((x1 - x0 + 1) * (y1 - y0 + 1))) ∧ Below w.heap.size w w' := by
  go_enter Tryd.func45, Tryd.ntmps45
  go_wp2_with fail
  refine (right_ok _ _ _ _ _ h0 h1 h2 h3 h4 h5).mono ?_
  rintro e w1 ⟨rfl, hb⟩
  have hB := below_next (below_alloc1 _ _) hb
  have c0 := below_blk hb (blk_new w _)
  clear hb
  go_wp2_with fail
  have k_0 := cells_q c0 0 rfl
  have k_1 := cells_q c0 1 rfl
  have k_2 := cells_q c0 2 rfl
  have k_3 := cells_q c0 3 rfl
  refine wp_quiet (by kernel_rfl) (by kernel_rfl) ?_
  repeat (go_big_quiet_step ((first | (go_at_call 68; exact Calls.quiet (width_any _ _ _ _ _ (by omega) (by omega) (by omega) (by omega))))))
  refine wpQuiet_nil ?_
  intro w2 hb2
  clear k_0 k_1 k_2 k_3 c0
  go_wp2_with fail
  go_ret
  have m := mul_bd (A := 1024) (B := 1024) (show 0 ≤ x1 - x0 + 1 by omega) (by omega) (show 0 ≤ y1 - y0 + 1 by omega) (by omega)
  exact ⟨ret_int (wrap64_id (by omega) (by omega)), below_next hB hb2⟩

set_option maxHeartbeats 1000000 in
theorem nth_ok (x0 y0 x1 y1 i : Int) (w : World) (h0 : 0 ≤ x0) (h1 : x0 ≤ x1) (h2 : x1 < 1024) (h3 : 0 ≤ y0) (h4 : y0 ≤ y1) (h5 : y1 < 1024) (hi : 0 ≤ i) (hi2 : i < (x1 - x0 + 1) * (y1 - y0 + 1)) :
    Calls Tryd.prog 70 #[.agg #[.int .i64 x0, .int .i64 y0, .int .i64 x1, .int .i64 y1], .int .i64 i] w fun r w' => r = .returned (.tuple #[.agg #[.int .i64 (x0 + i % (x1 - x0 + 1)), .int .i64 (y0 + i / (x1 - x0 + 1))], .bool true]) ∧ Below w.heap.size w w' := by
  have hd := div_bd hi (show 0 < x1 - x0 + 1 by omega) (by rw [Int.mul_comm]; exact hi2)
  have hm0 := Int.emod_nonneg i (show x1 - x0 + 1 ≠ 0 by omega)
  have hm1 := Int.emod_lt_of_pos i (show 0 < x1 - x0 + 1 by omega)
  obtain ⟨hd0, hd1⟩ := hd
  have m := mul_bd (A := 1024) (B := 1024) (show 0 ≤ x1 - x0 + 1 by omega) (by omega) (show 0 ≤ y1 - y0 + 1 by omega) (by omega)
  obtain ⟨m0, m1⟩ := m
  have hi3 : i ≤ 1048576 := by omega
  go_enter Tryd.func70, Tryd.ntmps70
  go_wp2_with fail
  refine (area_ok _ _ _ _ _ h0 h1 h2 h3 h4 h5).mono ?_
  rintro e w1 ⟨rfl, hb⟩
  have hB := below_next (below_alloc (below_alloc1 _ _) _) hb
  have c0 := below_blk hb (below_blk (below_alloc1 _ _) (blk_new w _))
  have c1 := below_blk hb (blk_new _ _)
  rw [alloc_size] at c1
  clear hb
  go_wp2_with fail
  refine (inside_yes _ _ _ hi hi2).mono ?_
  rintro e w' ⟨rfl, rfl⟩
  go_wp2_with fail
  have k_0 := cells_q c0 0 rfl
  have k_1 := cells_q c0 1 rfl
  have k_2 := cells_q c0 2 rfl
  have k_3 := cells_q c0 3 rfl
  refine wp_tail 15 (by kernel_rfl) (by kernel_rfl) ?_
  simp only [List.take_succ_cons, List.take_zero, List.drop_succ_cons, List.drop_zero]
  repeat (go_big_quiet_step ((first | (go_at_call 68; exact Calls.quiet (width_any _ _ _ _ _ (by omega) (by omega) (by omega) (by omega))))))
  refine wpQuiet_nil ?_
  intro w2 hb2
  have c2 := below_blk hb2 c1
  have hB2 := below_next hB hb2
  clear k_0 k_1 k_2 k_3 c0 c1 hb2 hB
  have k_0 := cells_w c2 0 rfl
  have k_1 := cells_w c2 1 rfl
  have z_0 := blk_frozen c2 0
  have z_1 := blk_frozen c2 1
  go_wp2_with fail
  refine bodyPost_ret (res_ct rfl rfl (blk_set (blk_set c2 0 _) 1 _) agg_Cell rfl) rfl ?_
  exact ⟨rfl, (hB2.setCell (by simp) _).setCell (by simp) _⟩

theorem floor_any (n : Int) (w : World) (h0 : 0 ≤ n) (h1 : n < 1048576) :
    Calls Tryd.prog 52 #[.int .i64 n] w fun r w' => r = .returned (.int .i64 (n / 16 * 16)) ∧ w = w' := by
  go_enter Tryd.func52, Tryd.ntmps52
  go_wp2
  go_ret
  exact ⟨ret_int (andnot15 n h0 h1), rfl⟩
end Go.Proofs.YtcomnpmkedabeaaDoor

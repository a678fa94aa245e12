/- ray: sign, can, of, Len, plus. -/
import Derived.Test.YtcomnpmkedabeaaDoorRayMath
import Derived.Test.YtcomnpmkedabeaaDoorPairs
import Derived.Test.YtcomnpmkedabeaaDoorNewCell
import Derived.Test.YtcomnpmkedabeaaDoorTail
import Derived.Deep.LoopGhost
set_option linter.unusedVariables false
set_option linter.unusedSimpArgs false
namespace Go.Proofs.YtcomnpmkedabeaaDoor
open Go.RowKit

theorem agg_walk : AggTy Tryd.prog 93 6 := ⟨⟨_, Tryd.underlying93⟩, by kernel_rfl⟩
theorem ray_sign_ok (n : Int) (W : World) (h1 : -4294967296 ≤ n) (h2 : n ≤ 4294967296) : Calls Tryd.prog 67 #[.int .i64 n] W fun e W' => e = .returned (.tuple #[.int .i64 (sg1 n), .int .i64 (ab1 n)]) ∧ W = W' := by
  by_cases h : n < 0
  · have t1 := decide_eq_true h
    have e1 : sg1 n = -1 := if_pos h
    have e2 : ab1 n = -n := if_pos h
    have wn : wrap64 (-n) = -n := wrap64_id (by omega) (by omega)
    rw [e1, e2]
    clear e1 e2
    go_enter Tryd.func67, Tryd.ntmps67
    go_wp2_with fail
    go_ret2
    exact ⟨rfl, rfl⟩
  · have t1 := decide_eq_false h
    have e1 : sg1 n = 1 := if_neg h
    have e2 : ab1 n = n := if_neg h
    rw [e1, e2]
    clear e1 e2
    go_enter Tryd.func67, Tryd.ntmps67
    go_wp2_with fail
    go_ret2
    exact ⟨rfl, rfl⟩
theorem ray_can_ok (x y : Int) (W : World) (h1 : 0 ≤ x) (h2 : x < 1024) (h3 : 0 ≤ y) (h4 : y < 1024) : Calls Tryd.prog 66 #[.agg #[.int .i64 x, .int .i64 y]] W fun e W' => e = .returned (.bool true) ∧ Below W.heap.size W W' := by
  have t1 := decide_eq_true h1
  have t2 := decide_eq_true h2
  have t3 := decide_eq_true h3
  have t4 := decide_eq_true h4
  go_enter Tryd.func66, Tryd.ntmps66
  go_wp2_with fail
  go_ret
  exact ⟨rfl, below_alloc1 W _⟩
/-- A ray's walk, as a value. -/
def walkV (ax ay bx by' : Int) : Value := .agg #[.int .i64 (rN ax ay bx by'), .int .i64 (rM ax ay bx by'), .int .i64 (rAX ax ay bx by'), .int .i64 (rAY ax ay bx by'), .int .i64 (rOX ax ay bx by'), .int .i64 (rOY ax ay bx by')]
set_option maxHeartbeats 2000000 in
set_option maxRecDepth 100000 in
theorem ray_of_ok (ax ay bx by' : Int) (W : World) (H : Cans ax ay bx by') : Calls Tryd.prog 42 #[.agg #[.int .i64 ax, .int .i64 ay], .agg #[.int .i64 bx, .int .i64 by']] W fun e W' => e = .returned (walkV ax ay bx by') ∧ Below W.heap.size W W' := by
  obtain ⟨a1, a2, a3, a4, b1, b2, b3, b4⟩ := H
  have w1 : wrap64 (bx - ax) = bx - ax := wrap64_id (by omega) (by omega)
  have w2 : wrap64 (by' - ay) = by' - ay := wrap64_id (by omega) (by omega)
  have s1 : -4294967296 ≤ bx - ax := by omega
  have s2 : bx - ax ≤ 4294967296 := by omega
  have s3 : -4294967296 ≤ by' - ay := by omega
  have s4 : by' - ay ≤ 4294967296 := by omega
  by_cases h : ab1 (bx - ax) < ab1 (by' - ay)
  · have t1 := decide_eq_true h
    go_enter Tryd.func42, Tryd.ntmps42
    go_wp2_with (go_at_call 67; refine (ray_sign_ok _ _ (by assumption) (by assumption)).mono ?_; rintro e w' ⟨rfl, rfl⟩)
    refine bodyPost_ret (res_c rfl rfl (blk_new_at (by simp)) agg_walk rfl) rfl ?_
    refine ⟨?_, below_alloc (below_alloc (below_alloc1 _ _) _) _⟩
    unfold walkV rN rM rAX rAY rOX rOY
    rw [if_pos h, if_pos h, if_pos h, if_pos h, if_pos h, if_pos h]
    try rfl
  · have t1 := decide_eq_false h
    go_enter Tryd.func42, Tryd.ntmps42
    go_wp2_with (go_at_call 67; refine (ray_sign_ok _ _ (by assumption) (by assumption)).mono ?_; rintro e w' ⟨rfl, rfl⟩)
    refine bodyPost_ret (res_c rfl rfl (blk_new_at (by simp)) agg_walk rfl) rfl ?_
    refine ⟨?_, below_alloc (below_alloc (below_alloc1 _ _) _) _⟩
    unfold walkV rN rM rAX rAY rOX rOY
    have h' : ¬ ab1 (bx - ax) < ab1 (by' - ay) := by omega
    rw [if_neg h', if_neg h', if_neg h', if_neg h', if_neg h', if_neg h']
    try rfl
set_option maxHeartbeats 2000000 in
set_option maxRecDepth 100000 in
theorem ray_len_ok (ax ay bx by' : Int) (W : World) (H : Cans ax ay bx by') : Calls Tryd.prog 41 #[.agg #[.int .i64 ax, .int .i64 ay], .agg #[.int .i64 bx, .int .i64 by']] W fun e W' => e = .returned (.tuple #[.int .i64 (rN ax ay bx by'), .int .i64 0]) ∧ Below W.heap.size W W' := by
  go_enter Tryd.func41, Tryd.ntmps41
  go_wp2_with fail
  have n_B := (below_alloc (below_alloc1 W (.cells #[.int .i64 ax, .int .i64 ay] 24)) (.cells #[.int .i64 bx, .int .i64 by'] 24))
  have n_0 : ((W.alloc (.cells #[.int .i64 ax, .int .i64 ay] 24)).alloc (.cells #[.int .i64 bx, .int .i64 by'] 24)).heap[W.heap.size]? = some (.cells #[.int .i64 ax, .int .i64 ay] 24) := below_blk (below_alloc1 (W.alloc (.cells #[.int .i64 ax, .int .i64 ay] 24)) (.cells #[.int .i64 bx, .int .i64 by'] 24)) (blk_new_at (W := W) (o := .cells #[.int .i64 ax, .int .i64 ay] 24) (by simp))
  have n_1 : ((W.alloc (.cells #[.int .i64 ax, .int .i64 ay] 24)).alloc (.cells #[.int .i64 bx, .int .i64 by'] 24)).heap[W.heap.size + 1]? = some (.cells #[.int .i64 bx, .int .i64 by'] 24) := (blk_new_at (W := (W.alloc (.cells #[.int .i64 ax, .int .i64 ay] 24))) (o := .cells #[.int .i64 bx, .int .i64 by'] 24) (by simp))
  obtain ⟨w1, hw1⟩ : ∃ w1, ((W.alloc (.cells #[.int .i64 ax, .int .i64 ay] 24)).alloc (.cells #[.int .i64 bx, .int .i64 by'] 24)) = w1 := ⟨_, rfl⟩
  rw [hw1] at n_0 n_1 n_B ⊢
  clear hw1
  refine (ray_can_ok ax ay _ H.a1 H.a2 H.a3 H.a4).mono ?_
  rintro e w2 ⟨rfl, hb⟩
  replace n_0 := below_blk hb n_0
  replace n_1 := below_blk hb n_1
  replace n_B := below_next n_B hb
  clear hb
  have i_0 := cells_w n_1 0 rfl
  have i_1 := cells_w n_1 1 rfl
  go_wp2_with fail
  refine (ray_can_ok bx by' _ H.b1 H.b2 H.b3 H.b4).mono ?_
  rintro e w3 ⟨rfl, hb⟩
  replace n_0 := below_blk hb n_0
  replace n_1 := below_blk hb n_1
  replace n_B := below_next n_B hb
  clear hb i_0 i_1
  have i_0 := cells_w n_0 0 rfl
  have i_1 := cells_w n_0 1 rfl
  have j_0 := cells_w n_1 0 rfl
  have j_1 := cells_w n_1 1 rfl
  go_wp2_with fail
  refine (ray_of_ok ax ay bx by' _ H).mono ?_
  unfold walkV
  rintro e w4 ⟨rfl, hb⟩
  replace n_B := below_next n_B hb
  have hfd : ∀ w : World, (Instr.field 93 (.agg #[.int .i64 (rN ax ay bx by'), .int .i64 (rM ax ay bx by'), .int .i64 (rAX ax ay bx by'), .int .i64 (rAY ax ay bx by'), .int .i64 (rOX ax ay bx by'), .int .i64 (rOY ax ay bx by')]) 0).run Tryd.prog w = .ok (.int .i64 (rN ax ay bx by')) w := fun _ => by kernel_rfl
  go_wp2_with fail
  go_ret2
  exact ⟨rfl, n_B⟩
set_option maxHeartbeats 2000000 in
set_option maxRecDepth 100000 in
theorem ray_plus_ok (x y sx sy k : Int) (W : World) (h1 : -1048576 ≤ x) (h2 : x ≤ 1048576) (h3 : -1048576 ≤ y) (h4 : y ≤ 1048576) (s1 : -1 ≤ sx) (s2 : sx ≤ 1) (s3 : -1 ≤ sy) (s4 : sy ≤ 1) (k1 : 0 ≤ k) (k2 : k ≤ 1048576) :
    Calls Tryd.prog 43 #[.agg #[.int .i64 x, .int .i64 y], .agg #[.int .i64 sx, .int .i64 sy], .int .i64 k] W fun e W' => e = .returned (.agg #[.int .i64 (x + k * sx), .int .i64 (y + k * sy)]) ∧ Below W.heap.size W W' := by
  have m1 := one_step s1 s2 k1 k2
  have m2 := one_step s3 s4 k1 k2
  obtain ⟨A, hA⟩ : ∃ A, k * sx = A := ⟨_, rfl⟩
  obtain ⟨B, hB'⟩ : ∃ B, k * sy = B := ⟨_, rfl⟩
  rw [hA] at m1 ⊢
  rw [hB'] at m2 ⊢
  have e1 : wrap64 (k * sx) = A := by rw [hA]; exact wrap64_id (by omega) (by omega)
  have e2 : wrap64 (k * sy) = B := by rw [hB']; exact wrap64_id (by omega) (by omega)
  have e3 : wrap64 (x + A) = x + A := wrap64_id (by omega) (by omega)
  have e4 : wrap64 (y + B) = y + B := wrap64_id (by omega) (by omega)
  clear hA hB' m1 m2
  go_enter Tryd.func43, Tryd.ntmps43
  go_wp2_with fail
  refine bodyPost_ret (res_c rfl rfl (blk_new_at (by simp)) agg_Cell rfl) rfl ?_
  exact ⟨rfl, below_alloc (below_alloc (below_alloc1 _ _) _) _⟩
end Go.Proofs.YtcomnpmkedabeaaDoor

/- ray.At; slope.Hides; sight.Profile. -/
import Derived.Test.YtcomnpmkedabeaaDoorRayRow
import Derived.Test.YtcomnpmkedabeaaDoorGridAny
import Derived.Test.YtcomnpmkedabeaaDoorFind64
set_option linter.unusedVariables false
set_option linter.unusedSimpArgs false
namespace Go.Proofs.YtcomnpmkedabeaaDoor
open Go.RowKit

theorem sight_may_ok (h : Int) (W : World) (h1 : 0 ≤ h) (h2 : h ≤ 1048576) : Calls Tryd.prog 25 #[.int .i64 h] W fun e W' => e = .returned (.bool true) ∧ W = W' := by
  have t1 := decide_eq_true h1
  have t2 := decide_eq_true h2
  go_enter Tryd.func25, Tryd.ntmps25
  go_wp2_with fail
  go_ret
  exact ⟨rfl, rfl⟩
theorem near_ok (n : Int) (W : World) (h1 : -1099511627776 ≤ n) (h2 : n ≤ 1099511627776) : Calls Tryd.prog 40 #[.int .i64 n] W fun e W' => e = .returned (.bool true) ∧ W = W' := by
  have t1 := decide_eq_true h1
  have t2 := decide_eq_true h2
  go_enter Tryd.func40, Tryd.ntmps40
  go_wp2_with fail
  go_ret
  exact ⟨rfl, rfl⟩
/-- Above a line? -/
def hidB (z p q i n : Int) : Bool := decide ((q - p) * i < (z - p) * n)
theorem mul_bd2 {a b A B : Int} (h0 : -A ≤ a) (h1 : a ≤ A) (h2 : 0 ≤ b) (h3 : b ≤ B) (hA : 0 ≤ A) : -(A * B) ≤ a * b ∧ a * b ≤ A * B := by
  rcases Int.lt_or_le a 0 with h | h
  · have := mul_bd (a := -a) (b := b) (A := A) (B := B) (by omega) (by omega) h2 h3
    rw [Int.neg_mul] at this
    omega
  · have := mul_bd (a := a) (b := b) (A := A) (B := B) h h1 h2 h3
    omega
set_option maxHeartbeats 2000000 in
theorem hides_ok (z p q i n : Int) (W : World) (n1 : 1 ≤ n) (n2 : n ≤ 1024) (i0 : 0 ≤ i) (i1 : i ≤ n) (z1 : -1099511627776 ≤ z) (z2 : z ≤ 1099511627776) (p1 : -1099511627776 ≤ p) (p2 : p ≤ 1099511627776) (q1 : -1099511627776 ≤ q) (q2 : q ≤ 1099511627776) :
    Calls Tryd.prog 26 #[.int .i64 z, .int .i64 p, .int .i64 q, .int .i64 i, .int .i64 n] W fun e W' => e = .returned (.tuple #[.bool (hidB z p q i n), .int .i64 0]) ∧ W = W' := by
  have t1 : decide (n < 1) = false := decide_eq_false (by omega)
  have t2 : decide (1024 < n) = false := decide_eq_false (by omega)
  have t3 : decide (i < 0) = false := decide_eq_false (by omega)
  have t4 : decide (n < i) = false := decide_eq_false (by omega)
  have w1 : wrap64 (z - p) = z - p := wrap64_id (by omega) (by omega)
  have w2 : wrap64 (q - p) = q - p := wrap64_id (by omega) (by omega)
  have m1 := mul_bd2 (a := z - p) (b := n) (A := 2199023255552) (B := 1024) (by omega) (by omega) (by omega) (by omega) (by omega)
  have m2 := mul_bd2 (a := q - p) (b := i) (A := 2199023255552) (B := 1024) (by omega) (by omega) (by omega) (by omega) (by omega)
  have w3 : wrap64 ((z - p) * n) = (z - p) * n := wrap64_id (by omega) (by omega)
  have w4 : wrap64 ((q - p) * i) = (q - p) * i := wrap64_id (by omega) (by omega)
  clear m1 m2
  go_enter Tryd.func26, Tryd.ntmps26
  go_wp2_with (go_at_call 40; refine (near_ok _ _ (by assumption) (by assumption)).mono ?_; rintro e w' ⟨rfl, rfl⟩)
  go_ret2
  exact ⟨rfl, rfl⟩

set_option maxHeartbeats 4000000 in
set_option maxRecDepth 100000 in
theorem ray_at_ok (ax ay bx by' i : Int) (W : World) (H : Cans ax ay bx by') (i0 : 0 ≤ i) (i1 : i ≤ rN ax ay bx by') (hn : 0 < rN ax ay bx by') :
    Calls Tryd.prog 27 #[.agg #[.int .i64 ax, .int .i64 ay], .agg #[.int .i64 bx, .int .i64 by'], .int .i64 i] W fun e W' => e = .returned (.tuple #[.agg #[.int .i64 (rX ax ay bx by' i), .int .i64 (rY ax ay bx by' i)], .int .i64 0]) ∧ Below W.heap.size W W' := by
  obtain ⟨m0, m1, n1⟩ := r_bd H
  obtain ⟨⟨s1, s2⟩, ⟨s3, s4⟩, ⟨s5, s6⟩, ⟨s7, s8⟩⟩ := r_steps (ax := ax) (ay := ay) (bx := bx) (by' := by')
  have hlen := fun W => ray_len_ok ax ay bx by' W H
  have hof := fun W => ray_of_ok ax ay bx by' W H
  unfold walkV at hof
  obtain ⟨ha1, ha2, ha3, ha4, _, _, _, _⟩ := H
  unfold rX rY
  have hob := rO_bd (n := rN ax ay bx by') (m := rM ax ay bx by') (i := i) (by omega) m0 m1 i0 i1
  obtain ⟨AX, hAX⟩ : ∃ v, rAX ax ay bx by' = v := ⟨_, rfl⟩
  obtain ⟨AY, hAY⟩ : ∃ v, rAY ax ay bx by' = v := ⟨_, rfl⟩
  obtain ⟨OX, hOX⟩ : ∃ v, rOX ax ay bx by' = v := ⟨_, rfl⟩
  obtain ⟨OY, hOY⟩ : ∃ v, rOY ax ay bx by' = v := ⟨_, rfl⟩
  obtain ⟨m, hm⟩ : ∃ v, rM ax ay bx by' = v := ⟨_, rfl⟩
  obtain ⟨n, hnn⟩ : ∃ v, rN ax ay bx by' = v := ⟨_, rfl⟩
  rw [hnn] at hlen hof m1 n1 i1 hn hob ⊢
  rw [hm] at hof m0 m1 hob ⊢
  rw [hAX] at hof s1 s2 ⊢
  rw [hAY] at hof s3 s4 ⊢
  rw [hOX] at hof s5 s6 ⊢
  rw [hOY] at hof s7 s8 ⊢
  clear hAX hAY hOX hOY hm hnn
  have hmul := mul_bd (a := 2 * i) (b := m) (A := 2046) (B := 1023) (by omega) (by omega) m0 (by omega)
  have w1 : wrap64 (2 * i) = 2 * i := wrap64_id (by omega) (by omega)
  have w2 : wrap64 (2 * n) = 2 * n := wrap64_id (by omega) (by omega)
  obtain ⟨O, hO⟩ : ∃ O, rO n m i = O := ⟨_, rfl⟩
  rw [hO] at hob ⊢
  unfold rO at hO
  obtain ⟨P, hP⟩ : ∃ P, 2 * i * m = P := ⟨_, rfl⟩
  rw [hP] at hmul hO
  have w3 : wrap64 (2 * i * m) = P := by rw [hP]; exact wrap64_id (by omega) (by omega)
  have w4 : wrap64 (P + n) = P + n := wrap64_id (by omega) (by omega)
  have hq : (P + n).tdiv (2 * n) = O := by rw [Int.tdiv_eq_ediv_of_nonneg (by omega)]; exact hO
  have w5 : wrap64 ((P + n).tdiv (2 * n)) = O := by rw [hq]; exact wrap64_id (by omega) (by omega)
  have w6 : wrap64 O = O := wrap64_id (by omega) (by omega)
  have z0 : (2 * n == 0) = false := by simp; omega
  have t1 : decide (i < 0) = false := decide_eq_false (by omega)
  have t2 : decide (n < i) = false := decide_eq_false (by omega)
  have t3 : (n == 0) = false := by simp; omega
  have pX := one_step (A := 1023) s1 s2 i0 (by omega)
  have pY := one_step (A := 1023) s3 s4 i0 (by omega)
  obtain ⟨PX, hPX⟩ : ∃ PX, ax + i * AX = PX := ⟨_, rfl⟩
  obtain ⟨PY, hPY⟩ : ∃ PY, ay + i * AY = PY := ⟨_, rfl⟩
  have g1 : -1048576 ≤ ax := by omega
  have g2 : ax ≤ 1048576 := by omega
  have g3 : -1048576 ≤ ay := by omega
  have g4 : ay ≤ 1048576 := by omega
  have g5 : i ≤ 1048576 := by omega
  have g6 : -1048576 ≤ PX := by omega
  have g7 : PX ≤ 1048576 := by omega
  have g8 : -1048576 ≤ PY := by omega
  have g9 : PY ≤ 1048576 := by omega
  have h6 : 0 ≤ O := hob.1
  have h7 : O ≤ 1048576 := by omega
  rw [hPX, hPY]
  have hp1 := fun W => ray_plus_ok ax ay AX AY i W g1 g2 g3 g4 s1 s2 s3 s4 i0 g5
  rw [hPX, hPY] at hp1
  have hp2 := fun W => ray_plus_ok PX PY OX OY O W g6 g7 g8 g9 s5 s6 s7 s8 h6 h7
  have HP1 := Lib.hid hp1
  have HP2 := Lib.hid hp2
  have HLEN := Lib.hid hlen
  have HOF := Lib.hid hof
  clear hp1 hp2 hlen hof hP hO hPX hPY pX pY hmul hob g1 g2 g3 g4 g5 g6 g7 g8 g9
  go_enter Tryd.func27, Tryd.ntmps27
  go_wp2_with fail
  have n_B := (below_alloc (below_alloc (below_alloc1 W (.cells #[.int .i64 ax, .int .i64 ay] 24)) (.cells #[.int .i64 bx, .int .i64 by'] 24)) (.cells #[.int .i64 0, .int .i64 0] 24))
  have n_0 : (((W.alloc (.cells #[.int .i64 ax, .int .i64 ay] 24)).alloc (.cells #[.int .i64 bx, .int .i64 by'] 24)).alloc (.cells #[.int .i64 0, .int .i64 0] 24)).heap[W.heap.size]? = some (.cells #[.int .i64 ax, .int .i64 ay] 24) := below_blk (below_alloc (below_alloc1 (W.alloc (.cells #[.int .i64 ax, .int .i64 ay] 24)) (.cells #[.int .i64 bx, .int .i64 by'] 24)) (.cells #[.int .i64 0, .int .i64 0] 24)) (blk_new_at (W := W) (o := .cells #[.int .i64 ax, .int .i64 ay] 24) (by simp))
  have n_1 : (((W.alloc (.cells #[.int .i64 ax, .int .i64 ay] 24)).alloc (.cells #[.int .i64 bx, .int .i64 by'] 24)).alloc (.cells #[.int .i64 0, .int .i64 0] 24)).heap[W.heap.size + 1]? = some (.cells #[.int .i64 bx, .int .i64 by'] 24) := below_blk (below_alloc1 ((W.alloc (.cells #[.int .i64 ax, .int .i64 ay] 24)).alloc (.cells #[.int .i64 bx, .int .i64 by'] 24)) (.cells #[.int .i64 0, .int .i64 0] 24)) (blk_new_at (W := (W.alloc (.cells #[.int .i64 ax, .int .i64 ay] 24))) (o := .cells #[.int .i64 bx, .int .i64 by'] 24) (by simp))
  have n_2 : (((W.alloc (.cells #[.int .i64 ax, .int .i64 ay] 24)).alloc (.cells #[.int .i64 bx, .int .i64 by'] 24)).alloc (.cells #[.int .i64 0, .int .i64 0] 24)).heap[W.heap.size + 1 + 1]? = some (.cells #[.int .i64 0, .int .i64 0] 24) := (blk_new_at (W := ((W.alloc (.cells #[.int .i64 ax, .int .i64 ay] 24)).alloc (.cells #[.int .i64 bx, .int .i64 by'] 24))) (o := .cells #[.int .i64 0, .int .i64 0] 24) (by simp))
  obtain ⟨w1', hw1'⟩ : ∃ w1', (((W.alloc (.cells #[.int .i64 ax, .int .i64 ay] 24)).alloc (.cells #[.int .i64 bx, .int .i64 by'] 24)).alloc (.cells #[.int .i64 0, .int .i64 0] 24)) = w1' := ⟨_, rfl⟩
  rw [hw1'] at n_0 n_1 n_2 n_B ⊢
  clear hw1'
  refine (HLEN.out _).mono ?_
  rintro e w2' ⟨rfl, hb⟩
  replace n_0 := below_blk hb n_0
  replace n_1 := below_blk hb n_1
  replace n_2 := below_blk hb n_2
  replace n_B := below_next n_B hb
  clear hb
  have i_0 := cells_w n_0 0 rfl
  have i_1 := cells_w n_0 1 rfl
  have j_0 := cells_w n_1 0 rfl
  have j_1 := cells_w n_1 1 rfl
  go_wp2_with fail
  refine (HOF.out _).mono ?_
  rintro e w3' ⟨rfl, hb⟩
  replace n_0 := below_blk hb n_0
  replace n_2 := below_blk hb n_2
  replace n_B := below_next n_B hb
  clear hb i_0 i_1 j_0 j_1 n_1
  go_wp2_with fail
  have nK := blk_new w3' (.cells #[.int .i64 n, .int .i64 m, .int .i64 AX, .int .i64 AY, .int .i64 OX, .int .i64 OY] 93)
  have hbA := below_alloc1 w3' (.cells #[.int .i64 n, .int .i64 m, .int .i64 AX, .int .i64 AY, .int .i64 OX, .int .i64 OY] 93)
  obtain ⟨w4', hw4⟩ : ∃ w4', w3'.alloc (.cells #[.int .i64 n, .int .i64 m, .int .i64 AX, .int .i64 AY, .int .i64 OX, .int .i64 OY] 93) = w4' := ⟨_, rfl⟩
  rw [hw4] at nK hbA ⊢
  replace n_0 := below_blk hbA n_0
  replace n_2 := below_blk hbA n_2
  replace n_B := below_next n_B hbA
  clear hw4 hbA
  have i_0 := cells_q n_0 0 rfl
  have i_1 := cells_q n_0 1 rfl
  have j_0 := cells_q nK 0 rfl
  have j_1 := cells_q nK 1 rfl
  have j_2 := cells_q nK 2 rfl
  have j_3 := cells_q nK 3 rfl
  have j_4 := cells_q nK 4 rfl
  have j_5 := cells_q nK 5 rfl
  refine wp_tail 18 (by kernel_rfl) (by kernel_rfl) ?_
  simp only [List.take_succ_cons, List.take_zero, List.drop_succ_cons, List.drop_zero]
  repeat (go_big_quiet_step ((first | (go_at_call 43; with_reducible exact Calls.quiet (HP1.out _)) | (go_at_call 43; with_reducible exact Calls.quiet (HP2.out _)))))
  refine wpQuiet_nil ?_
  intro w5' hb5
  replace n_2 := below_blk hb5 n_2
  replace n_B := below_next n_B hb5
  clear i_0 i_1 j_0 j_1 j_2 j_3 j_4 j_5 nK n_0
  have i_0 := cells_w n_2 0 rfl
  have i_1 := cells_w n_2 1 rfl
  have z_0 := blk_frozen n_2 0
  have z_1 := blk_frozen n_2 1
  go_wp2_with fail
  refine bodyPost_ret (res_ct rfl rfl (blk_set (blk_set n_2 0 _) 1 _) agg_Cell rfl) rfl ?_
  exact ⟨rfl, (n_B.setCell (by simp; omega) _).setCell (by simp; omega) _⟩
end Go.Proofs.YtcomnpmkedabeaaDoor

/- hachureref16.Span. -/
import Derived.Test.YtgofkgmhpnkchaaValues09
set_option linter.unusedVariables false
set_option linter.unusedSimpArgs false
namespace Go.Proofs.Ytgofkgmhpnkchaa
open Go.RowKit

theorem pow_bd {k : Nat} (hk : k ≤ 10) : (1 : Int) ≤ 2 ^ k ∧ (2 : Int) ^ k ≤ 1024 := by
  have h1 := Nat.pow_le_pow_right (n := 2) (by omega) hk
  have h2 := Nat.pow_le_pow_right (n := 2) (by omega) (Nat.zero_le k)
  have e : ((2 ^ k : Nat) : Int) = 2 ^ k := by push_cast; rfl
  omega
theorem span_bd {w x : Int} {k : Nat} (a1 : 0 ≤ x) (a2 : x < lw w k) : 0 ≤ x * 2 ^ k ∧ x * 2 ^ k ≤ w - 1 := by
  have p := pow2_pos k
  exact ⟨Int.mul_nonneg a1 (Int.le_of_lt p), (Int.le_ediv_iff_mul_le p).1 (by unfold lw at a2; omega)⟩

set_option maxHeartbeats 2000000 in
set_option maxRecDepth 100000 in
theorem ref16_Span_ok (w h x y : Int) (k : Nat) (v : Value) (W : World) (w1 : 1 ≤ w) (w2 : w ≤ 1024) (h1 : 1 ≤ h) (h2 : h ≤ 1024) (hk : k ≤ 10) (a1 : 0 ≤ x) (a2 : x < lw w k) (a3 : 0 ≤ y) (a4 : y < lw h k) (hv : ∃ o n c, v = .slice o n c) :
    Calls Try.prog 48 #[.agg #[.int .i64 w, .int .i64 h, v], .int .i64 k, .agg #[.int .i64 x, .int .i64 y]] W
      fun e W' => e = .returned (.agg #[.int .i64 (x * 2 ^ k), .int .i64 (y * 2 ^ k), .int .i64 (imin ((x + 1) * 2 ^ k - 1) (w - 1)), .int .i64 (imin ((y + 1) * 2 ^ k - 1) (h - 1))]) ∧ Below W.heap.size W W' := by
  obtain ⟨o, n, c, rfl⟩ := hv
  have bx := span_bd a1 a2
  have hby := span_bd a3 a4
  have bS := pow_bd hk
  have lx := lw_bd w1 k
  have ly := lw_bd h1 k
  have HB := Lib.hid (And.intro bx (And.intro hby (And.intro bS (And.intro lx ly))))
  clear bx hby bS lx ly
  go_enter Try.func48, Try.ntmps48
  go_wp2_with fail
  have n0 := below_blk (below_alloc (below_alloc1 (W.alloc (.cells #[.int .i64 w, .int .i64 h, .slice o n c] 27)) (.cells #[.int .i64 x, .int .i64 y] 24)) (.cells #[.int .i64 0, .int .i64 0, .int .i64 0, .int .i64 0] 45)) (blk_new W (.cells #[.int .i64 w, .int .i64 h, .slice o n c] 27))
  have n1 := below_blk (below_alloc1 ((W.alloc (.cells #[.int .i64 w, .int .i64 h, .slice o n c] 27)).alloc (.cells #[.int .i64 x, .int .i64 y] 24)) (.cells #[.int .i64 0, .int .i64 0, .int .i64 0, .int .i64 0] 45)) (blk_new2 W (.cells #[.int .i64 w, .int .i64 h, .slice o n c] 27) (.cells #[.int .i64 x, .int .i64 y] 24))
  have n2 := blk_new2 (W.alloc (.cells #[.int .i64 w, .int .i64 h, .slice o n c] 27)) (.cells #[.int .i64 x, .int .i64 y] 24) (.cells #[.int .i64 0, .int .i64 0, .int .i64 0, .int .i64 0] 45)
  have hB := below_alloc (below_alloc (below_alloc1 W (.cells #[.int .i64 w, .int .i64 h, .slice o n c] 27)) (.cells #[.int .i64 x, .int .i64 y] 24)) (.cells #[.int .i64 0, .int .i64 0, .int .i64 0, .int .i64 0] 45)
  rw [alloc_size] at n2
  obtain ⟨w3, hw3⟩ : ∃ w3, (((W.alloc (.cells #[.int .i64 w, .int .i64 h, .slice o n c] 27)).alloc (.cells #[.int .i64 x, .int .i64 y] 24)).alloc (.cells #[.int .i64 0, .int .i64 0, .int .i64 0, .int .i64 0] 45)) = w3 := ⟨_, rfl⟩
  rw [hw3] at n0 n1 n2 hB ⊢
  clear hw3
  go_loopg [7, 8] k (fun q v7 v8 wr => ∃ (j : Nat) (P : Int), Hid (j + q = k) ∧ Hid (P = 2 ^ j) ∧ v7 = .int .i64 P ∧ v8 = .int .i64 (j : Int) ∧ w3 = wr)
  case atStart => exact ⟨0, 1, Nat.zero_add _, rfl, rfl, rfl, rfl⟩
  case round =>
    obtain ⟨j, P, hj, hP, rfl, rfl, rfl⟩ := hrel
    have hPb : 1 ≤ P ∧ P ≤ 1024 := by rw [hP.out]; exact pow_bd (by have := hj.out; omega)
    cases gk with
    | zero =>
      have hd : decide (j < k) = false := decide_eq_false (by have := hj.out; omega)
      have hPk : P = 2 ^ k := by rw [hP.out, show j = k from hj.out]
      obtain ⟨⟨b1, b2⟩, ⟨b3, b4⟩, ⟨b5, b6⟩, ⟨b7, b8⟩, ⟨b9, b10⟩⟩ := HB.out
      rw [← hPk] at b1 b2 b3 b4
      have sx : (x + 1) * P = x * P + P := by rw [Int.add_mul, Int.one_mul]
      have sy : (y + 1) * P = y * P + P := by rw [Int.add_mul, Int.one_mul]
      have u1 : wrap64 (x * P) = x * P := wrap64_id (by omega) (by omega)
      have u2 : wrap64 (y * P) = y * P := wrap64_id (by omega) (by omega)
      have u3 : wrap64 ((x + 1) * P) = (x + 1) * P := wrap64_id (by omega) (by omega)
      have u4 : wrap64 ((y + 1) * P) = (y + 1) * P := wrap64_id (by omega) (by omega)
      have u5 : wrap64 ((x + 1) * P - 1) = (x + 1) * P - 1 := wrap64_id (by omega) (by omega)
      have u6 : wrap64 ((y + 1) * P - 1) = (y + 1) * P - 1 := wrap64_id (by omega) (by omega)
      have HPk := Lib.hid hPk
      have HSX := Lib.hid sx
      have HSY := Lib.hid sy
      clear hPk
      have l2 := blk_lt n2
      have l0 := blk_lt n0
      have p_0 := cells_w n1 0 rfl
      have p_1 := cells_w n1 1 rfl
      have q_0 := fun o => cells_w (below_blk (below_alloc1 w3 o) n0) 0 rfl
      have q_1 := fun o => cells_w (below_blk (below_alloc1 w3 o) n0) 1 rfl
      have z_0 := fun o => blk_frozen (below_blk (below_alloc1 w3 o) n2) 0
      have z_1 := fun o => blk_frozen (below_blk (below_alloc1 w3 o) n2) 1
      have z_2 := fun o => blk_frozen (below_blk (below_alloc1 w3 o) n2) 2
      have z_3 := fun o => blk_frozen (below_blk (below_alloc1 w3 o) n2) 3
      have k_0 := cells_w n2 0 rfl
      have k_1 := cells_w n2 1 rfl
      have k_2 := cells_w n2 2 rfl
      have k_3 := cells_w n2 3 rfl
      have zz_0 := blk_frozen n2 0
      have zz_1 := blk_frozen n2 1
      have zz_2 := blk_frozen n2 2
      have zz_3 := blk_frozen n2 3
      clear sx sy
      by_cases hx : w ≤ (x + 1) * P - 1
      · have hxd := decide_eq_true hx
        have ex : imin ((x + 1) * P - 1) (w - 1) = w - 1 := by unfold imin; rw [if_pos (by omega)]
        have EX := Lib.hid ex
        clear ex
        by_cases hy : h ≤ (y + 1) * P - 1
        · have hyd := decide_eq_true hy
          have ey : imin ((y + 1) * P - 1) (h - 1) = h - 1 := by unfold imin; rw [if_pos (by omega)]
          have EY := Lib.hid ey
          clear ey
          go_wp2_with fail
          refine bodyPost_ret (res_c rfl rfl (below_blk (below_alloc1 _ _) (blk_set (blk_set (blk_set (blk_set n2 0 _) 1 _) 2 _) 3 _)) agg_Rect rfl) rfl ?_
          refine ⟨?_, below_alloc ((((hB.setCell (by simp; omega) _).setCell (by simp; omega) _).setCell (by simp; omega) _).setCell (by simp; omega) _) _⟩
          rw [← HPk.out, EX.out, EY.out]
          rfl
        · have hyd := decide_eq_false hy
          have ey : imin ((y + 1) * P - 1) (h - 1) = (y + 1) * P - 1 := by unfold imin; rw [if_neg (by omega)]
          have EY := Lib.hid ey
          clear ey
          go_wp2_with fail
          refine bodyPost_ret (res_c rfl rfl (below_blk (below_alloc1 _ _) (blk_set (blk_set (blk_set (blk_set n2 0 _) 1 _) 2 _) 3 _)) agg_Rect rfl) rfl ?_
          refine ⟨?_, below_alloc ((((hB.setCell (by simp; omega) _).setCell (by simp; omega) _).setCell (by simp; omega) _).setCell (by simp; omega) _) _⟩
          rw [← HPk.out, EX.out, EY.out]
          rfl
      · have hxd := decide_eq_false hx
        have ex : imin ((x + 1) * P - 1) (w - 1) = (x + 1) * P - 1 := by unfold imin; rw [if_neg (by omega)]
        have EX := Lib.hid ex
        clear ex
        by_cases hy : h ≤ (y + 1) * P - 1
        · have hyd := decide_eq_true hy
          have ey : imin ((y + 1) * P - 1) (h - 1) = h - 1 := by unfold imin; rw [if_pos (by omega)]
          have EY := Lib.hid ey
          clear ey
          go_wp2_with fail
          refine bodyPost_ret (res_c rfl rfl (below_blk (below_alloc1 _ _) (blk_set (blk_set (blk_set (blk_set n2 0 _) 1 _) 2 _) 3 _)) agg_Rect rfl) rfl ?_
          refine ⟨?_, below_alloc ((((hB.setCell (by simp; omega) _).setCell (by simp; omega) _).setCell (by simp; omega) _).setCell (by simp; omega) _) _⟩
          rw [← HPk.out, EX.out, EY.out]
          rfl
        · have hyd := decide_eq_false hy
          have ey : imin ((y + 1) * P - 1) (h - 1) = (y + 1) * P - 1 := by unfold imin; rw [if_neg (by omega)]
          have EY := Lib.hid ey
          clear ey
          go_wp2_with fail
          refine bodyPost_ret (res_c rfl rfl (below_blk (below_alloc1 _ _) (blk_set (blk_set (blk_set (blk_set n2 0 _) 1 _) 2 _) 3 _)) agg_Rect rfl) rfl ?_
          refine ⟨?_, below_alloc ((((hB.setCell (by simp; omega) _).setCell (by simp; omega) _).setCell (by simp; omega) _).setCell (by simp; omega) _) _⟩
          rw [← HPk.out, EX.out, EY.out]
          rfl
    | succ m =>
      have hjk : j < k := by have := hj.out; omega
      have hd : decide (j < k) = true := decide_eq_true hjk
      have hjk2 : (j : Int) < 10 := by omega
      go_wp2_with fail
      go_roundg m
      case measure => omega
      case rel =>
        exact ⟨j + 1, 2 * P, by have := hj.out; exact (show j + 1 + m = k by omega), show (2 : Int) * P = 2 ^ (j + 1) by rw [hP.out, Int.pow_succ, Int.mul_comm], rfl, congrArg (Value.int .i64) (by push_cast; omega), rfl⟩
end Go.Proofs.Ytgofkgmhpnkchaa

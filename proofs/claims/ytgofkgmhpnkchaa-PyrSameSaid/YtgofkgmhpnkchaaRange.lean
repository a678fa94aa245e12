/- hachureref08.Range: the least and the greatest of a row. -/
import Derived.Test.YtgofkgmhpnkchaaRng
import Derived.Test.YtgofkgmhpnkchaaFind64
import Derived.Test.YtgofkgmhpnkchaaNewCell
import Derived.Deep.LoopGhost
set_option linter.unusedVariables false
set_option linter.unusedSimpArgs false
namespace Go.Proofs.Ytgofkgmhpnkchaa
open Go.RowKit

theorem agg_Range : AggTy Try.prog 39 2 := ⟨⟨_, Try.underlying39⟩, by kernel_rfl⟩
/-- A range of a row. -/
def RangeOut (g : Nat → Int) (n : Nat) (W : World) (e : Ending) (W' : World) : Prop :=
  ∃ a b, e = .returned (.agg #[.int .i64 a, .int .i64 b]) ∧ RngL g n a b ∧ Below W.heap.size W W'

set_option maxHeartbeats 2000000 in
set_option maxRecDepth 100000 in
theorem ref08_Range_ok (ad : Addr) (n cap : Nat) (g : Nat → Int) (W : World) (n1 : 1 ≤ n) (n2 : n ≤ 1048576) (hrow : RowAt W ad n g) :
    Calls Try.prog 49 #[.slice (some ad) n cap] W (RangeOut g n W) := by
  have hadW : ad.block < W.heap.size := by
    have := World.block_lt_of_cell? W _ (hrow 0 (by omega))
    rwa [add_block] at this
  have q0 : ((n : Int) == 0) = false := by simp; omega
  go_enter Try.func49, Try.ntmps49
  go_wp2_with fail
  have nR := blk_new W (.cells #[.int .i64 0, .int .i64 0] 39)
  have hB := below_alloc1 W (.cells #[.int .i64 0, .int .i64 0] 39)
  obtain ⟨w1, hw1⟩ : ∃ w1, W.alloc (.cells #[.int .i64 0, .int .i64 0] 39) = w1 := ⟨_, rfl⟩
  have hs1 := alloc_size W (.cells #[.int .i64 0, .int .i64 0] 39)
  rw [hw1] at nR hB hs1 ⊢
  have hrow1 := hrow.below hB
  have c0 := hrow1 0 (by omega)
  rw [show ad.add 0 = ad from by cases ad; simp [Addr.add]] at c0
  have ca := fun o => cell_alloc (o := o) c0
  have cb := fun o => cell_drew (ca o)
  have cd := cell_drew c0
  have q1 : decide (0 < n) = true := decide_eq_true (by omega)
  have q2 : 0 < n := by omega
  clear hw1 hrow
  go_region
  clear ca cb cd c0
  have nM : ((w1.alloc (.cells #[.int .i64 (g 0), .int .i64 (g 0)] 39)).drew).heap[W.heap.size + 1]? = some (.cells #[.int .i64 (g 0), .int .i64 (g 0)] 39 (0, 0)) := blk_drew (blk_new_at hs1.symm)
  have hB2 : Below W.heap.size W ((w1.alloc (.cells #[.int .i64 (g 0), .int .i64 (g 0)] 39)).drew) := below_drew1 (below_alloc hB _)
  have hb2 : Below w1.heap.size w1 ((w1.alloc (.cells #[.int .i64 (g 0), .int .i64 (g 0)] 39)).drew) := below_drew1 (below_alloc1 _ _)
  obtain ⟨w2, hw2⟩ : ∃ w2, (w1.alloc (.cells #[.int .i64 (g 0), .int .i64 (g 0)] 39)).drew = w2 := ⟨_, rfl⟩
  rw [hw2] at nM hB2 hb2 ⊢
  have nR2 := below_blk hb2 nR
  have hrow2 := hrow1.below hb2
  obtain ⟨R, hR⟩ : ∃ R, W.heap.size = R := ⟨_, rfl⟩
  rw [hR] at nR2 hadW nM ⊢
  have hRb : W.heap.size ≤ R := by omega
  clear hw2 hb2 hB nR hs1 hrow1 q1 q2 hR
  go_wp2_with fail
  go_loopg [4] (n - 1) (fun q v4 wr => ∃ (j : Nat) (a b : Int), Hid (1 + j + q = n) ∧ v4 = .int .i64 (1 + (j : Int)) ∧ Hid (RngL g (1 + j) a b) ∧ wr.heap[R + 1]? = some (.cells #[.int .i64 a, .int .i64 b] 39 (0, 0)) ∧ Mod (fun k => k = R + 1) w2 wr)
  case atStart => exact ⟨0, g 0, g 0, show 1 + 0 + (n - 1) = n by omega, rfl, rngL_one g, nM, Mod.refl _ _⟩
  case round =>
    obtain ⟨j, a, b, hj, rfl, hr, hm, hM⟩ := hrel
    have nRr := hM.blk nR2 (by omega)
    cases gk with
    | zero =>
      have hd : decide (1 + j < n) = false := decide_eq_false (by have := hj.out; omega)
      have hd2 : decide ((1 + (j : Int)) < (n : Int)) = false := decide_eq_false (by have := hj.out; omega)
      have k_0 := cells_w hm 0 rfl
      have k_1 := cells_w hm 1 rfl
      have l_0 := cells_w nRr 0 rfl
      have l_1 := cells_w nRr 1 rfl
      have z_0 := blk_frozen nRr 0
      have z_1 := blk_frozen nRr 1
      go_wp2_with fail
      have hz := blk_set (blk_set nRr 0 (.int .i64 a)) 1 (.int .i64 b)
      refine bodyPost_ret (res_c rfl rfl hz agg_Range rfl) rfl ?_
      have ej : 1 + j = n := hj.out
      refine ⟨a, b, rfl, ej ▸ hr.out, ?_⟩
      exact ((hB2.trans (hM.below hB2.size (fun k hk => by omega))).setCell (by simp; omega) _).setCell (by simp; omega) _
    | succ m =>
      have hlt : 1 + j < n := by have := hj.out; omega
      have hd : decide (1 + j < n) = true := decide_eq_true hlt
      have hd2 : decide ((1 + (j : Int)) < (n : Int)) = true := decide_eq_true (by omega)
      have hji : (1 + (j : Int)) < (n : Int) := by omega
      have hc := (hrow2.mod hM (by omega)) (1 + j) hlt
      have qc := fun d os => cell_regrown hc d os
      have k_0 := cells_q hm 0 rfl
      have k_1 := cells_q hm 1 rfl
      by_cases hl : g (1 + j) < a
      · have he : imin a (g (1 + j)) = g (1 + j) := by unfold imin; rw [if_pos hl]
        have HE := Lib.hid he
        clear he
        have hL := decide_eq_true hl
        go_wp2_with fail
        refine wp_quiet (by kernel_rfl) (by kernel_rfl) ?_
        repeat (go_big_quiet_step ((first | fail)))
        refine wpQuiet_nil ?_
        intro w3 hb3
        clear qc k_0 k_1 hc
        have hm3 := below_blk hb3 hm
        have hM3 := hM.then_below hb3
        have hc := (hrow2.mod hM3 (by omega)) (1 + j) hlt
        have qc := hc
        have k_0 := cells_w hm3 0 rfl
        have k_1 := cells_w hm3 1 rfl
        have z_0 := blk_frozen hm3 0
        have z_1 := blk_frozen hm3 1
        go_wp2_with fail
        have hm2 := blk_set hm3 0 (.int .i64 (g (1 + j)))
        have hM2 := hM3.setCell (p := ⟨R + 1, 0, none⟩) (.inl rfl) (.int .i64 (g (1 + j)))
        clear hc z_0 z_1
        clear qc k_0 k_1
        have hc := (hrow2.mod hM2 (by omega)) (1 + j) hlt
        have qc := fun d os => cell_regrown hc d os
        have k_0 := cells_q hm2 0 rfl
        have k_1 := cells_q hm2 1 rfl
        by_cases hg : b < g (1 + j)
        · have e2 : imax b (g (1 + j)) = g (1 + j) := by unfold imax; rw [if_pos hg]
          have E2 := Lib.hid e2
          clear e2
          have hG := decide_eq_true hg
          go_wp2_with fail
          refine wp_quiet (by kernel_rfl) (by kernel_rfl) ?_
          repeat (go_big_quiet_step ((first | fail)))
          refine wpQuiet_nil ?_
          intro w4 hb4
          clear qc k_0 k_1 hc
          have hm4 := below_blk hb4 hm2
          have hM4 := hM2.then_below hb4
          have hc := (hrow2.mod hM4 (by omega)) (1 + j) hlt
          have k_0 := cells_w hm4 0 rfl
          have k_1 := cells_w hm4 1 rfl
          have z_0 := blk_frozen hm4 0
          have z_1 := blk_frozen hm4 1
          go_wp2_with fail
          go_roundg m
          case measure => omega
          case rel =>
            refine ⟨j + 1, imin a (g (1 + j)), imax b (g (1 + j)), by have := hj.out; exact (show 1 + (j + 1) + m = n by omega), congrArg (Value.int .i64) (by push_cast; omega), rngL_step hr.out, ?_, hM4.setCell (p := ⟨R + 1, 1, none⟩) (.inl rfl) _⟩
            rw [HE.out, E2.out]
            exact blk_set hm4 1 _
        · have e2 : imax b (g (1 + j)) = b := by unfold imax; rw [if_neg hg]
          have E2 := Lib.hid e2
          clear e2
          have hG := decide_eq_false hg
          go_wp2_with fail
          refine wp_quiet (by kernel_rfl) (by kernel_rfl) ?_
          repeat (go_big_quiet_step ((first | fail)))
          refine wpQuiet_nil ?_
          intro w4 hb4
          clear qc k_0 k_1 hc
          have hm4 := below_blk hb4 hm2
          have hM4 := hM2.then_below hb4
          go_wp2_with fail
          go_roundg m
          case measure => omega
          case rel =>
            refine ⟨j + 1, imin a (g (1 + j)), imax b (g (1 + j)), by have := hj.out; exact (show 1 + (j + 1) + m = n by omega), congrArg (Value.int .i64) (by push_cast; omega), rngL_step hr.out, ?_, hM4⟩
            rw [HE.out, E2.out]
            exact hm4
      · have he : imin a (g (1 + j)) = a := by unfold imin; rw [if_neg hl]
        have HE := Lib.hid he
        clear he
        have hL := decide_eq_false hl
        go_wp2_with fail
        refine wp_quiet (by kernel_rfl) (by kernel_rfl) ?_
        repeat (go_big_quiet_step ((first | fail)))
        refine wpQuiet_nil ?_
        intro w3 hb3
        clear hc
        have hm2 := below_blk hb3 hm
        have hM2 := hM.then_below hb3
        go_wp2_with fail
        clear qc k_0 k_1
        have hc := (hrow2.mod hM2 (by omega)) (1 + j) hlt
        have qc := fun d os => cell_regrown hc d os
        have k_0 := cells_q hm2 0 rfl
        have k_1 := cells_q hm2 1 rfl
        by_cases hg : b < g (1 + j)
        · have e2 : imax b (g (1 + j)) = g (1 + j) := by unfold imax; rw [if_pos hg]
          have E2 := Lib.hid e2
          clear e2
          have hG := decide_eq_true hg
          go_wp2_with fail
          refine wp_quiet (by kernel_rfl) (by kernel_rfl) ?_
          repeat (go_big_quiet_step ((first | fail)))
          refine wpQuiet_nil ?_
          intro w4 hb4
          clear qc k_0 k_1 hc
          have hm4 := below_blk hb4 hm2
          have hM4 := hM2.then_below hb4
          have hc := (hrow2.mod hM4 (by omega)) (1 + j) hlt
          have k_0 := cells_w hm4 0 rfl
          have k_1 := cells_w hm4 1 rfl
          have z_0 := blk_frozen hm4 0
          have z_1 := blk_frozen hm4 1
          go_wp2_with fail
          go_roundg m
          case measure => omega
          case rel =>
            refine ⟨j + 1, imin a (g (1 + j)), imax b (g (1 + j)), by have := hj.out; exact (show 1 + (j + 1) + m = n by omega), congrArg (Value.int .i64) (by push_cast; omega), rngL_step hr.out, ?_, hM4.setCell (p := ⟨R + 1, 1, none⟩) (.inl rfl) _⟩
            rw [HE.out, E2.out]
            exact blk_set hm4 1 _
        · have e2 : imax b (g (1 + j)) = b := by unfold imax; rw [if_neg hg]
          have E2 := Lib.hid e2
          clear e2
          have hG := decide_eq_false hg
          go_wp2_with fail
          refine wp_quiet (by kernel_rfl) (by kernel_rfl) ?_
          repeat (go_big_quiet_step ((first | fail)))
          refine wpQuiet_nil ?_
          intro w4 hb4
          clear qc k_0 k_1 hc
          have hm4 := below_blk hb4 hm2
          have hM4 := hM2.then_below hb4
          go_wp2_with fail
          go_roundg m
          case measure => omega
          case rel =>
            refine ⟨j + 1, imin a (g (1 + j)), imax b (g (1 + j)), by have := hj.out; exact (show 1 + (j + 1) + m = n by omega), congrArg (Value.int .i64) (by push_cast; omega), rngL_step hr.out, ?_, hM4⟩
            rw [HE.out, E2.out]
            exact hm4
end Go.Proofs.Ytgofkgmhpnkchaa

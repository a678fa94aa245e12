/- grid.Fill. -/
import Derived.Test.YtcomnpmkedabeaaDoorGridSet
import Derived.Test.YtcomnpmkedabeaaDoorNewCell
set_option linter.unusedVariables false
set_option linter.unusedSimpArgs false
namespace Go.Proofs.YtcomnpmkedabeaaDoor
open Go.RowKit

/-- What a filled grid is. -/
def GridFilled (g : Nat) (F : Nat → Prop) (w h : Int) (f : Int → Int → Int) (W : World) (e : Ending) (W' : World) : Prop :=
  ∃ F', e = .returned (.int .i64 0) ∧ Mod F W W' ∧ (∀ k, F' k → F k ∨ W.heap.size ≤ k) ∧ GridAt W' g F' w h f
/-- The first j pieces are filled; block B is none of the grid's. -/
def FillStep (B g : Nat) (F : Nat → Prop) (w h : Int) (f : Int → Int → Int) (W wr : World) : Prop :=
  ∃ F', Mod F W wr ∧ (∀ k, F' k → (F k ∨ W.heap.size ≤ k) ∧ k ≠ B) ∧ GridAt wr g F' w h f

theorem grid_inner_exact (x y : Int) (w : World) (hx : 0 ≤ x) (hy : 0 ≤ y) :
    Calls Tryd.prog 56 #[.int .i64 x, .int .i64 y] w fun e w' => e = .returned (.agg #[.int .i64 (x % 16), .int .i64 (y % 16)]) ∧ w' = w.alloc (.cells #[.int .i64 (x % 16), .int .i64 (y % 16)] 24) := by
  go_enter Tryd.func56, Tryd.ntmps56
  go_wp2
  refine bodyPost_ret (res_c rfl rfl (blk_new _ _) agg_Cell rfl) rfl ?_
  exact ⟨rfl, rfl⟩
theorem zero_Cell : (Tryd.prog.info? 24).map (·.zero) = some (some (.agg #[.int .i64 0, .int .i64 0])) := by kernel_rfl
/-- Two cells in new memory. -/
def TwoCells (wr : World) (X0 Y0 X1 Y1 : Int) (v10 v11 : Value) (wx : World) : Prop :=
  ∃ p q, v10 = .pointer (some ⟨p, 0, none⟩) ∧ v11 = .pointer (some ⟨q, 0, none⟩) ∧ wx.heap[p]? = some (.cells #[.int .i64 (X0 % 16), .int .i64 (Y0 % 16)] 24 (0, 0)) ∧
    wx.heap[q]? = some (.cells #[.int .i64 (X1 % 16), .int .i64 (Y1 % 16)] 24 (0, 0)) ∧ Below (wr.heap.size + 1) (wr.alloc (.cells #[.int .i64 X0, .int .i64 Y0, .int .i64 X1, .int .i64 Y1] 73)) wx

set_option maxHeartbeats 2000000 in
set_option maxRecDepth 100000 in
theorem grid_Fill_ok (g : Nat) (F : Nat → Prop) (w h x0 y0 x1 y1 v : Int) (f : Int → Int → Int) (W : World) (H : GridAt W g F w h f) (a0 : 0 ≤ x0) (a1 : x0 ≤ x1) (a2 : x1 < w) (a3 : 0 ≤ y0) (a4 : y0 ≤ y1) (a5 : y1 < h) (v1 : -2147483648 ≤ v) (v2 : v ≤ 2147483647) :
    Calls Tryd.prog 33 #[.pointer (some ⟨g, 0, none⟩), .agg #[.int .i64 x0, .int .i64 y0, .int .i64 x1, .int .i64 y1], .int .i64 v] W (GridFilled g F w h (fillF f x0 y0 x1 y1 v) W) := by
  obtain ⟨d1, d2, d3, d4⟩ := H.dims
  go_enter Tryd.func33, Tryd.ntmps33
  go_wp2_with fail
  have n1 := blk_new W (.cells #[.int .i64 x0, .int .i64 y0, .int .i64 x1, .int .i64 y1] 73)
  have H1 := H.below (below_alloc1 W (.cells #[.int .i64 x0, .int .i64 y0, .int .i64 x1, .int .i64 y1] 73))
  have hB := below_alloc1 W (.cells #[.int .i64 x0, .int .i64 y0, .int .i64 x1, .int .i64 y1] 73)
  refine (grid_check_any g F w h _ _ _ _ f _ H1).mono ?_
  rw [withinC_ok.2 ⟨a0, a1, a2, a3, a4, a5⟩]
  rintro e w2 ⟨rfl, hb⟩
  replace n1 := below_blk hb n1
  replace H1 := H1.below hb
  replace hB := below_next hB hb
  clear hb
  have j_0 := cells_w n1 0 rfl
  have j_1 := cells_w n1 1 rfl
  have j_2 := cells_w n1 2 rfl
  have j_3 := cells_w n1 3 rfl
  go_wp2_with fail
  have hsz := hB.size
  refine (pieces_ok x0 y0 x1 y1 w2 a0 a1 (by omega) a3 a4 (by omega)).mono ?_
  rintro e w3 ⟨pv, rfl, hb, hown⟩
  replace H1 := H1.below hb
  replace hB := below_next hB hb
  have hm1 : 1 ≤ nx x0 x1 ∧ nx x0 x1 ≤ 64 := by unfold nx; omega
  have hm2 : 1 ≤ nx y0 y1 ∧ nx y0 y1 ≤ 64 := by unfold nx; omega
  have hm3 := Nat.mul_le_mul hm1.2 hm2.2
  have hm4 := Nat.mul_le_mul hm1.1 hm2.1
  obtain ⟨m, hm⟩ : ∃ m, nx x0 x1 * nx y0 y1 = m := ⟨_, rfl⟩
  rw [hm] at hown hm3 hm4
  obtain ⟨B, cap, cs, rfl, hcap, hBB, hrow, hcs⟩ := PieceRow.of_own (by omega) hown
  have HM := Lib.hid hm
  have hw2 := Lib.hid (show W.heap.size ≤ w2.heap.size from hsz)
  clear hsz hown hb j_0 j_1 j_2 j_3 n1 hm hm1 hm2
  have hBW : ∀ k, F k → k ≠ B := fun k hk => by
    have := H.lt k hk
    have := hw2.out
    omega
  go_wp2_with fail
  go_loopg [22] m (fun q v22 wr => ∃ j : Nat, Hid (j + q = m) ∧ v22 = .int .i64 (j : Int) ∧ wr.heap[B]? = some (.cells cs 73 (0, 0)) ∧ FillStep B g F w h (stepF f ⟨x0, y0, x1, y1⟩ v j) W wr)
  case atStart => exact ⟨0, Nat.zero_add _, rfl, hrow, F, Mod.of_below hB, fun k hk => ⟨.inl hk, hBW k hk⟩, H1⟩
  case round =>
    clear H1 hB hrow
    obtain ⟨j, hj, rfl, hrow, F1, hM, hF1, HG⟩ := hrel
    cases gk with
    | zero =>
      have e : j = m := hj.out
      have ht : decide (j < m) = false := decide_eq_false (by omega)
      go_wp2_with fail
      go_ret
      subst e
      refine ⟨F1, rfl, hM, fun k hk => (hF1 k hk).1, ?_⟩
      have e2 := step_all (f := f) (r := ⟨x0, y0, x1, y1⟩) (v := v)
      dsimp only at e2
      rw [HM.out] at e2
      rw [e2] at HG
      exact HG
    | succ q =>
      have hlt : j < m := by have := hj.out; omega
      have ht : decide (j < m) = true := decide_eq_true hlt
      have hji : (j : Int) < (m : Int) := by omega
      obtain ⟨i, t1, t2, t3, t4, t5, t6, t7, t8, t9, t10, t11, t12, t13, t14, t15, t16⟩ := piece_tile (w := w) (h := h) (r := ⟨x0, y0, x1, y1⟩) (q := j) d1 d3 a0 a1 a2 a3 a4 a5 (by dsimp only; rw [HM.out]; exact hlt)
      have c0 := (blk_cell hrow (j * 4 + 0)).trans (hcs j 0 hlt (by omega))
      have c1 := (blk_cell hrow (j * 4 + 1)).trans (hcs j 1 hlt (by omega))
      have c2 := (blk_cell hrow (j * 4 + 2)).trans (hcs j 2 hlt (by omega))
      have c3 := (blk_cell hrow (j * 4 + 3)).trans (hcs j 3 hlt (by omega))
      obtain ⟨P, hP⟩ : ∃ P, piece ⟨x0, y0, x1, y1⟩ j = P := ⟨_, rfl⟩
      have hS : stepF f ⟨x0, y0, x1, y1⟩ v (j + 1) = fillF (stepF f ⟨x0, y0, x1, y1⟩ v j) (piece ⟨x0, y0, x1, y1⟩ j).x0 (piece ⟨x0, y0, x1, y1⟩ j).y0 (piece ⟨x0, y0, x1, y1⟩ j).x1 (piece ⟨x0, y0, x1, y1⟩ j).y1 v := rfl
      rw [hP] at hS
      rw [hP] at t2 t3 t4 t5 t6 t7 t8 t9 t10 t11 t12 t13 t14 t15 t16 c0 c1 c2 c3
      obtain ⟨X0, Y0, X1, Y1⟩ := P
      simp only [R4.cells, List.getElem?_cons_zero, List.getElem?_cons_succ] at c0 c1 c2 c3
      dsimp only at t2 t3 t4 t5 t6 t7 t8 t9 t10 t11 t12 t13 t14 t15 t16 hS
      have HS := Lib.hid hS
      have HP := Lib.hid hP
      clear hS hP
      rw [Nat.add_zero] at c0
      go_wp2_with fail
      have n9 := blk_new wr (.cells #[.int .i64 X0, .int .i64 Y0, .int .i64 X1, .int .i64 Y1] 73)
      have k_0 := cells_q n9 0 rfl
      have k_1 := cells_q n9 1 rfl
      have k_2 := cells_q n9 2 rfl
      have k_3 := cells_q n9 3 rfl
      clear k_0 k_1 k_2 k_3
      go_cut [10, 11] from 26 to 56 (fun v10 v11 wx => TwoCells wr X0 Y0 X1 Y1 v10 v11 wx)
      case first =>
        have q0 : (wr.alloc (.cells #[.int .i64 X0, .int .i64 Y0, .int .i64 X1, .int .i64 Y1] 73)).cell? ⟨wr.heap.size, 0, none⟩ = some (.int .i64 X0) := cells_w n9 0 rfl
        have q1 : (wr.alloc (.cells #[.int .i64 X0, .int .i64 Y0, .int .i64 X1, .int .i64 Y1] 73)).cell? ⟨wr.heap.size, 1, none⟩ = some (.int .i64 Y0) := cells_w n9 1 rfl
        have q2 : (wr.alloc (.cells #[.int .i64 X0, .int .i64 Y0, .int .i64 X1, .int .i64 Y1] 73)).cell? ⟨wr.heap.size, 2, none⟩ = some (.int .i64 X1) := cells_w n9 2 rfl
        have q3 : (wr.alloc (.cells #[.int .i64 X0, .int .i64 Y0, .int .i64 X1, .int .i64 Y1] 73)).cell? ⟨wr.heap.size, 3, none⟩ = some (.int .i64 Y1) := cells_w n9 3 rfl
        have hq0 := Lib.hid q0
        have hq1 := Lib.hid q1
        have hq2 := Lib.hid q2
        have hq3 := Lib.hid q3
        clear H HG hM hF1 hrow hcs hBW hBB hcap HM hw2 t2 t3 t4 t5 t6 c0 c1 c2 c3 hj ht hji HS HP t1 t12 t13 t14 t15 t16 hm3 hm4 n9 q0 q1 q2 q3
        go_region_held3 (fun w' => w'.cell? ⟨wr.heap.size, 0, none⟩ = some (.int .i64 X0) ∧ w'.cell? ⟨wr.heap.size, 1, none⟩ = some (.int .i64 Y0) ∧ w'.cell? ⟨wr.heap.size, 2, none⟩ = some (.int .i64 X1) ∧ w'.cell? ⟨wr.heap.size, 3, none⟩ = some (.int .i64 Y1))
          (first | (go_keep; done) | refine ⟨?_, ?_, ?_, ?_⟩ <;> (refine cell_drew ?_; repeat (first | exact hq0.out | exact hq1.out | exact hq2.out | exact hq3.out | refine cell_alloc ?_)))
          ((go_at_call 56; refine (grid_inner_exact _ _ _ ?hx ?hy).mono ?_; (case hx => omega); (case hy => omega); rintro e w5 ⟨rfl, rfl⟩))
        all_goals go_wp2_with fail
        all_goals go_meet
        all_goals (refine ⟨_, _, rfl, rfl, ?_, ?_, ?_⟩)
        all_goals first | (refine blk_drew ?_; repeat (first | (refine blk_new_at ?_; simp; done) | refine below_blk (below_alloc1 _ _) ?_)) | (refine below_drew1 ?_; repeat (first | exact Below.refl _ _ | (refine Below.alloc ?_ (show _ ≤ _ from ?_) _; rotate_left; solve | (simp; done) | (simp; omega))))
      case rest =>
        obtain ⟨p, q2, rfl, rfl, hp, hq, hbc⟩ := hcut
        have hbc1 : Below (wr.alloc (.cells #[.int .i64 X0, .int .i64 Y0, .int .i64 X1, .int .i64 Y1] 73)).heap.size (wr.alloc (.cells #[.int .i64 X0, .int .i64 Y0, .int .i64 X1, .int .i64 Y1] 73)) wc := by rw [alloc_size]; exact hbc
        have n9c := below_blk hbc1 n9
        have hbc2 := below_next (below_alloc1 wr _) hbc1
        have HGc := HG.below hbc2
        have hrowc := below_blk hbc2 hrow
        have hMc := hM.then_below hbc2
        clear hbc hbc1 hbc2 n9 hrow hM HG c0 c1 c2 c3
        obtain ⟨a, n, cap2, ps, s, Fs, HR⟩ := HGc
        rw [← HR.n_eq] at t1
        have HT := Lib.hid t2
        have HX := Lib.hid (And.intro t3 (And.intro t4 (And.intro t5 t6)))
        clear t2 t3 t4 t5 t6
        have k_0 := cells_q n9c 0 rfl
        have k_1 := cells_q n9c 1 rfl
        have k_2 := cells_q n9c 2 rfl
        have k_3 := cells_q n9c 3 rfl
        have kp_0 := cells_q hp 0 rfl
        have kp_1 := cells_q hp 1 rfl
        have kq_0 := cells_q hq 0 rfl
        have kq_1 := cells_q hq 1 rfl
        go_wp2_with fail
        refine wp_tail 16 (by kernel_rfl) (by kernel_rfl) ?_
        simp only [List.take_succ_cons, List.take_zero, List.drop_succ_cons, List.drop_zero]
        repeat (go_big_quiet_step ((first | (go_at_call 57; exact Calls.quiet (grid_slab_ok g F1 w h X0 Y0 _ _ a n cap2 ps s Fs (HR.below (below_regrown wc _ _)) i HT.out t1 t7 (by omega) t10 (by omega))))))
        refine wpQuiet_nil ?_
        intro w4 hb4
        clear k_0 k_1 k_2 k_3 kp_0 kp_1 kq_0 kq_1
        go_wp2_with fail
        refine (slab_Fill_ok (s i) (Fs i) _ _ (X0 % 16) (Y0 % 16) (X1 % 16) (Y1 % 16) v _ w4 ((HR.slab i t1).below hb4) (by omega) t15 t13 (by omega) t16 t14 v1 v2).mono ?_
        rintro e w5 ⟨F2, rfl, hm5, hsub, HS5⟩
        go_wp2_with fail
        go_roundg q
        case measure => omega
        case rel =>
          have hrow4 := below_blk hb4 hrowc
          have hM4 := hMc.then_below hb4
          have hsF : ∀ k, Fs i k → (F k ∨ W.heap.size ≤ k) ∧ k ≠ B := fun k hk => hF1 k (HR.sub i k t1 hk).1
          have hBlt := blk_lt hrow4
          have hWs := hM4.size
          refine ⟨j + 1, by have := hj.out; exact (show j + 1 + q = m by omega), congrArg (Value.int .i64) (by push_cast; omega), hm5.blk hrow4 (fun hk => (hsF B hk).2 rfl), fun k => F1 k ∨ F2 k, hM4.trans hm5 (fun k hk => (hsF k hk).1), ?_, ?_⟩
          · rintro k (hk | hk)
            · exact hF1 k hk
            · rcases hsub k hk with h1 | h1
              · exact hsF k h1
              · exact ⟨.inr (by omega), by omega⟩
          · rw [HS.out]
            exact ⟨a, n, cap2, ps, s, _, (HR.below hb4).fill t1 HX.out.1 HX.out.2.1 HX.out.2.2.1 HX.out.2.2.2 hm5 hsub HS5⟩
end Go.Proofs.YtcomnpmkedabeaaDoor

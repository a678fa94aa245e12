/- Texts of this claim, joined: AuditSame, GridFill, GridOne, Lay, LayWalk. -/
import Derived.Test.YtfnflgcalhiamaaPackSz1
import Derived.Test.YtfnflgcalhiamaaPackSz6
import Derived.Test.YtfnflgcalhiamaaPackSz7
import Derived.Test.YtfnflgcalhiamaaPackSz11
import Derived.Test.YtfnflgcalhiamaaPackSz12
/- hachureref38.Same; audit.Check and Heal where it is refused. -/
set_option linter.unusedVariables false
set_option linter.unusedSimpArgs false
namespace Go.Proofs.Ytfnflgcalhiamaa
open Go.RowKit

set_option maxRecDepth 100000 in
theorem audit_Check_bad (gv pv bv : Value) (code : Int) (hc : code ≠ 0) (W : World) (hck : Calls Try.prog 28 #[gv, pv, bv] W fun e W' => e = .returned (.int .i64 code) ∧ Below W.heap.size W W') :
    Calls Try.prog 11 #[gv, pv, bv] W fun e W' => e = .returned (.tuple #[.slice none 0 0, .int .i64 code]) ∧ Below W.heap.size W W' := by
  have ht : (code != 0) = true := by simp [hc]
  go_enter Try.func11, Try.ntmps11
  go_wp2_with fail
  refine hck.mono ?_
  rintro e w2 ⟨rfl, hb⟩
  go_wp2_with fail
  go_ret2
  exact ⟨rfl, hb⟩
set_option maxRecDepth 100000 in
theorem audit_Heal_bad (gv pv bv : Value) (code : Int) (hc : code ≠ 0) (W : World) (hck : Calls Try.prog 28 #[gv, pv, bv] W fun e W' => e = .returned (.int .i64 code) ∧ Below W.heap.size W W') :
    Calls Try.prog 13 #[gv, pv, bv] W fun e W' => e = .returned (.tuple #[.int .i64 0, .int .i64 code]) ∧ Below W.heap.size W W' := by
  have ht : (code != 0) = true := by simp [hc]
  have HCK := Lib.hid (audit_Check_bad gv pv bv code hc W hck)
  clear hck
  go_enter Try.func13, Try.ntmps13
  go_wp2_with fail
  refine HCK.out.mono ?_
  rintro e w2 ⟨rfl, hb⟩
  go_wp2_with fail
  go_ret2
  exact ⟨rfl, hb⟩
set_option maxRecDepth 100000 in
theorem same38_zero (o1 o2 : Option Addr) (c1 c2 : Nat) (W : World) :
    Calls Try.prog 12 #[.slice o1 0 c1, .slice o2 0 c2] W fun e W' => e = .returned (.bool true) ∧ Below W.heap.size W W' := by
  go_enter Try.func12, Try.ntmps12
  go_wp2_with fail
  go_loopg [5] 0 (fun q v5 wr => v5 = .int .i64 0 ∧ Below W.heap.size W wr)
  case atStart => exact ⟨rfl, Below.refl _ _⟩
  case round =>
    obtain ⟨rfl, hb⟩ := hrel
    go_wp2_with fail
    go_ret
    exact ⟨rfl, hb⟩
set_option maxHeartbeats 1000000 in
set_option maxRecDepth 100000 in
theorem same38_ok (n a b c1 c2 : Nat) (K X Y : Nat → Int) (W : World) (hn : n ≤ 4294967296)
    (h1 : ∀ i, i < n → W.cell? ⟨a, i * 3, none⟩ = some (.int .i64 (K i)) ∧ W.cell? ⟨a, i * 3 + 1, none⟩ = some (.int .i64 (X i)) ∧ W.cell? ⟨a, i * 3 + 2, none⟩ = some (.int .i64 (Y i)))
    (h2 : ∀ i, i < n → W.cell? ⟨b, i * 3, none⟩ = some (.int .i64 (K i)) ∧ W.cell? ⟨b, i * 3 + 1, none⟩ = some (.int .i64 (X i)) ∧ W.cell? ⟨b, i * 3 + 2, none⟩ = some (.int .i64 (Y i))) :
    Calls Try.prog 12 #[.slice (some ⟨a, 0, none⟩) n c1, .slice (some ⟨b, 0, none⟩) n c2] W fun e W' => e = .returned (.bool true) ∧ Below W.heap.size W W' := by
  have H1 := Lib.hid h1
  have H2 := Lib.hid h2
  clear h1 h2
  go_enter Try.func12, Try.ntmps12
  go_wp2_with fail
  go_loopg [5] n (fun q v5 wr => ∃ j : Nat, Hid (j + q = n) ∧ v5 = .int .i64 (j : Int) ∧ Below W.heap.size W wr)
  case atStart => exact ⟨0, Nat.zero_add _, rfl, Below.refl _ _⟩
  case round =>
    obtain ⟨j, hj, rfl, hbr⟩ := hrel
    cases gk with
    | zero =>
      have ej : j = n := hj.out
      have ht : decide (j < n) = false := decide_eq_false (by omega)
      have ht2 : decide ((j : Int) < (n : Int)) = false := decide_eq_false (by omega)
      subst ej
      go_wp2_with fail
      go_ret
      exact ⟨rfl, hbr⟩
    | succ m =>
      have hjn : j < n := by have := hj.out; omega
      have ht : decide (j < n) = true := decide_eq_true hjn
      have ht2 : decide ((j : Int) < (n : Int)) = true := decide_eq_true (by omega)
      have hjI : (j : Int) < (n : Int) := by omega
      obtain ⟨a0, a1, a2⟩ := H1.out j hjn
      obtain ⟨b0, b1, b2⟩ := H2.out j hjn
      have qa0 := fun d os => cell_regrown (below_cell hbr a0) d os
      have qa1 := fun d os => cell_regrown (below_cell hbr a1) d os
      have qa2 := fun d os => cell_regrown (below_cell hbr a2) d os
      have qb0 := fun d os => cell_regrown (below_cell hbr b0) d os
      have qb1 := fun d os => cell_regrown (below_cell hbr b1) d os
      have qb2 := fun d os => cell_regrown (below_cell hbr b2) d os
      go_wp2_with fail
      refine wp_quiet (by kernel_rfl) (by kernel_rfl) ?_
      repeat (go_big_quiet_step ((first | fail)))
      refine wpQuiet_nil ?_
      intro w2 hb2
      clear qa0 qa1 qa2 qb0 qb1 qb2 a0 a1 a2 b0 b1 b2
      have hb3 := below_next hbr hb2
      go_wp2_with fail
      go_roundg m
      case measure => omega
      case rel => exact ⟨j + 1, by have := hj.out; exact (show j + 1 + m = n by omega), congrArg (Value.int .i64) (by push_cast; omega), hb3⟩
end Go.Proofs.Ytfnflgcalhiamaa
/- grid.Fill. -/
set_option linter.unusedVariables false
set_option linter.unusedSimpArgs false
namespace Go.Proofs.Ytfnflgcalhiamaa
open Go.RowKit

/-- What a filled grid is. -/
def GridFilled (g : Nat) (F : Nat → Prop) (w h : Int) (f : Int → Int → Int) (W : World) (e : Ending) (W' : World) : Prop :=
  ∃ F', e = .returned (.int .i64 0) ∧ Mod F W W' ∧ (∀ k, F' k → F k ∨ W.heap.size ≤ k) ∧ GridAt W' g F' w h f
/-- The first j pieces are filled; block B is none of the grid's. -/
def FillStep (B g : Nat) (F : Nat → Prop) (w h : Int) (f : Int → Int → Int) (W wr : World) : Prop :=
  ∃ F', Mod F W wr ∧ (∀ k, F' k → (F k ∨ W.heap.size ≤ k) ∧ k ≠ B) ∧ GridAt wr g F' w h f

theorem grid_inner_exact (x y : Int) (w : World) (hx : 0 ≤ x) (hy : 0 ≤ y) :
    Calls Try.prog 53 #[.int .i64 x, .int .i64 y] w fun e w' => e = .returned (.agg #[.int .i64 (x % 16), .int .i64 (y % 16)]) ∧ w' = w.alloc (.cells #[.int .i64 (x % 16), .int .i64 (y % 16)] 53) := by
  go_enter Try.func53, Try.ntmps53
  go_wp2
  refine bodyPost_ret (res_c rfl rfl (blk_new _ _) agg_Cell rfl) rfl ?_
  exact ⟨rfl, rfl⟩
theorem zero_Cell : (Try.prog.info? 53).map (·.zero) = some (some (.agg #[.int .i64 0, .int .i64 0])) := by kernel_rfl
/-- Two cells in new memory. -/
def TwoCells (wr : World) (X0 Y0 X1 Y1 : Int) (v10 v11 : Value) (wx : World) : Prop :=
  ∃ p q, v10 = .pointer (some ⟨p, 0, none⟩) ∧ v11 = .pointer (some ⟨q, 0, none⟩) ∧ wx.heap[p]? = some (.cells #[.int .i64 (X0 % 16), .int .i64 (Y0 % 16)] 53 (0, 0)) ∧
    wx.heap[q]? = some (.cells #[.int .i64 (X1 % 16), .int .i64 (Y1 % 16)] 53 (0, 0)) ∧ Below (wr.heap.size + 1) (wr.alloc (.cells #[.int .i64 X0, .int .i64 Y0, .int .i64 X1, .int .i64 Y1] 71)) wx

set_option maxHeartbeats 2000000 in
set_option maxRecDepth 100000 in
theorem grid_Fill_ok (g : Nat) (F : Nat → Prop) (w h x0 y0 x1 y1 v : Int) (f : Int → Int → Int) (W : World) (H : GridAt W g F w h f) (a0 : 0 ≤ x0) (a1 : x0 ≤ x1) (a2 : x1 < w) (a3 : 0 ≤ y0) (a4 : y0 ≤ y1) (a5 : y1 < h) (v1 : -2147483648 ≤ v) (v2 : v ≤ 2147483647) :
    Calls Try.prog 41 #[.pointer (some ⟨g, 0, none⟩), .agg #[.int .i64 x0, .int .i64 y0, .int .i64 x1, .int .i64 y1], .int .i64 v] W (GridFilled g F w h (fillF f x0 y0 x1 y1 v) W) := by
  obtain ⟨d1, d2, d3, d4⟩ := H.dims
  go_enter Try.func41, Try.ntmps41
  go_wp2_with fail
  have n1 := blk_new W (.cells #[.int .i64 x0, .int .i64 y0, .int .i64 x1, .int .i64 y1] 71)
  have H1 := H.below (below_alloc1 W (.cells #[.int .i64 x0, .int .i64 y0, .int .i64 x1, .int .i64 y1] 71))
  have hB := below_alloc1 W (.cells #[.int .i64 x0, .int .i64 y0, .int .i64 x1, .int .i64 y1] 71)
  refine (grid_check_any g F w h _ _ _ _ f _ H1).mono ?_
  rw [withinC_ok.2 ⟨a0, a1, a2, a3, a4, a5⟩]
  rintro e w2 ⟨rfl, hb⟩
  replace n1 := below_blk hb n1
  replace H1 := H1.below hb
  replace hB := below_next hB hb
  clear hb
  have j_0 := cells_w n1 0 rfl
  have j_1 := cells_w n1 1 rfl
  have j_2 := cells_w n1 2 rfl
  have j_3 := cells_w n1 3 rfl
  go_wp2_with fail
  have hsz := hB.size
  refine (pieces_ok x0 y0 x1 y1 w2 a0 a1 (by omega) a3 a4 (by omega)).mono ?_
  rintro e w3 ⟨pv, rfl, hb, hown⟩
  replace H1 := H1.below hb
  replace hB := below_next hB hb
  have hm1 : 1 ≤ nx x0 x1 ∧ nx x0 x1 ≤ 64 := by unfold nx; omega
  have hm2 : 1 ≤ nx y0 y1 ∧ nx y0 y1 ≤ 64 := by unfold nx; omega
  have hm3 := Nat.mul_le_mul hm1.2 hm2.2
  have hm4 := Nat.mul_le_mul hm1.1 hm2.1
  obtain ⟨m, hm⟩ : ∃ m, nx x0 x1 * nx y0 y1 = m := ⟨_, rfl⟩
  rw [hm] at hown hm3 hm4
  obtain ⟨B, cap, cs, rfl, hcap, hBB, hrow, hcs⟩ := PieceRow.of_own (by omega) hown
  have HM := Lib.hid hm
  have hw2 := Lib.hid (show W.heap.size ≤ w2.heap.size from hsz)
  clear hsz hown hb j_0 j_1 j_2 j_3 n1 hm hm1 hm2
  have hBW : ∀ k, F k → k ≠ B := fun k hk => by
    have := H.lt k hk
    have := hw2.out
    omega
  go_wp2_with fail
  go_loopg [22] m (fun q v22 wr => ∃ j : Nat, Hid (j + q = m) ∧ v22 = .int .i64 (j : Int) ∧ wr.heap[B]? = some (.cells cs 71 (0, 0)) ∧ FillStep B g F w h (stepF f ⟨x0, y0, x1, y1⟩ v j) W wr)
  case atStart => exact ⟨0, Nat.zero_add _, rfl, hrow, F, Mod.of_below hB, fun k hk => ⟨.inl hk, hBW k hk⟩, H1⟩
  case round =>
    clear H1 hB hrow
    obtain ⟨j, hj, rfl, hrow, F1, hM, hF1, HG⟩ := hrel
    cases gk with
    | zero =>
      have e : j = m := hj.out
      have ht : decide (j < m) = false := decide_eq_false (by omega)
      go_wp2_with fail
      go_ret
      subst e
      refine ⟨F1, rfl, hM, fun k hk => (hF1 k hk).1, ?_⟩
      have e2 := step_all (f := f) (r := ⟨x0, y0, x1, y1⟩) (v := v)
      dsimp only at e2
      rw [HM.out] at e2
      rw [e2] at HG
      exact HG
    | succ q =>
      have hlt : j < m := by have := hj.out; omega
      have ht : decide (j < m) = true := decide_eq_true hlt
      have hji : (j : Int) < (m : Int) := by omega
      obtain ⟨i, t1, t2, t3, t4, t5, t6, t7, t8, t9, t10, t11, t12, t13, t14, t15, t16⟩ := piece_tile (w := w) (h := h) (r := ⟨x0, y0, x1, y1⟩) (q := j) d1 d3 a0 a1 a2 a3 a4 a5 (by dsimp only; rw [HM.out]; exact hlt)
      have c0 := (blk_cell hrow (j * 4 + 0)).trans (hcs j 0 hlt (by omega))
      have c1 := (blk_cell hrow (j * 4 + 1)).trans (hcs j 1 hlt (by omega))
      have c2 := (blk_cell hrow (j * 4 + 2)).trans (hcs j 2 hlt (by omega))
      have c3 := (blk_cell hrow (j * 4 + 3)).trans (hcs j 3 hlt (by omega))
      obtain ⟨P, hP⟩ : ∃ P, piece ⟨x0, y0, x1, y1⟩ j = P := ⟨_, rfl⟩
      have hS : stepF f ⟨x0, y0, x1, y1⟩ v (j + 1) = fillF (stepF f ⟨x0, y0, x1, y1⟩ v j) (piece ⟨x0, y0, x1, y1⟩ j).x0 (piece ⟨x0, y0, x1, y1⟩ j).y0 (piece ⟨x0, y0, x1, y1⟩ j).x1 (piece ⟨x0, y0, x1, y1⟩ j).y1 v := rfl
      rw [hP] at hS
      rw [hP] at t2 t3 t4 t5 t6 t7 t8 t9 t10 t11 t12 t13 t14 t15 t16 c0 c1 c2 c3
      obtain ⟨X0, Y0, X1, Y1⟩ := P
      simp only [R4.cells, List.getElem?_cons_zero, List.getElem?_cons_succ] at c0 c1 c2 c3
      dsimp only at t2 t3 t4 t5 t6 t7 t8 t9 t10 t11 t12 t13 t14 t15 t16 hS
      have HS := Lib.hid hS
      have HP := Lib.hid hP
      clear hS hP
      rw [Nat.add_zero] at c0
      go_wp2_with fail
      have n9 := blk_new wr (.cells #[.int .i64 X0, .int .i64 Y0, .int .i64 X1, .int .i64 Y1] 71)
      have k_0 := cells_q n9 0 rfl
      have k_1 := cells_q n9 1 rfl
      have k_2 := cells_q n9 2 rfl
      have k_3 := cells_q n9 3 rfl
      clear k_0 k_1 k_2 k_3
      go_cut [10, 11] from 26 to 56 (fun v10 v11 wx => TwoCells wr X0 Y0 X1 Y1 v10 v11 wx)
      case first =>
        have q0 : (wr.alloc (.cells #[.int .i64 X0, .int .i64 Y0, .int .i64 X1, .int .i64 Y1] 71)).cell? ⟨wr.heap.size, 0, none⟩ = some (.int .i64 X0) := cells_w n9 0 rfl
        have q1 : (wr.alloc (.cells #[.int .i64 X0, .int .i64 Y0, .int .i64 X1, .int .i64 Y1] 71)).cell? ⟨wr.heap.size, 1, none⟩ = some (.int .i64 Y0) := cells_w n9 1 rfl
        have q2 : (wr.alloc (.cells #[.int .i64 X0, .int .i64 Y0, .int .i64 X1, .int .i64 Y1] 71)).cell? ⟨wr.heap.size, 2, none⟩ = some (.int .i64 X1) := cells_w n9 2 rfl
        have q3 : (wr.alloc (.cells #[.int .i64 X0, .int .i64 Y0, .int .i64 X1, .int .i64 Y1] 71)).cell? ⟨wr.heap.size, 3, none⟩ = some (.int .i64 Y1) := cells_w n9 3 rfl
        have hq0 := Lib.hid q0
        have hq1 := Lib.hid q1
        have hq2 := Lib.hid q2
        have hq3 := Lib.hid q3
        clear H HG hM hF1 hrow hcs hBW hBB hcap HM hw2 t2 t3 t4 t5 t6 c0 c1 c2 c3 hj ht hji HS HP t1 t12 t13 t14 t15 t16 hm3 hm4 n9 q0 q1 q2 q3
        go_region_held3 (fun w' => w'.cell? ⟨wr.heap.size, 0, none⟩ = some (.int .i64 X0) ∧ w'.cell? ⟨wr.heap.size, 1, none⟩ = some (.int .i64 Y0) ∧ w'.cell? ⟨wr.heap.size, 2, none⟩ = some (.int .i64 X1) ∧ w'.cell? ⟨wr.heap.size, 3, none⟩ = some (.int .i64 Y1))
          (first | (go_keep; done) | refine ⟨?_, ?_, ?_, ?_⟩ <;> (refine cell_drew ?_; repeat (first | exact hq0.out | exact hq1.out | exact hq2.out | exact hq3.out | refine cell_alloc ?_)))
          ((go_at_call 53; refine (grid_inner_exact _ _ _ ?hx ?hy).mono ?_; (case hx => omega); (case hy => omega); rintro e w5 ⟨rfl, rfl⟩))
        all_goals go_wp2_with fail
        all_goals go_meet
        all_goals (refine ⟨_, _, rfl, rfl, ?_, ?_, ?_⟩)
        all_goals first | (refine blk_drew ?_; repeat (first | (refine blk_new_at ?_; simp; done) | refine below_blk (below_alloc1 _ _) ?_)) | (refine below_drew1 ?_; repeat (first | exact Below.refl _ _ | (refine Below.alloc ?_ (show _ ≤ _ from ?_) _; rotate_left; solve | (simp; done) | (simp; omega))))
      case rest =>
        obtain ⟨p, q2, rfl, rfl, hp, hq, hbc⟩ := hcut
        have hbc1 : Below (wr.alloc (.cells #[.int .i64 X0, .int .i64 Y0, .int .i64 X1, .int .i64 Y1] 71)).heap.size (wr.alloc (.cells #[.int .i64 X0, .int .i64 Y0, .int .i64 X1, .int .i64 Y1] 71)) wc := by rw [alloc_size]; exact hbc
        have n9c := below_blk hbc1 n9
        have hbc2 := below_next (below_alloc1 wr _) hbc1
        have HGc := HG.below hbc2
        have hrowc := below_blk hbc2 hrow
        have hMc := hM.then_below hbc2
        clear hbc hbc1 hbc2 n9 hrow hM HG c0 c1 c2 c3
        obtain ⟨a, n, cap2, ps, s, Fs, HR⟩ := HGc
        rw [← HR.n_eq] at t1
        have HT := Lib.hid t2
        have HX := Lib.hid (And.intro t3 (And.intro t4 (And.intro t5 t6)))
        clear t2 t3 t4 t5 t6
        have k_0 := cells_q n9c 0 rfl
        have k_1 := cells_q n9c 1 rfl
        have k_2 := cells_q n9c 2 rfl
        have k_3 := cells_q n9c 3 rfl
        have kp_0 := cells_q hp 0 rfl
        have kp_1 := cells_q hp 1 rfl
        have kq_0 := cells_q hq 0 rfl
        have kq_1 := cells_q hq 1 rfl
        go_wp2_with fail
        refine wp_tail 16 (by kernel_rfl) (by kernel_rfl) ?_
        simp only [List.take_succ_cons, List.take_zero, List.drop_succ_cons, List.drop_zero]
        repeat (go_big_quiet_step ((first | (go_at_call 51; exact Calls.quiet (grid_slab_ok g F1 w h X0 Y0 _ _ a n cap2 ps s Fs (HR.below (below_regrown wc _ _)) i HT.out t1 t7 (by omega) t10 (by omega))))))
        refine wpQuiet_nil ?_
        intro w4 hb4
        clear k_0 k_1 k_2 k_3 kp_0 kp_1 kq_0 kq_1
        go_wp2_with fail
        refine (slab_Fill_ok (s i) (Fs i) _ _ (X0 % 16) (Y0 % 16) (X1 % 16) (Y1 % 16) v _ w4 ((HR.slab i t1).below hb4) (by omega) t15 t13 (by omega) t16 t14 v1 v2).mono ?_
        rintro e w5 ⟨F2, rfl, hm5, hsub, HS5⟩
        go_wp2_with fail
        go_roundg q
        case measure => omega
        case rel =>
          have hrow4 := below_blk hb4 hrowc
          have hM4 := hMc.then_below hb4
          have hsF : ∀ k, Fs i k → (F k ∨ W.heap.size ≤ k) ∧ k ≠ B := fun k hk => hF1 k (HR.sub i k t1 hk).1
          have hBlt := blk_lt hrow4
          have hWs := hM4.size
          refine ⟨j + 1, by have := hj.out; exact (show j + 1 + q = m by omega), congrArg (Value.int .i64) (by push_cast; omega), hm5.blk hrow4 (fun hk => (hsF B hk).2 rfl), fun k => F1 k ∨ F2 k, hM4.trans hm5 (fun k hk => (hsF k hk).1), ?_, ?_⟩
          · rintro k (hk | hk)
            · exact hF1 k hk
            · rcases hsub k hk with h1 | h1
              · exact hsF k h1
              · exact ⟨.inr (by omega), by omega⟩
          · rw [HS.out]
            exact ⟨a, n, cap2, ps, s, _, (HR.below hb4).fill t1 HX.out.1 HX.out.2.1 HX.out.2.2.1 HX.out.2.2.2 hm5 hsub HS5⟩
end Go.Proofs.Ytfnflgcalhiamaa
/- grid.Set. -/
set_option linter.unusedVariables false
set_option linter.unusedSimpArgs false
namespace Go.Proofs.Ytfnflgcalhiamaa
open Go.RowKit

theorem GridFilled.after {g : Nat} {F : Nat → Prop} {w h : Int} {f : Int → Int → Int} {W W1 : World} {e : Ending} {W' : World} (hb : Below W.heap.size W W1) (hF : ∀ k, F k → k < W.heap.size) (hf : GridFilled g F w h f W1 e W') : GridFilled g F w h f W e W' := by
  obtain ⟨F', h1, h2, h3, h4⟩ := hf
  refine ⟨F', h1, (Mod.of_below (S := F) hb).trans h2 (fun _ x => .inl x), fun k hk => (h3 k hk).imp id (fun h => by have := hb.size; omega), h4⟩
theorem grid_Set_ok (g : Nat) (F : Nat → Prop) (w h x y v : Int) (f : Int → Int → Int) (W : World) (H : GridAt W g F w h f) (a0 : 0 ≤ x) (a1 : x < w) (a2 : 0 ≤ y) (a3 : y < h) (v1 : -2147483648 ≤ v) (v2 : v ≤ 2147483647) :
    Calls Try.prog 17 #[.pointer (some ⟨g, 0, none⟩), .agg #[.int .i64 x, .int .i64 y], .int .i64 v] W (GridFilled g F w h (fillF f x y x y v) W) := by
  go_enter Try.func17, Try.ntmps17
  go_wp2_with fail
  have H1 := H.below (below_alloc1 W (.cells #[.int .i64 x, .int .i64 y] 53))
  have hB := below_alloc1 W (.cells #[.int .i64 x, .int .i64 y] 53)
  refine (grid_spot_any _ _ _).mono ?_
  rintro e w1 ⟨rfl, hb⟩
  replace H1 := H1.below hb
  replace hB := below_next hB hb
  clear hb
  go_wp2_with fail
  refine (grid_Fill_ok g F w h x y x y v f w1 H1 a0 (Int.le_refl _) a1 a2 (Int.le_refl _) a3 v1 v2).mono ?_
  intro e w2 hf
  have hf' := hf.after hB H.lt
  obtain ⟨F', rfl, h2, h3, h4⟩ := hf'
  go_wp2_with fail
  go_ret
  exact ⟨F', rfl, h2, h3, h4⟩
end Go.Proofs.Ytfnflgcalhiamaa
/- paint.lay: values laid into a rectangle. -/
set_option linter.unusedVariables false
set_option linter.unusedSimpArgs false
namespace Go.Proofs.Ytfnflgcalhiamaa
open Go.RowKit

/-- The place of a cell in a rectangle, row by row. -/
def idxOf (x0 y0 : Int) (rw : Nat) (x y : Int) : Nat := ((y - y0) * rw + (x - x0)).toNat
/-- The first i values of a rectangle are laid. -/
def layF (f : Int → Int → Int) (x0 y0 x1 y1 : Int) (rw : Nat) (u : Nat → Int) (i : Nat) : Int → Int → Int :=
  fun x y => if inR x0 y0 x1 y1 x y ∧ idxOf x0 y0 rw x y < i then u (idxOf x0 y0 rw x y) else f x y
/-- All values of a rectangle are laid. -/
def pasteF (f : Int → Int → Int) (x0 y0 x1 y1 : Int) (rw : Nat) (u : Nat → Int) : Int → Int → Int :=
  fun x y => if inR x0 y0 x1 y1 x y then u (idxOf x0 y0 rw x y) else f x y
theorem lay_zero (f : Int → Int → Int) (x0 y0 x1 y1 : Int) (rw : Nat) (u : Nat → Int) : layF f x0 y0 x1 y1 rw u 0 = f := by
  funext x y
  unfold layF
  rw [if_neg (fun h => by omega)]
theorem idxOf_lt {x0 y0 x1 y1 x y : Int} {rw rh : Nat} (hrw : (rw : Int) = x1 - x0 + 1) (hrh : (rh : Int) = y1 - y0 + 1) (h : inR x0 y0 x1 y1 x y) : idxOf x0 y0 rw x y < rw * rh := by
  unfold inR at h
  obtain ⟨h1, h2⟩ := idx_lt (x := x - x0) (y := y - y0) (w := rw) (h := rh) (by omega) (by omega) (by omega) (by omega)
  unfold idxOf
  have : ((rw * rh : Nat) : Int) = rw * rh := by push_cast; rfl
  omega
theorem lay_all {f : Int → Int → Int} {x0 y0 x1 y1 : Int} {rw rh : Nat} {u : Nat → Int} (hrw : (rw : Int) = x1 - x0 + 1) (hrh : (rh : Int) = y1 - y0 + 1) : layF f x0 y0 x1 y1 rw u (rw * rh) = pasteF f x0 y0 x1 y1 rw u := by
  funext x y
  unfold layF pasteF
  by_cases h : inR x0 y0 x1 y1 x y
  · rw [if_pos h, if_pos ⟨h, idxOf_lt hrw hrh h⟩]
  · rw [if_neg h, if_neg (fun z => h z.1)]
/-- Ahead of a place of a row: an earlier row, or ahead in it. -/
theorem lex_lt {X Y : Int} {rw J K : Nat} (hX : 0 ≤ X) (hX2 : X < rw) (hY : 0 ≤ Y) (hK : K ≤ rw) : (Y * rw + X).toNat < rw * J + K ↔ Y < J ∨ (Y = J ∧ X < K) := by
  have h0 := Int.mul_nonneg hY (show (0 : Int) ≤ rw by omega)
  have e : ((rw * J + K : Nat) : Int) = J * rw + K := by push_cast; rw [Int.mul_comm]
  have key : Y * rw + X < J * rw + K ↔ Y < J ∨ (Y = J ∧ X < K) := by
    rcases Int.lt_trichotomy Y J with h | h | h
    · have := Int.mul_le_mul_of_nonneg_right (show Y + 1 ≤ J by omega) (show (0 : Int) ≤ rw by omega)
      rw [Int.add_mul] at this
      constructor
      · intro _; exact .inl h
      · intro _; omega
    · subst h
      constructor
      · intro h; exact .inr ⟨rfl, by omega⟩
      · rintro (h | ⟨_, h⟩) <;> omega
    · have := Int.mul_le_mul_of_nonneg_right (show (J : Int) + 1 ≤ Y by omega) (show (0 : Int) ≤ rw by omega)
      rw [Int.add_mul] at this
      constructor
      · intro h; omega
      · rintro (h | ⟨h, _⟩) <;> omega
  rw [← key]
  omega
theorem lay_step {f : Int → Int → Int} {x0 y0 x1 y1 c : Int} {rw rh i n : Nat} {u : Nat → Int} (hrw : (rw : Int) = x1 - x0 + 1) (hrh : (rh : Int) = y1 - y0 + 1) (h1 : 1 ≤ rw) (hi : i < rw * rh) (hn : 1 ≤ n) (hin : i % rw + n ≤ rw) (hu : ∀ t, t < n → u (i + t) = c) :
    fillF (layF f x0 y0 x1 y1 rw u i) (x0 + (i % rw : Nat)) (y0 + (i / rw : Nat)) (x0 + (i % rw : Nat) + n - 1) (y0 + (i / rw : Nat)) c = layF f x0 y0 x1 y1 rw u (i + n) := by
  have hm : i % rw < rw := Nat.mod_lt i (by omega)
  have hd : i / rw < rh := Nat.div_lt_of_lt_mul hi
  have he := Nat.div_add_mod i rw
  generalize hI : i % rw = I at *
  generalize hJ : i / rw = J at *
  funext x y
  unfold fillF layF
  by_cases hr : inR x0 y0 x1 y1 x y
  · have hr' := hr
    unfold inR at hr'
    have k1 := lex_lt (X := x - x0) (Y := y - y0) (rw := rw) (J := J) (K := I) (by omega) (by omega) (by omega) (by omega)
    have k2 := lex_lt (X := x - x0) (Y := y - y0) (rw := rw) (J := J) (K := I + n) (by omega) (by omega) (by omega) (by omega)
    have ek : rw * J + (I + n) = i + n := by omega
    rw [ek] at k2
    rw [he] at k1
    change idxOf x0 y0 rw x y < i ↔ _ at k1
    change idxOf x0 y0 rw x y < i + n ↔ _ at k2
    by_cases hf : inR (x0 + (I : Int)) (y0 + (J : Int)) (x0 + (I : Int) + n - 1) (y0 + (J : Int)) x y
    · have hf' := hf
      unfold inR at hf'
      rw [if_pos hf, if_pos ⟨hr, k2.2 (by omega)⟩]
      have hx : idxOf x0 y0 rw x y = i + (x - x0 - I).toNat := by
        unfold idxOf
        have : (y - y0) * (rw : Int) = ((rw * J : Nat) : Int) := by
          rw [show y - y0 = (J : Int) by omega]; push_cast; rw [Int.mul_comm]
        omega
      rw [hx]
      exact (hu _ (by omega)).symm
    · rw [if_neg hf]
      have hf' : ¬ (y - y0 = J ∧ (I : Int) ≤ x - x0 ∧ x - x0 < I + n) := fun z => hf (by unfold inR; omega)
      by_cases hk : idxOf x0 y0 rw x y < i
      · rw [if_pos ⟨hr, hk⟩, if_pos ⟨hr, by omega⟩]
      · rw [if_neg (fun z => hk z.2), if_neg (fun z => by have a := k2.1 z.2; have b := mt k1.2 hk; omega)]
  · have hf : ¬ inR (x0 + (I : Int)) (y0 + (J : Int)) (x0 + (I : Int) + n - 1) (y0 + (J : Int)) x y := fun z => hr (by unfold inR at z ⊢; omega)
    rw [if_neg hf, if_neg (fun z => hr z.1), if_neg (fun z => hr z.1)]

/-- Of a grid something is filled. -/
def Filled (g : Nat) (F : Nat → Prop) (w h : Int) (f : Int → Int → Int) (W W' : World) : Prop :=
  ∃ F', Mod F W W' ∧ (∀ k, F' k → F k ∨ W.heap.size ≤ k) ∧ GridAt W' g F' w h f
end Go.Proofs.Ytfnflgcalhiamaa
/- paint.lay. -/
set_option linter.unusedVariables false
set_option linter.unusedSimpArgs false
namespace Go.Proofs.Ytfnflgcalhiamaa
open Go.RowKit

set_option maxHeartbeats 2000000 in
set_option maxRecDepth 100000 in
theorem paint_lay_ok (g : Nat) (F : Nat → Prop) (w h x0 y0 x1 y1 : Int) (f : Int → Int → Int) (W : World) (H : GridAt W g F w h f) (a0 : 0 ≤ x0) (a1 : x0 ≤ x1) (a2 : x1 < w) (a3 : 0 ≤ y0) (a4 : y0 ≤ y1) (a5 : y1 < h)
    (rw rh : Nat) (hrw : (rw : Int) = x1 - x0 + 1) (hrh : (rh : Int) = y1 - y0 + 1) (ad : Addr) (cap : Nat) (u : Nat → Int) (hu : ∀ j, j < rw * rh → -2147483648 ≤ u j ∧ u j ≤ 2147483647) (hrow : RowAt W ad (rw * rh) u) (hF : ¬ F ad.block) :
    Calls Try.prog 65 #[.pointer (some ⟨g, 0, none⟩), .agg #[.int .i64 x0, .int .i64 y0, .int .i64 x1, .int .i64 y1], .slice (some ad) (rw * rh) cap] W fun e W' => e = .returned (.tuple #[]) ∧ Filled g F w h (pasteF f x0 y0 x1 y1 rw u) W W' := by
  obtain ⟨d1, d2, d3, d4⟩ := H.dims
  have hm := Nat.mul_le_mul (show rw ≤ 1024 by omega) (show rh ≤ 1024 by omega)
  obtain ⟨N, hN⟩ : ∃ N, rw * rh = N := ⟨_, rfl⟩
  rw [hN] at hm hrow hu ⊢
  have hrw1 : 1 ≤ rw := by omega
  have HN := Lib.hid hN
  have Hrw := Lib.hid hrw
  have Hrh := Lib.hid hrh
  have HU := Lib.hid hu
  clear hN hu hrh
  go_enter Try.func65, Try.ntmps65
  go_wp2_with fail
  obtain ⟨w1, hw1⟩ : ∃ w1, W.alloc (.cells #[.int .i64 x0, .int .i64 y0, .int .i64 x1, .int .i64 y1] 71) = w1 := ⟨_, rfl⟩
  have n1 := blk_new W (.cells #[.int .i64 x0, .int .i64 y0, .int .i64 x1, .int .i64 y1] 71)
  have hB := below_alloc1 W (.cells #[.int .i64 x0, .int .i64 y0, .int .i64 x1, .int .i64 y1] 71)
  have hs1 := alloc_size W (.cells #[.int .i64 x0, .int .i64 y0, .int .i64 x1, .int .i64 y1] 71)
  rw [hw1] at n1 hB hs1 ⊢
  have hrow1 := hrow.below hB
  have H1 := H.below hB
  have hFW : ¬ F W.heap.size := fun hk => by have := H.lt _ hk; omega
  clear hw1 hrow
  go_loopg [6] N (fun q v6 wr => ∃ i : Nat, Hid (i + q = N) ∧ v6 = .int .i64 (i : Int) ∧ Filled g F w h (layF f x0 y0 x1 y1 rw u i) w1 wr)
  case atStart => exact ⟨0, Nat.zero_add _, rfl, F, Mod.refl _ _, fun k hk => .inl hk, by rw [lay_zero]; exact H1⟩
  case round =>
    obtain ⟨i, hi, rfl, F1, hM, hF1, HG⟩ := hrel
    obtain ⟨kk, hkk⟩ : ∃ kk, gk = kk := ⟨_, rfl⟩
    have HK := Lib.hid hkk
    rw [hkk] at hi
    clear hkk
    have nr := hM.blk n1 hFW
    have hrr := hrow1.mod hM hF
    by_cases hlt : i < N
    · have ht : decide (i < N) = true := decide_eq_true hlt
      have k_0 := cells_w nr 0 rfl
      have k_1 := cells_w nr 1 rfl
      have k_2 := cells_w nr 2 rfl
      have k_3 := cells_w nr 3 rfl
      go_wp2_with fail
      refine (nth_ok x0 y0 x1 y1 i _ a0 a1 (by omega) a3 a4 (by omega) (by omega) (by have h8 := Hrh.out; have h9 := HN.out; rw [← hrw, ← h8]; have : ((rw * rh : Nat) : Int) = rw * rh := by { push_cast; rfl }; omega)).mono ?_
      rw [← hrw, show (i : Int) % (rw : Int) = ((i % rw : Nat) : Int) by push_cast; rfl, show (i : Int) / (rw : Int) = ((i / rw : Nat) : Int) by push_cast; rfl]
      rintro e w2 ⟨rfl, hb⟩
      replace nr := below_blk hb nr
      replace hrr := hrr.below hb
      replace HG := HG.below hb
      replace hM := hM.then_below hb
      clear k_0 k_1 k_2 k_3 hb
      have hIm : i % rw < rw := Nat.mod_lt i (by omega)
      have hJd : i / rw < rh := Nat.div_lt_of_lt_mul (by rw [HN.out]; exact hlt)
      have hij := Nat.div_add_mod i rw
      have hij2 := Nat.mul_le_mul_left rw (show i / rw + 1 ≤ rh by omega)
      rw [Nat.mul_add, HN.out] at hij2
      have hNi : i + (rw - i % rw) ≤ N := by omega
      have Hst := Lib.hid (fun (c : Int) (n : Nat) => lay_step (f := f) (u := u) (x0 := x0) (y0 := y0) (x1 := x1) (y1 := y1) (c := c) (n := n) Hrw.out Hrh.out hrw1 (show i < rw * rh by rw [HN.out]; exact hlt))
      generalize hI : i % rw = I at *
      generalize hJ : i / rw = J at *
      have hJh := Lib.hid Hrh.out
      clear hij hij2 hI hJ
      go_wp2_with fail
      obtain ⟨w3, hw3⟩ : ∃ w3, w2.alloc (.cells #[.int .i64 (x0 + (I : Int)), .int .i64 (y0 + (J : Int))] 53) = w3 := ⟨_, rfl⟩
      have hb3 := below_alloc1 w2 (.cells #[.int .i64 (x0 + (I : Int)), .int .i64 (y0 + (J : Int))] 53)
      have n7 := blk_new w2 (.cells #[.int .i64 (x0 + (I : Int)), .int .i64 (y0 + (J : Int))] 53)
      rw [hw3] at hb3 n7 ⊢
      replace nr := below_blk hb3 nr
      replace hrr := hrr.below hb3
      replace HG := HG.below hb3
      replace hM := hM.then_below hb3
      clear hb3 hw3
      have HIm := Lib.hid hIm
      have HNi := Lib.hid hNi
      have hb3 := Below.refl w3.heap.size w3
      go_loopg [9] (rw - I - 1) (fun q v9 wi => ∃ n : Nat, Hid (I + n + q = rw) ∧ 1 ≤ n ∧ v9 = .int .i64 (n : Int) ∧ Hid (∀ t, t < n → u (i + t) = u i) ∧ Below w3.heap.size w3 wi)
      case atStart => exact ⟨1, show I + 1 + (rw - I - 1) = rw by omega, Nat.le_refl _, rfl, fun t ht => by rw [show t = 0 by omega, Nat.add_zero], hb3⟩
      case round =>
        clear hb3
        obtain ⟨n, hn, hn1, rfl, hrun, hb3⟩ := hrel
        have hnI : I + n ≤ rw := by have := hn.out; omega
        replace nr := below_blk hb3 nr
        replace n7 := below_blk hb3 n7
        replace hrr := hrr.below hb3
        replace HG := HG.below hb3
        replace hM := hM.then_below hb3
        have wq : IntKind.i64.wrap (x0 + (I : Int) + (n : Int)) = x0 + (I : Int) + (n : Int) := IntWalk.i64_in _ (by omega)
        have wp : IntKind.i64.wrap ((i : Int) + (n : Int)) = ((i + n : Nat) : Int) := by rw [IntWalk.i64_in _ (by omega)]; push_cast; rfl
        have wr2 : IntKind.i64.wrap (x0 + (I : Int) + (n : Int) - 1) = x0 + (I : Int) + (n : Int) - 1 := IntWalk.i64_in _ (by omega)
        have hinN : (i : Int) < (N : Int) := by omega
        have hci := hrr i hlt
        have qi := fun d os => cell_regrown hci d os
        have j7_0 := cells_q n7 0 rfl
        have j7_1 := cells_q n7 1 rfl
        have kr_0 := cells_q nr 0 rfl
        have kr_1 := cells_q nr 1 rfl
        have kr_2 := cells_q nr 2 rfl
        have kr_3 := cells_q nr 3 rfl
        cases gk with
        | zero =>
          have ht2 : decide (x0 + (I : Int) + (n : Int) ≤ x1) = false := decide_eq_false (by have := hn.out; omega)
          go_wp2_with fail
          refine wp_quiet (by kernel_rfl) (by kernel_rfl) ?_
          repeat (go_big_quiet_step ((first | fail)))
          refine wpQuiet_nil ?_
          intro w5 hb5
          clear j7_0 j7_1 kr_0 kr_1 kr_2 kr_3 qi
          replace nr := below_blk hb5 nr
          replace n7 := below_blk hb5 n7
          replace hrr := hrr.below hb5
          replace HG := HG.below hb5
          replace hM := hM.then_below hb5
          clear hb5
          go_wp2_with fail
          have hci := hrr i hlt
          have qi := fun d os => cell_regrown hci d os
          have j7_0 := cells_q n7 0 rfl
          have j7_1 := cells_q n7 1 rfl
          have kr_0 := cells_q nr 0 rfl
          have kr_1 := cells_q nr 1 rfl
          have kr_2 := cells_q nr 2 rfl
          have kr_3 := cells_q nr 3 rfl
          refine wp_tail 17 (by kernel_rfl) (by kernel_rfl) ?_
          simp only [List.take_succ_cons, List.take_zero, List.drop_succ_cons, List.drop_zero]
          repeat (go_big_quiet_step ((first | fail)))
          refine wpQuiet_nil ?_
          intro w6 hb6
          clear j7_0 j7_1 kr_0 kr_1 kr_2 kr_3 qi
          replace HG := HG.below hb6
          replace hM := hM.then_below hb6
          go_wp2_with fail
          refine (grid_Fill_ok g F1 w h (x0 + (I : Int)) (y0 + (J : Int)) (x0 + (I : Int) + (n : Int) - 1) (y0 + (J : Int)) (u i) _ w6 HG (by omega) (by omega) (by omega) (by omega) (by omega) (by have := hJh.out; omega) (HU.out i hlt).1 (HU.out i hlt).2).mono ?_
          rintro e w7 ⟨F2, rfl, hM2, hF2, HG2⟩
          rw [Hst.out (u i) n hn1 hnI hrun.out] at HG2
          have hM7 := hM.size
          go_wp2_with fail
          go_roundg (kk - n)
          case measure => have := HK.out; have := HNi.out; have := hi.out; omega
          case rel =>
            refine ⟨i + n, ?_, ?_, F2, hM.trans hM2 hF1, fun k hk => ?_, HG2⟩
            · have h1 := hi.out
              exact (show i + n + (kk - n) = N by omega)
            · exact congrArg (Value.int .i64) (by push_cast; omega)
            · rcases hF2 k hk with h1 | h1
              · exact hF1 k h1
              · exact .inr (by omega)
        | succ q =>
          have ht2 : decide (x0 + (I : Int) + (n : Int) ≤ x1) = true := decide_eq_true (by have := hn.out; omega)
          have hin2 : i + n < N := by have := hn.out; omega
          have hin3 : ((i + n : Nat) : Int) < (N : Int) := by omega
          have hcn := hrr (i + n) hin2
          have qn := fun d os => cell_regrown hcn d os
          by_cases he : u (i + n) = u i
          · have hbe : (u (i + n) == u i) = true := by simp [he]
            have HE := Lib.hid he
            clear he
            go_wp2_with fail
            refine wp_quiet (by kernel_rfl) (by kernel_rfl) ?_
            repeat (go_big_quiet_step ((first | fail)))
            refine wpQuiet_nil ?_
            intro w5 hb5
            clear j7_0 j7_1 kr_0 kr_1 kr_2 kr_3 qi qn
            go_wp2_with fail
            go_roundg q
            case measure => omega
            case rel =>
              refine ⟨n + 1, ?_, by omega, congrArg (Value.int .i64) (by push_cast; omega), ?_, hb3.trans (hb5.mono hb3.size)⟩
              · have h1 := hn.out
                exact (show I + (n + 1) + q = rw by omega)
              · intro t ht
                by_cases e : t = n
                · subst e; exact HE.out
                · exact hrun.out t (by omega)
          · have hbe : (u (i + n) == u i) = false := by simp [he]
            clear he
            go_wp2_with fail
            refine wp_quiet (by kernel_rfl) (by kernel_rfl) ?_
            repeat (go_big_quiet_step ((first | fail)))
            refine wpQuiet_nil ?_
            intro w5 hb5
            clear j7_0 j7_1 kr_0 kr_1 kr_2 kr_3 qi
            replace nr := below_blk hb5 nr
            replace n7 := below_blk hb5 n7
            replace hrr := hrr.below hb5
            replace HG := HG.below hb5
            replace hM := hM.then_below hb5
            clear hb5
            go_wp2_with fail
            have hci := hrr i hlt
            have qi := fun d os => cell_regrown hci d os
            have j7_0 := cells_q n7 0 rfl
            have j7_1 := cells_q n7 1 rfl
            have kr_0 := cells_q nr 0 rfl
            have kr_1 := cells_q nr 1 rfl
            have kr_2 := cells_q nr 2 rfl
            have kr_3 := cells_q nr 3 rfl
            refine wp_tail 17 (by kernel_rfl) (by kernel_rfl) ?_
            simp only [List.take_succ_cons, List.take_zero, List.drop_succ_cons, List.drop_zero]
            repeat (go_big_quiet_step ((first | fail)))
            refine wpQuiet_nil ?_
            intro w6 hb6
            clear j7_0 j7_1 kr_0 kr_1 kr_2 kr_3 qi
            replace HG := HG.below hb6
            replace hM := hM.then_below hb6
            go_wp2_with fail
            refine (grid_Fill_ok g F1 w h (x0 + (I : Int)) (y0 + (J : Int)) (x0 + (I : Int) + (n : Int) - 1) (y0 + (J : Int)) (u i) _ w6 HG (by omega) (by omega) (by omega) (by omega) (by omega) (by have := hJh.out; omega) (HU.out i hlt).1 (HU.out i hlt).2).mono ?_
            rintro e w7 ⟨F2, rfl, hM2, hF2, HG2⟩
            rw [Hst.out (u i) n hn1 hnI hrun.out] at HG2
            have hM7 := hM.size
            go_wp2_with fail
            go_roundg (kk - n)
            case measure => have := HK.out; have := HNi.out; have := hi.out; omega
            case rel =>
              refine ⟨i + n, ?_, ?_, F2, hM.trans hM2 hF1, fun k hk => ?_, HG2⟩
              · have h1 := hi.out
                exact (show i + n + (kk - n) = N by omega)
              · exact congrArg (Value.int .i64) (by push_cast; omega)
              · rcases hF2 k hk with h1 | h1
                · exact hF1 k h1
                · exact .inr (by omega)
    · have ht : decide (i < N) = false := decide_eq_false hlt
      have ei : i = N := by have := hi.out; omega
      have HE := Lib.hid ei
      clear ei
      go_wp2_with fail
      refine bodyPost_end (results_none rfl _ _ _) rfl ?_
      have hM2 := (Mod.of_below (S := F) hB).trans hM (fun _ x => .inl x)
      refine ⟨rfl, F1, hM2, fun k hk => (hF1 k hk).imp id (fun h => by omega), ?_⟩
      rw [HE.out, ← HN.out, lay_all Hrw.out Hrh.out] at HG
      exact HG
end Go.Proofs.Ytfnflgcalhiamaa

/- Pyramids that aren't there; a grid of another size. -/
import Derived.Test.YtgofkgmhpnkchaaBadRect
set_option linter.unusedVariables false
set_option linter.unusedSimpArgs false
namespace Go.Proofs.Ytgofkgmhpnkchaa
open Go.RowKit

set_option maxRecDepth 100000 in
theorem build_nil (W : World) : Calls Try.prog 14 #[.pointer none] W fun e W' => e = .returned (.tuple #[.pointer none, .int .i64 1]) ∧ Below W.heap.size W W' := by
  go_enter Try.func14, Try.ntmps14
  go_wp2_with fail
  go_ret2
  exact ⟨rfl, Below.refl _ _⟩
theorem levels_nil (W : World) : Calls Try.prog 37 #[.pointer none] W fun e W' => e = .returned (.int .i64 0) ∧ Below W.heap.size W W' := by
  go_enter Try.func37, Try.ntmps37
  go_wp2_with fail
  go_ret
  exact ⟨rfl, Below.refl _ _⟩
set_option maxRecDepth 100000 in
theorem size_nil (W : World) : Calls Try.prog 36 #[.pointer none] W fun e W' => e = .returned (.tuple #[.int .i64 0, .int .i64 0]) ∧ Below W.heap.size W W' := by
  go_enter Try.func36, Try.ntmps36
  go_wp2_with fail
  go_ret2
  exact ⟨rfl, Below.refl _ _⟩
set_option maxHeartbeats 1000000 in
set_option maxRecDepth 100000 in
theorem at_nil (k x y : Int) (W : World) : Calls Try.prog 16 #[.pointer none, .int .i64 k, .agg #[.int .i64 x, .int .i64 y]] W fun e W' => e = .returned (.tuple #[.agg #[.int .i64 0, .int .i64 0], .int .i64 1]) ∧ Below W.heap.size W W' := by
  have nR := blk_new2 W (.cells #[.int .i64 x, .int .i64 y] 24) (.cells #[.int .i64 0, .int .i64 0] 39)
  go_enter Try.func16, Try.ntmps16
  go_wp2_with fail
  refine bodyPost_ret (res_ct rfl rfl nR agg_Range rfl) rfl ?_
  exact ⟨rfl, below_alloc (below_alloc1 _ _) _⟩
set_option maxHeartbeats 1000000 in
set_option maxRecDepth 100000 in
theorem repair_nil (o : Option Addr) (x0 y0 x1 y1 : Int) (W : World) : Calls Try.prog 21 #[.pointer none, .pointer o, .agg #[.int .i64 x0, .int .i64 y0, .int .i64 x1, .int .i64 y1]] W fun e W' => e = .returned (.int .i64 1) ∧ Below W.heap.size W W' := by
  go_enter Try.func21, Try.ntmps21
  go_wp2_with fail
  go_ret
  exact ⟨rfl, below_alloc1 _ _⟩
set_option maxHeartbeats 1000000 in
set_option maxRecDepth 100000 in
theorem repair_nil2 (p : Nat) (x0 y0 x1 y1 : Int) (W : World) : Calls Try.prog 21 #[.pointer (some ⟨p, 0, none⟩), .pointer none, .agg #[.int .i64 x0, .int .i64 y0, .int .i64 x1, .int .i64 y1]] W fun e W' => e = .returned (.int .i64 1) ∧ Below W.heap.size W W' := by
  go_enter Try.func21, Try.ntmps21
  go_wp2_with fail
  go_ret
  exact ⟨rfl, below_alloc1 _ _⟩
set_option maxRecDepth 100000 in
theorem same_nil (W : World) : Calls Try.prog 29 #[.pointer none, .pointer none] W fun e W' => e = .returned (.bool true) ∧ Below W.heap.size W W' := by
  go_enter Try.func29, Try.ntmps29
  go_wp2_with fail
  go_ret
  exact ⟨rfl, Below.refl _ _⟩
set_option maxRecDepth 100000 in
theorem same_nil1 (p : Nat) (W : World) : Calls Try.prog 29 #[.pointer (some ⟨p, 0, none⟩), .pointer none] W fun e W' => e = .returned (.bool false) ∧ Below W.heap.size W W' := by
  go_enter Try.func29, Try.ntmps29
  go_wp2_with fail
  go_ret
  exact ⟨rfl, Below.refl _ _⟩
theorem nil_ptr (a : Addr) (w : World) : (binOp BinOp.eql 33 (.pointer none) (.pointer (some a))).run Try.prog w = .ok (.bool false) w := by
  have h : ∀ d : Nat, (Op.equalIn (d + 1) 33 (.pointer none) (.pointer (some a))).run Try.prog w = .ok false w := fun d => by
    simp [Op.equalIn, run_underlying Try.underlying33]
  have h2 : (Op.equal 33 (.pointer none) (.pointer (some a))).run Try.prog w = .ok false w := h _
  simp [binOp, h2, Sem.run_bind, Sem.run_pure]
set_option maxRecDepth 100000 in
theorem same_nil2 (p : Nat) (W : World) : Calls Try.prog 29 #[.pointer none, .pointer (some ⟨p, 0, none⟩)] W fun e W' => e = .returned (.bool false) ∧ Below W.heap.size W W' := by
  go_enter Try.func29, Try.ntmps29
  have hq := nil_ptr ⟨p, 0, none⟩ W
  go_wp2_with fail
  go_ret
  exact ⟨rfl, Below.refl _ _⟩

set_option maxHeartbeats 2000000 in
set_option maxRecDepth 100000 in
theorem repair_size (p : Nat) (F : Nat → Prop) (g : Nat) (Fg : Nat → Prop) (w h w' h' x0 y0 x1 y1 : Int) (f' f : Int → Int → Int) (W : World) (HP : PyrAt W p F w h f) (HG : GridAt W g Fg w' h' f') (hne : w' ≠ w ∨ h' ≠ h) :
    Calls Try.prog 21 #[.pointer (some ⟨p, 0, none⟩), .pointer (some ⟨g, 0, none⟩), .agg #[.int .i64 x0, .int .i64 y0, .int .i64 x1, .int .i64 y1]] W fun e W' => e = .returned (.int .i64 3) ∧ Below W.heap.size W W' := by
  obtain ⟨A, cap, ps, s, HR⟩ := HP
  have hL := levs_bd HR.w1 HR.w2 HR.h1 HR.h2
  have hw0 := lw0 w
  have hh0 := lw0 h
  obtain ⟨e0, e1, e2⟩ := HR.lev 0 (by omega)
  rw [hw0] at e0
  rw [hh0] at e1
  rw [Nat.zero_mul] at e0 e1 e2
  obtain ⟨NA, hNA2⟩ : ∃ NA, area w h 0 = NA := ⟨_, rfl⟩
  rw [hNA2] at e2
  obtain ⟨L, hLe⟩ : ∃ L, levs w h = L := ⟨_, rfl⟩
  have hd := below_blk (below_alloc1 W (.cells #[.int .i64 x0, .int .i64 y0, .int .i64 x1, .int .i64 y1] 45)) HR.head
  have hr := below_blk (below_alloc1 W (.cells #[.int .i64 x0, .int .i64 y0, .int .i64 x1, .int .i64 y1] 45)) HR.row
  rw [hLe] at hd hL
  have hLp : 0 < L := by omega
  have c0 := (blk_cell hr 0).trans e0
  have c1 := (blk_cell hr (0 + 1)).trans e1
  have c2 := (blk_cell hr (0 + 2)).trans e2
  have HNE := Lib.hid hne
  have k_0 := cells_w hd 0 rfl
  clear e0 e1 e2 hNA2 hLe hne hw0 hh0
  go_enter Try.func21, Try.ntmps21
  go_wp2_with fail
  have n7 := blk_new2 W (.cells #[.int .i64 x0, .int .i64 y0, .int .i64 x1, .int .i64 y1] 45) (.cells #[.int .i64 w, .int .i64 h, .slice (some ⟨s 0, 0, none⟩) NA NA] 97)
  have hB := below_alloc (below_alloc1 W (.cells #[.int .i64 x0, .int .i64 y0, .int .i64 x1, .int .i64 y1] 45)) (.cells #[.int .i64 w, .int .i64 h, .slice (some ⟨s 0, 0, none⟩) NA NA] 97)
  refine (grid_Size_ok g Fg w' h' f' _ (HG.below hB)).mono ?_
  rintro e w2 ⟨rfl, hb⟩
  replace n7 := below_blk hb n7
  replace hB := below_next hB hb
  clear hb hd hr c0 c1 c2 k_0
  have l_0 := cells_w n7 0 rfl
  have l_1 := cells_w n7 1 rfl
  have l_2 := cells_w n7 2 rfl
  by_cases hw : w' = w
  · have hb1 : (w' != w) = false := by simp [hw]
    have hb2 : (h' != h) = true := by simp; exact fun e => (HNE.out.elim (fun x => x hw) (fun x => x e))
    clear hw
    go_wp2_with fail
    go_ret
    exact ⟨rfl, hB⟩
  · have hb1 : (w' != w) = true := by simp [hw]
    clear hw
    go_wp2_with fail
    go_ret
    exact ⟨rfl, hB⟩
end Go.Proofs.Ytgofkgmhpnkchaa

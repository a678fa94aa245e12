/- Texts of this claim, joined: FenSum, GridSize, GridValues, FenNew, FenPlain. -/
import Derived.Test.YtfnflgcalhiamaaPackSz1
import Derived.Test.YtfnflgcalhiamaaPackSz3
import Derived.Test.YtfnflgcalhiamaaPackSz6
import Derived.Deep.LoopGhost
/- fen.Sum, At. -/
set_option linter.unusedVariables false
set_option linter.unusedSimpArgs false
namespace Go.Proofs.Ytfnflgcalhiamaa
open Go.RowKit

/-- The sum of a rectangle, by corners. -/
def rectS (f : Int → Int → Int) (x0 y0 x1 y1 : Nat) : Int := cornS f (x1 + 1) (y1 + 1) - cornS f x0 (y1 + 1) - cornS f (x1 + 1) y0 + cornS f x0 y0
theorem rectS_cell (f : Int → Int → Int) (x y : Nat) : rectS f x y x y = f x y := corn_cell f x y

set_option maxHeartbeats 4000000 in
set_option maxRecDepth 100000 in
theorem fen_sum_ok (b A w h : Nat) (f : Int → Int → Int) (x0 y0 x1 y1 : Nat) (W : World) (H : FenAt W b A w h (fenS f)) (hB : FenB f w h) (a1 : x0 ≤ x1) (a2 : x1 < w) (a3 : y0 ≤ y1) (a4 : y1 < h) :
    Calls Try.prog 56 #[.pointer (some ⟨b, 0, none⟩), .agg #[.int .i64 (x0 : Int), .int .i64 (y0 : Int), .int .i64 (x1 : Int), .int .i64 (y1 : Int)]] W fun e W' => e = .returned (.tuple #[.int .i64 (rectS f x0 y0 x1 y1), .int .i64 0]) ∧ Below W.heap.size W W' := by
  obtain ⟨N, cap, cs, HR⟩ := H
  have w1 := HR.w1
  have w2 := HR.w2
  have h1 := HR.h1
  have h2 := HR.h2
  have hd := HR.head
  have HF : Hid (FenAt W b A w h (fenS f)) := ⟨N, cap, cs, HR⟩
  clear HR
  have e1 : wrap64 ((x1 : Int) + 1) = (x1 : Int) + 1 := wrap64_id (by omega) (by omega)
  have e2 : wrap64 ((y1 : Int) + 1) = (y1 : Int) + 1 := wrap64_id (by omega) (by omega)
  have v1 : IntKind.i64.wrap ((x1 : Int) + 1) = (x1 : Int) + 1 := IntWalk.i64_in _ (by omega)
  have v2 : IntKind.i64.wrap ((y1 : Int) + 1) = (y1 : Int) + 1 := IntWalk.i64_in _ (by omega)
  have hc1 := fun W' H => corner_ok b A w h f (x1 + 1) (y1 + 1) W' H hB (by omega) (by omega)
  have hc2 := fun W' H => corner_ok b A w h f x0 (y1 + 1) W' H hB (by omega) (by omega)
  have hc3 := fun W' H => corner_ok b A w h f (x1 + 1) y0 W' H hB (by omega) (by omega)
  have hc4 := fun W' H => corner_ok b A w h f x0 y0 W' H hB (by omega) (by omega)
  have b1 := corn_bd hB w2 h2 (x := x1 + 1) (y := y1 + 1) (by omega) (by omega)
  have b2 := corn_bd hB w2 h2 (x := x0) (y := y1 + 1) (by omega) (by omega)
  have b3 := corn_bd hB w2 h2 (x := x1 + 1) (y := y0) (by omega) (by omega)
  have b4 := corn_bd hB w2 h2 (x := x0) (y := y0) (by omega) (by omega)
  unfold rectS
  obtain ⟨c1, hh1⟩ : ∃ c1, cornS f (x1 + 1) (y1 + 1) = c1 := ⟨_, rfl⟩
  obtain ⟨c2, hh2⟩ : ∃ c2, cornS f x0 (y1 + 1) = c2 := ⟨_, rfl⟩
  obtain ⟨c3, hh3⟩ : ∃ c3, cornS f (x1 + 1) y0 = c3 := ⟨_, rfl⟩
  obtain ⟨c4, hh4⟩ : ∃ c4, cornS f x0 y0 = c4 := ⟨_, rfl⟩
  rw [hh1] at hc1 b1 ⊢
  rw [hh2] at hc2 b2 ⊢
  rw [hh3] at hc3 b3 ⊢
  rw [hh4] at hc4 b4 ⊢
  push_cast at hc1 hc2 hc3
  have s1 : wrap64 (c1 - c2) = c1 - c2 := wrap64_id (by omega) (by omega)
  have s2 : wrap64 (c1 - c2 - c3) = c1 - c2 - c3 := wrap64_id (by omega) (by omega)
  have s3 : wrap64 (c1 - c2 - c3 + c4) = c1 - c2 - c3 + c4 := wrap64_id (by omega) (by omega)
  have u1 : IntKind.i64.wrap (c1 - c2) = c1 - c2 := IntWalk.i64_in _ (by omega)
  have u2 : IntKind.i64.wrap (c1 - c2 - c3) = c1 - c2 - c3 := IntWalk.i64_in _ (by omega)
  have u3 : IntKind.i64.wrap (c1 - c2 - c3 + c4) = c1 - c2 - c3 + c4 := IntWalk.i64_in _ (by omega)
  have HC1 := Lib.hid hc1
  have HC2 := Lib.hid hc2
  have HC3 := Lib.hid hc3
  have HC4 := Lib.hid hc4
  have HWI := Lib.hid (fun W => within_ok (x0 : Int) (y0 : Int) (x1 : Int) (y1 : Int) (w : Int) (h : Int) W (by omega) (by omega) (by omega) (by omega) (by omega) (by omega) (by omega) (by omega) (by omega) (by omega))
  clear hc1 hc2 hc3 hc4 hh1 hh2 hh3 hh4 b1 b2 b3 b4 hB
  go_enter Try.func56, Try.ntmps56
  go_wp2_with fail
  have n_B := (below_alloc1 W (.cells #[.int .i64 (x0 : Int), .int .i64 (y0 : Int), .int .i64 (x1 : Int), .int .i64 (y1 : Int)] 71))
  have n_0 : (W.alloc (.cells #[.int .i64 (x0 : Int), .int .i64 (y0 : Int), .int .i64 (x1 : Int), .int .i64 (y1 : Int)] 71)).heap[W.heap.size]? = some (.cells #[.int .i64 (x0 : Int), .int .i64 (y0 : Int), .int .i64 (x1 : Int), .int .i64 (y1 : Int)] 71) := (blk_new_at (W := W) (o := .cells #[.int .i64 (x0 : Int), .int .i64 (y0 : Int), .int .i64 (x1 : Int), .int .i64 (y1 : Int)] 71) (by simp))
  obtain ⟨wa, hwa⟩ : ∃ wa, (W.alloc (.cells #[.int .i64 (x0 : Int), .int .i64 (y0 : Int), .int .i64 (x1 : Int), .int .i64 (y1 : Int)] 71)) = wa := ⟨_, rfl⟩
  rw [hwa] at n_0 n_B ⊢
  clear hwa
  replace hd := below_blk n_B hd
  replace HF := Lib.hid (HF.out.below n_B)
  have i_0 := cells_q hd 0 rfl
  have i_1 := cells_q hd 1 rfl
  have j_0 := cells_q n_0 0 rfl
  have j_1 := cells_q n_0 1 rfl
  have j_2 := cells_q n_0 2 rfl
  have j_3 := cells_q n_0 3 rfl
  refine wp_quiet (by kernel_rfl) (by kernel_rfl) ?_
  repeat (go_big_quiet_step ((first | (go_at_call 43; with_reducible exact Calls.quiet (HWI.out _)))))
  refine wpQuiet_nil ?_
  intro wb hb1
  replace n_0 := below_blk hb1 n_0
  replace HF := Lib.hid (HF.out.below hb1)
  replace n_B := below_next n_B hb1
  clear i_0 i_1 j_0 j_1 j_2 j_3 hd hb1
  go_wp2_with fail
  have j_0 := cells_q n_0 0 rfl
  have j_1 := cells_q n_0 1 rfl
  have j_2 := cells_q n_0 2 rfl
  have j_3 := cells_q n_0 3 rfl
  refine wp_quiet (by kernel_rfl) (by kernel_rfl) ?_
  repeat (go_big_quiet_step ((first | fail)))
  refine wpQuiet_nil ?_
  intro wc hb2
  replace n_0 := below_blk hb2 n_0
  replace HF := Lib.hid (HF.out.below hb2)
  replace n_B := below_next n_B hb2
  clear j_0 j_1 j_2 j_3 hb2
  go_wp2_with fail
  have j_0 := cells_q n_0 0 rfl
  have j_1 := cells_q n_0 1 rfl
  have j_2 := cells_q n_0 2 rfl
  have j_3 := cells_q n_0 3 rfl
  refine wp_quiet (by kernel_rfl) (by kernel_rfl) ?_
  repeat (go_big_quiet_step ((first | (go_at_call 73; with_reducible exact Calls.quiet (HC1.out _ (HF.out.below (below_regrown _ _ _)))) | (go_at_call 73; with_reducible exact Calls.quiet (HC2.out _ (HF.out.below (below_regrown _ _ _)))) | (go_at_call 73; with_reducible exact Calls.quiet (HC3.out _ (HF.out.below (below_regrown _ _ _)))) | (go_at_call 73; with_reducible exact Calls.quiet (HC4.out _ (HF.out.below (below_regrown _ _ _)))))))
  refine wpQuiet_nil ?_
  intro wd hb3
  replace n_B := below_next n_B hb3
  clear j_0 j_1 j_2 j_3 hb3
  go_wp2_with fail
  go_ret2
  exact ⟨rfl, n_B⟩
set_option maxHeartbeats 4000000 in
set_option maxRecDepth 100000 in
theorem fen_sum_bad (b A w h : Nat) (f : Int → Int → Int) (x0 y0 x1 y1 : Int) (W : World) (H : FenAt W b A w h (fenS f)) (hc : withinC x0 y0 x1 y1 w h ≠ 0) :
    Calls Try.prog 56 #[.pointer (some ⟨b, 0, none⟩), .agg #[.int .i64 x0, .int .i64 y0, .int .i64 x1, .int .i64 y1]] W fun e W' => e = .returned (.tuple #[.int .i64 0, .int .i64 (withinC x0 y0 x1 y1 w h)]) ∧ Below W.heap.size W W' := by
  obtain ⟨N, cap, cs, HR⟩ := H
  have w1 := HR.w1
  have w2 := HR.w2
  have h1 := HR.h1
  have h2 := HR.h2
  have hd := HR.head
  have hcb : (withinC x0 y0 x1 y1 w h != 0) = true := by simp [hc]
  have HWI := Lib.hid (fun W => within_any x0 y0 x1 y1 (w : Int) (h : Int) W (by omega) (by omega) (by omega) (by omega))
  clear HR hc
  go_enter Try.func56, Try.ntmps56
  go_wp2_with fail
  have n_B := (below_alloc1 W (.cells #[.int .i64 x0, .int .i64 y0, .int .i64 x1, .int .i64 y1] 71))
  have n_0 : (W.alloc (.cells #[.int .i64 x0, .int .i64 y0, .int .i64 x1, .int .i64 y1] 71)).heap[W.heap.size]? = some (.cells #[.int .i64 x0, .int .i64 y0, .int .i64 x1, .int .i64 y1] 71) := (blk_new_at (W := W) (o := .cells #[.int .i64 x0, .int .i64 y0, .int .i64 x1, .int .i64 y1] 71) (by simp))
  obtain ⟨wa, hwa⟩ : ∃ wa, (W.alloc (.cells #[.int .i64 x0, .int .i64 y0, .int .i64 x1, .int .i64 y1] 71)) = wa := ⟨_, rfl⟩
  rw [hwa] at n_0 n_B ⊢
  clear hwa
  replace hd := below_blk n_B hd
  have i_0 := cells_q hd 0 rfl
  have i_1 := cells_q hd 1 rfl
  have j_0 := cells_q n_0 0 rfl
  have j_1 := cells_q n_0 1 rfl
  have j_2 := cells_q n_0 2 rfl
  have j_3 := cells_q n_0 3 rfl
  refine wp_quiet (by kernel_rfl) (by kernel_rfl) ?_
  repeat (go_big_quiet_step ((first | (go_at_call 43; with_reducible exact Calls.quiet (HWI.out _)))))
  refine wpQuiet_nil ?_
  intro wb hb1
  replace n_B := below_next n_B hb1
  clear i_0 i_1 j_0 j_1 j_2 j_3 hd hb1
  go_wp2_with fail
  go_ret2
  exact ⟨rfl, n_B⟩

set_option maxHeartbeats 2000000 in
set_option maxRecDepth 100000 in
theorem fen_At_any (b A w h : Nat) (f : Int → Int → Int) (x y : Int) (W : World) (H : FenAt W b A w h (fenS f)) (hB : FenB f w h) :
    Calls Try.prog 31 #[.pointer (some ⟨b, 0, none⟩), .agg #[.int .i64 x, .int .i64 y]] W fun e W' => e = .returned (.tuple #[.int .i64 (atV f w h x y), .int .i64 (atC w h x y)]) ∧ Below W.heap.size W W' := by
  go_enter Try.func31, Try.ntmps31
  go_wp2_with fail
  have n_B := (below_alloc1 W (.cells #[.int .i64 x, .int .i64 y] 53))
  have n_0 : (W.alloc (.cells #[.int .i64 x, .int .i64 y] 53)).heap[W.heap.size]? = some (.cells #[.int .i64 x, .int .i64 y] 53) := (blk_new_at (W := W) (o := .cells #[.int .i64 x, .int .i64 y] 53) (by simp))
  obtain ⟨wa, hwa⟩ : ∃ wa, (W.alloc (.cells #[.int .i64 x, .int .i64 y] 53)) = wa := ⟨_, rfl⟩
  rw [hwa] at n_0 n_B ⊢
  clear hwa
  have HF := H.below n_B
  by_cases hin : inG w h x y
  · obtain ⟨a1, a2, a3, a4⟩ := hin
    obtain ⟨xn, rfl⟩ : ∃ xn : Nat, x = xn := ⟨x.toNat, by omega⟩
    obtain ⟨yn, rfl⟩ : ∃ yn : Nat, y = yn := ⟨y.toNat, by omega⟩
    have hin : inG w h xn yn := ⟨a1, a2, a3, a4⟩
    refine (fen_sum_ok b A w h f xn yn xn yn wa HF hB (Nat.le_refl _) (by omega) (Nat.le_refl _) (by omega)).mono ?_
    rw [rectS_cell]
    rintro e w2 ⟨rfl, hb⟩
    have hB2 := below_next n_B hb
    have HE := Lib.hid (And.intro (atV_in (f := f) hin) (atC_in hin))
    clear hin
    go_wp2_with fail
    go_ret2
    exact ⟨by rw [HE.out.1, HE.out.2]; rfl, hB2⟩
  · have hc : withinC x y x y w h = 4 := by
      unfold withinC
      rw [if_neg (fun z => hin ⟨z.1, z.2.1, z.2.2.2.2.1, z.2.2.2.2.2.1⟩)]
    refine (fen_sum_bad b A w h f x y x y wa HF (by rw [hc]; omega)).mono ?_
    rw [hc]
    rintro e w2 ⟨rfl, hb⟩
    have hB2 := below_next n_B hb
    have HE := Lib.hid (And.intro (atV_out (f := f) hin) (atC_out hin))
    clear hin hc
    go_wp2_with fail
    go_ret2
    exact ⟨by rw [HE.out.1, HE.out.2]; rfl, hB2⟩
end Go.Proofs.Ytfnflgcalhiamaa
/- grid.Size. -/
set_option linter.unusedVariables false
set_option linter.unusedSimpArgs false
namespace Go.Proofs.Ytfnflgcalhiamaa
open Go.RowKit

theorem grid_Size_ok (g : Nat) (F : Nat → Prop) (w h : Int) (f : Int → Int → Int) (W : World) (H : GridAt W g F w h f) :
    Calls Try.prog 20 #[.pointer (some ⟨g, 0, none⟩)] W fun e W' => e = .returned (.tuple #[.int .i64 w, .int .i64 h]) ∧ Below W.heap.size W W' := by
  obtain ⟨c, hg⟩ := H.head
  go_enter Try.func20, Try.ntmps20
  go_wp2_with fail
  have k_0 := cells_q hg 0 rfl
  have k_1 := cells_q hg 1 rfl
  refine wp_quiet (by kernel_rfl) (by kernel_rfl) ?_
  repeat (go_big_quiet_step ((first | fail)))
  refine wpQuiet_nil ?_
  intro w2 hb2
  clear k_0 k_1
  go_wp2_with fail
  go_ret2
  exact ⟨rfl, hb2⟩
end Go.Proofs.Ytfnflgcalhiamaa
/- grid.Values. -/
set_option linter.unusedVariables false
set_option linter.unusedSimpArgs false
namespace Go.Proofs.Ytfnflgcalhiamaa
open Go.RowKit

/-- The i-th value of a rectangle, row by row. -/
def rowG (f : Int → Int → Int) (x0 y0 : Int) (rw : Nat) (i : Nat) : Int := f (x0 + (i % rw : Nat)) (y0 + (i / rw : Nat))
theorem rowG_at (f : Int → Int → Int) (x0 y0 : Int) {rw j i : Nat} (h : i < rw) : rowG f x0 y0 rw (rw * j + i) = f (x0 + (i : Int)) (y0 + (j : Int)) := by
  unfold rowG
  rw [Nat.mul_add_mod, Nat.mod_eq_of_lt h, Nat.mul_add_div (by omega), Nat.div_eq_of_lt h, Nat.add_zero]
/-- Values, as a row of whole numbers in new memory. -/
def ValuesOut (W : World) (n : Nat) (g : Nat → Int) (e : Ending) (W' : World) : Prop :=
  ∃ k cap cs, e = .returned (.tuple #[.slice (some ⟨k, 0, none⟩) n cap, .int .i64 0]) ∧ n ≤ cap ∧ W.heap.size ≤ k ∧ Below W.heap.size W W' ∧ W'.heap[k]? = some (.cells cs 2 (0, 0)) ∧ ∀ i, i < n → cs[i]? = some (.int .i64 (g i))

set_option maxHeartbeats 2000000 in
set_option maxRecDepth 100000 in
theorem grid_Values_ok (g : Nat) (F : Nat → Prop) (w h x0 y0 x1 y1 : Int) (f : Int → Int → Int) (W : World) (H : GridAt W g F w h f) (a0 : 0 ≤ x0) (a1 : x0 ≤ x1) (a2 : x1 < w) (a3 : 0 ≤ y0) (a4 : y0 ≤ y1) (a5 : y1 < h)
    (rw rh : Nat) (hrw : (rw : Int) = x1 - x0 + 1) (hrh : (rh : Int) = y1 - y0 + 1) :
    Calls Try.prog 26 #[.pointer (some ⟨g, 0, none⟩), .agg #[.int .i64 x0, .int .i64 y0, .int .i64 x1, .int .i64 y1]] W (ValuesOut W (rw * rh) (rowG f x0 y0 rw)) := by
  obtain ⟨d1, d2, d3, d4⟩ := H.dims
  go_enter Try.func26, Try.ntmps26
  go_wp2_with fail
  have n1 := blk_new W (.cells #[.int .i64 x0, .int .i64 y0, .int .i64 x1, .int .i64 y1] 71)
  have H1 := H.below (below_alloc1 W (.cells #[.int .i64 x0, .int .i64 y0, .int .i64 x1, .int .i64 y1] 71))
  have hB := below_alloc1 W (.cells #[.int .i64 x0, .int .i64 y0, .int .i64 x1, .int .i64 y1] 71)
  refine (grid_check_any g F w h _ _ _ _ f _ H1).mono ?_
  simp only [withinC_ok.2 ⟨a0, a1, a2, a3, a4, a5⟩]
  rintro e w2 ⟨rfl, hb⟩
  replace n1 := below_blk hb n1
  replace H1 := H1.below hb
  replace hB := below_next hB hb
  clear hb
  have j_0 := cells_w n1 0 rfl
  have j_1 := cells_w n1 1 rfl
  have j_2 := cells_w n1 2 rfl
  have j_3 := cells_w n1 3 rfl
  go_wp2_with fail
  refine (area_ok x0 y0 x1 y1 w2 a0 a1 (by omega) a3 a4 (by omega)).mono ?_
  rintro e w3 ⟨rfl, hb⟩
  replace n1 := below_blk hb n1
  replace H1 := H1.below hb
  replace hB := below_next hB hb
  clear hb j_0 j_1 j_2 j_3
  have harea : (x1 - x0 + 1) * (y1 - y0 + 1) = ((rw * rh : Nat) : Int) := by rw [← hrw, ← hrh]; push_cast; rfl
  rw [harea]
  have hm := Nat.mul_le_mul (show rw ≤ 1024 by omega) (show rh ≤ 1024 by omega)
  have Hrw := Lib.hid hrw
  have Hrh := Lib.hid hrh
  clear hrw hrh harea H
  go_wp2_with (at_make; refine make_room rfl (.const (.int .i64 0)) (.tmp 19) 22 rfl 2 (.int .i64 0) 1 8 Try.underlying22 info_int64 (rw * rh) rfl rfl (by omega) (by omega) ?_)
  intro v0 w4 hown hb
  have hbs := hB.size
  have n4 := below_blk hb n1
  have j_0 := cells_w n4 0 rfl
  have j_1 := cells_w n4 1 rfl
  have j_2 := cells_w n4 2 rfl
  have j_3 := cells_w n4 3 rfl
  go_wp2_with fail
  clear j_0 j_1 j_2 j_3 n4
  go_loopg [7, 8] rh (fun k v7 v8 wr => ∃ j : Nat, Hid (j + k = rh) ∧ v8 = .int .i64 (y0 + (j : Int)) ∧ wr.ownsRow w3.heap.size 2 1 v7 (rw * j) (vals (rowG f x0 y0 rw) (rw * j)) ∧ Below w3.heap.size w3 wr)
  case atStart => exact ⟨0, Nat.zero_add _, by simp, by simpa [vals] using hown, hb⟩
  case round =>
    clear hown hb
    obtain ⟨j, hj, rfl, hown, hbr⟩ := hrel
    have cr := below_blk hbr n1
    have k_0 := cells_w cr 0 rfl
    have k_1 := cells_w cr 1 rfl
    have k_2 := cells_w cr 2 rfl
    have k_3 := cells_w cr 3 rfl
    cases gk with
    | zero =>
      have ht : decide (y0 + (j : Int) ≤ y1) = false := decide_eq_false (by have := Hrh.out; have := hj.out; omega)
      go_wp2_with fail
      go_ret2
      have ej : j = rh := hj.out
      subst ej
      obtain ⟨k, cap, cs, hv, hc1, hc2, hc3, hc4⟩ := own_row hown (by have := Nat.mul_le_mul (show 1 ≤ rw by have := Hrw.out; omega) (show 1 ≤ j by have := Hrh.out; omega); omega)
      subst hv
      exact ⟨k, cap, cs, rfl, hc1, by omega, hB.trans (hbr.mono hbs), hc3, fun i hi => hc4 i _ (vals_get _ hi)⟩
    | succ m =>
      have ht : decide (y0 + (j : Int) ≤ y1) = true := decide_eq_true (by have := Hrh.out; have := hj.out; omega)
      have hj' : j + 1 ≤ rh := by have := hj.out; omega
      have hyb : y0 + (j : Int) < h := by have := Hrh.out; omega
      go_wp2_with fail
      clear cr k_0 k_1 k_2 k_3
      go_loopg [7, 9] rw (fun k v7 v9 wi => ∃ i : Nat, Hid (i + k = rw) ∧ v9 = .int .i64 (x0 + (i : Int)) ∧ wi.ownsRow w3.heap.size 2 1 v7 (rw * j + i) (vals (rowG f x0 y0 rw) (rw * j + i)) ∧ Below w3.heap.size w3 wi)
      case atStart => exact ⟨0, Nat.zero_add _, by simp, hown, hbr⟩
      case round =>
        clear hown hbr
        obtain ⟨i, hi, rfl, hown, hbr⟩ := hrel
        have cr := below_blk hbr n1
        have k_0 := cells_w cr 0 rfl
        have k_1 := cells_w cr 1 rfl
        have k_2 := cells_w cr 2 rfl
        have k_3 := cells_w cr 3 rfl
        cases gk with
        | zero =>
          have ht2 : decide (x0 + (i : Int) ≤ x1) = false := decide_eq_false (by have := Hrw.out; have := hi.out; omega)
          go_wp2_with fail
          go_roundg m
          case measure => omega
          case rel =>
            have e : i = rw := hi.out
            subst e
            exact ⟨j + 1, by have := hj.out; exact (show j + 1 + m = _ by omega), congrArg (Value.int .i64) (by push_cast; omega), hown, hbr⟩
        | succ m2 =>
          have hi' : i + 1 ≤ rw := by have := hi.out; omega
          have ht2 : decide (x0 + (i : Int) ≤ x1) = true := decide_eq_true (by have := Hrw.out; omega)
          have hxb : x0 + (i : Int) < w := by have := Hrw.out; omega
          have H4 := H1.below hbr
          obtain ⟨a, n, cap, ps, s, Fs, HR⟩ := H4
          obtain ⟨t, ht0, ht2', hm1, hd1, hsx, hsy, hf⟩ := tile_of (f := f) (x := x0 + (i : Int)) (y := y0 + (j : Int)) d1 d3 (by omega) hxb (by omega) hyb
          rw [← HR.n_eq] at ht2'
          have HT := Lib.hid ht0
          have HF := Lib.hid hf
          clear ht0 hf hm1 hd1
          go_wp2_with fail
          refine (grid_slab_ok g F w h _ _ f _ a n cap ps s Fs HR t HT.out ht2' (by omega) (by omega) (by omega) (by omega)).mono ?_
          rintro e w5 ⟨rfl, hb5⟩
          go_wp2_with fail
          refine (grid_inner_any _ _ _ (by omega) (by omega)).mono ?_
          rintro e w6 ⟨rfl, hb6⟩
          go_wp2_with fail
          refine (slab_At_ok (s t) (Fs t) _ _ _ _ _ _ (((HR.slab t ht2').below hb5).below hb6) (by omega) hsx (by omega) hsy).mono ?_
          rw [HF.out]
          rintro e w7 ⟨rfl, hb7⟩
          have hown7 := own_below (own_below (own_below hown hb5) hb6) hb7
          have hb57 := below_next (below_next hb5 hb6) hb7
          have hbr7 : Below w3.heap.size w3 w7 := hbr.trans (hb57.mono hbr.size)
          have hsz7 := hbr7.size
          have hlen : rw * j + i < rw * rh := by
            have := Nat.mul_le_mul_left rw hj'
            rw [Nat.mul_add] at this
            omega
          clear hb5 hb6 hb7 hb57 HR cr k_0 k_1 k_2 k_3 hown
          have cr := below_blk hbr7 n1
          have k_0 := cells_w cr 0 rfl
          have k_1 := cells_w cr 1 rfl
          have k_2 := cells_w cr 2 rfl
          have k_3 := cells_w cr 3 rfl
          go_wp2_with (at_builtin; refine append_el w3.heap.size rfl (.tmp 48) (.tmp 50) 22 2 _ 1 8 rfl Try.underlying22 info_int64 rfl (by omega) _ _ _ [.int .i64 (f (x0 + (i : Int)) (y0 + (j : Int)))] rfl _ rfl rfl rfl ?_ hown7 hsz7 (by omega) (by omega) ?_)
          · intro u hu; simp at hu; subst hu; rfl
          · intro v1 w8 hown2 hb2
            have hbr8 := hbr7.trans hb2
            clear cr k_0 k_1 k_2 k_3
            have cr := below_blk hbr8 n1
            have k_0 := cells_w cr 0 rfl
            have k_1 := cells_w cr 1 rfl
            have k_2 := cells_w cr 2 rfl
            have k_3 := cells_w cr 3 rfl
            go_wp2_with fail
            go_roundg m2
            case measure => omega
            case rel =>
              refine ⟨i + 1, by have := hi.out; exact (show i + 1 + m2 = _ by omega), congrArg (Value.int .i64) (by push_cast; omega), ?_, hbr8⟩
              have e2 := vals_succ (rowG f x0 y0 rw) (rw * j + i)
              rw [rowG_at f x0 y0 (show i < rw by omega)] at e2
              rw [show rw * j + (i + 1) = rw * j + i + 1 from rfl, e2]
              exact hown2
end Go.Proofs.Ytfnflgcalhiamaa
/- fen.New; a fen's number is set. -/
set_option linter.unusedVariables false
set_option linter.unusedSimpArgs false
namespace Go.Proofs.Ytfnflgcalhiamaa
open Go.RowKit

theorem cov_le {p : Nat} : ∀ j, cov j p ≤ p
  | 0 => by show p - lb p ≤ p; omega
  | j + 1 => by
    show (if j + 1 + lb (j + 1) = p then j + 1 else cov j p) ≤ p
    split
    · omega
    · exact cov_le j
theorem valA_bd {a : Nat → Int} {A : Int} {n : Nat} (hA : 0 ≤ A) (hn : n ≤ 1024) (ha : ∀ i, 1 ≤ i → i ≤ n → -A ≤ a i ∧ a i ≤ A) {p : Nat} (h1 : 1 ≤ p) (h2 : p ≤ n) (j : Nat) : -(A * 2049) ≤ valA a j p ∧ valA a j p ≤ A * 2049 := by
  have P : ∀ k, k ≤ n → -(A * 1024) ≤ pre a k ∧ pre a k ≤ A * 1024 := fun k hk => by
    have := pre_bd hA k (fun i a1 a2 => ha i a1 (by omega))
    have m : A * (k : Int) ≤ A * 1024 := Int.mul_le_mul_of_nonneg_left (by omega) hA
    omega
  have p1 := P (p - lb p) (by omega)
  have p2 := P p h2
  have p3 := P (cov j p) (by have := cov_le (p := p) j; omega)
  have pa := ha p h1 h2
  by_cases e : j < p
  · rw [valA_eq a j p e (by omega)]
    omega
  · rw [valA_done a h1 (by omega) j (by omega)]
    unfold part
    omega
/-- Two places' numbers. -/
theorem place_inj {w x y X Y : Nat} (hx : x ≤ w) (hX : X ≤ w) (h : Y * (w + 1) + X = y * (w + 1) + x) : X = x ∧ Y = y := by
  have k : ∀ a b : Nat, b ≤ w → (a * (w + 1) + b) / (w + 1) = a ∧ (a * (w + 1) + b) % (w + 1) = b := fun a b hb => by
    rw [Nat.mul_comm]
    exact ⟨by rw [Nat.mul_add_div (by omega), Nat.div_eq_of_lt (by omega)]; rfl, by rw [Nat.mul_add_mod, Nat.mod_eq_of_lt (by omega)]⟩
  have k1 := k Y X hX
  have k2 := k y x hx
  rw [h] at k1
  omega
section
variable {W W2 : World} {b A N cap w h : Nat} {cs : Array Value} {S S' : Nat → Nat → Int} {Q : Nat → Prop}
theorem FenRaw.mod (H : FenRaw W b A N cap w h cs S) (hm : Mod Q W W2) (h1 : ¬ Q b) (h2 : ¬ Q A) : FenRaw W2 b A N cap w h cs S :=
  ⟨H.w1, H.w2, H.h1, H.h2, H.n_eq, H.cap_le, H.ne, hm.blk H.head h1, hm.blk H.row h2, H.size, H.val⟩
theorem FenRaw.congr (H : FenRaw W b A N cap w h cs S) (e : ∀ x y, 1 ≤ x → x ≤ w → 1 ≤ y → y ≤ h → S' x y = S x y) : FenRaw W b A N cap w h cs S' :=
  ⟨H.w1, H.w2, H.h1, H.h2, H.n_eq, H.cap_le, H.ne, H.head, H.row, H.size, fun x y a1 a2 a3 a4 => by rw [e x y a1 a2 a3 a4]; exact H.val x y a1 a2 a3 a4⟩
theorem FenRaw.put (H : FenRaw W b A N cap w h cs S) {x y I : Nat} (hx : x ≤ w) (hy : y ≤ h) (hI : y * (w + 1) + x = I) (v : Int) :
    FenRaw (W.setCell ⟨A, I, none⟩ (.int .i64 v)) b A N cap w h (cs.setIfInBounds I (.int .i64 v)) (fun X Y => if X = x ∧ Y = y then v else S X Y) := by
  refine ⟨H.w1, H.w2, H.h1, H.h2, H.n_eq, H.cap_le, H.ne, blk_set_ne H.head _ H.ne _, blk_set H.row _ _, by simpa using H.size, fun X Y a1 a2 a3 a4 => ?_⟩
  subst hI
  have hp := place_bd H.w2 H.h2 hx hy
  by_cases e : X = x ∧ Y = y
  · rw [if_pos e, e.1, e.2, Array.getElem?_setIfInBounds_self_of_lt (by rw [H.size, H.n_eq]; omega)]
  · rw [if_neg e, Array.getElem?_setIfInBounds_ne (fun he => e (place_inj hx a2 he.symm))]
    exact H.val X Y a1 a2 a3 a4
end
/-- A fen, new. -/
def FenNew (w h : Nat) (S : Nat → Nat → Int) (W : World) (e : Ending) (W' : World) : Prop :=
  ∃ b A, e = .returned (.tuple #[.pointer (some ⟨b, 0, none⟩), .int .i64 0]) ∧ Below W.heap.size W W' ∧ W.heap.size ≤ b ∧ W.heap.size ≤ A ∧ FenAt W' b A w h S
set_option maxHeartbeats 1000000 in
set_option maxRecDepth 100000 in
theorem fen_New_ok (w h : Nat) (W : World) (w1 : 1 ≤ w) (w2 : w ≤ 1024) (h1 : 1 ≤ h) (h2 : h ≤ 1024) :
    Calls Try.prog 25 #[.int .i64 (w : Int), .int .i64 (h : Int)] W (FenNew w h (fun _ _ => 0) W) := by
  go_enter Try.func25, Try.ntmps25
  go_wp2_with fail
  refine (within_ok 0 0 0 0 w h _ (by omega) (by omega) (by omega) (by omega) (by omega) (by omega) (by omega) (by omega) (by omega) (by omega)).mono ?_
  rintro e w2' ⟨rfl, hb⟩
  have v1 : wrap64 ((w : Int) + 1) = (w : Int) + 1 := wrap64_id (by omega) (by omega)
  have v2 : wrap64 ((h : Int) + 1) = (h : Int) + 1 := wrap64_id (by omega) (by omega)
  obtain ⟨N, hN⟩ : ∃ N, (w + 1) * (h + 1) = N := ⟨_, rfl⟩
  have hNb : N ≤ 1050625 := by
    rw [← hN]
    exact Nat.mul_le_mul (show w + 1 ≤ 1025 by omega) (show h + 1 ≤ 1025 by omega)
  have eN : ((w : Int) + 1) * ((h : Int) + 1) = (N : Int) := by rw [← hN]; push_cast; rfl
  have v3 : wrap64 (((w : Int) + 1) * ((h : Int) + 1)) = (N : Int) := by rw [eN]; exact wrap64_id (by omega) (by omega)
  have HN := Lib.hid hN
  clear hN eN
  go_wp2_with (at_make; refine make_one rfl (.tmp 20) (.tmp 20) 22 rfl 2 (.int .i64 0) 8 Try.underlying22 info_int64 rfl N (by first | rfl | exact congrArg (Value.int .i64) v3) (by first | rfl | exact congrArg (Value.int .i64) v3) (by omega) (by omega) ?_)
  go_ret2
  have hs := hb.size
  exact ⟨_, w2'.heap.size, rfl, below_next (below_next hb (below_alloc1 _ _)) (below_alloc1 _ _), by omega, hs, N, N, Array.replicate N (.int .i64 0), w1, w2, h1, h2, HN.out.symm, Nat.le_refl _, by simp, blk_new_at (by simp), below_blk (below_alloc1 _ _) (blk_new w2' _), by simp, fun x y a1 a2 a3 a4 => by
    have := place_bd w2 h2 a2 a4
    rw [HN.out] at this
    rw [Array.getElem?_replicate, if_pos (by omega)]⟩
end Go.Proofs.Ytfnflgcalhiamaa
/- fen.Of: plain. -/
set_option linter.unusedVariables false
set_option linter.unusedSimpArgs false
namespace Go.Proofs.Ytfnflgcalhiamaa
open Go.RowKit

/-- The first j values set. -/
def setS (f : Int → Int → Int) (w j x y : Nat) : Int := if (y - 1) * w + (x - 1) < j then row1 f y x else 0
theorem setS_step {f : Int → Int → Int} {w j : Nat} (hw : 1 ≤ w) {x y : Nat} (h1 : 1 ≤ x) (h2 : x ≤ w) (h3 : 1 ≤ y) : setS f w (j + 1) x y = if x = j % w + 1 ∧ y = j / w + 1 then f (0 + (j % w : Nat)) (0 + (j / w : Nat)) else setS f w j x y := by
  have hd := Nat.div_add_mod j w
  have hm := Nat.mod_lt j (show 0 < w by omega)
  rw [Nat.mul_comm] at hd
  unfold setS
  by_cases e : x = j % w + 1 ∧ y = j / w + 1
  · rw [if_pos e, e.1, e.2, Nat.add_sub_cancel, Nat.add_sub_cancel, hd, if_pos (by omega)]
    unfold row1
    congr 1 <;> (push_cast; omega)
  · rw [if_neg e]
    by_cases e2 : (y - 1) * w + (x - 1) < j
    · rw [if_pos e2, if_pos (by omega)]
    · rw [if_neg e2, if_neg]
      intro e3
      have e4 : (y - 1) * w + (x - 1) = j := by omega
      refine e ?_
      have k1 : j / w = y - 1 := by
        rw [← e4, Nat.mul_comm, Nat.mul_add_div (by omega), Nat.div_eq_of_lt (by omega)]; rfl
      have k2 : j % w = x - 1 := by
        rw [← e4, Nat.mul_comm, Nat.mul_add_mod, Nat.mod_eq_of_lt (by omega)]
      omega
theorem setS_all {f : Int → Int → Int} {w h x y : Nat} (h1 : 1 ≤ x) (h2 : x ≤ w) (h3 : 1 ≤ y) (h4 : y ≤ h) : row1 f y x = setS f w (w * h) x y := by
  unfold setS
  rw [if_pos]
  have := Nat.mul_le_mul_right w (show y - 1 + 1 ≤ h by omega)
  rw [Nat.add_mul, Nat.mul_comm h w] at this
  omega
/-- Rows up to y, in row y the first j places. -/
def rowS (f : Int → Int → Int) (y j X Y : Nat) : Int := if Y < y then part (row1 f Y) X else if Y = y then valA (row1 f Y) j X else row1 f Y X
theorem rowS_next {f : Int → Int → Int} {w y X Y : Nat} (hw : w ≤ 1024) (h1 : 1 ≤ X) (h2 : X ≤ w) : rowS f (y + 1) 0 X Y = rowS f y w X Y := by
  unfold rowS
  by_cases e : Y < y
  · rw [if_pos e, if_pos (by omega)]
  · rw [if_neg e]
    by_cases e2 : Y = y
    · rw [if_pos e2, if_pos (by omega), valA_done _ h1 (by omega) _ (by omega)]
    · rw [if_neg e2, if_neg (by omega)]
      by_cases e3 : Y = y + 1
      · rw [if_pos e3]; rfl
      · rw [if_neg e3]
theorem rowS_same {f : Int → Int → Int} {w y j X Y : Nat} (h2 : X ≤ w) (hu : w < j + 1 + lb (j + 1)) : rowS f y (j + 1) X Y = rowS f y j X Y := by
  unfold rowS
  rw [valA_succ, if_neg (show ¬ j + 1 + lb (j + 1) = X by omega)]
theorem rowS_step {f : Int → Int → Int} {y j X Y : Nat} : rowS f y (j + 1) X Y = if X = j + 1 + lb (j + 1) ∧ Y = y then rowS f y j (j + 1 + lb (j + 1)) y + rowS f y j (j + 1) y else rowS f y j X Y := by
  unfold rowS
  by_cases e : Y < y
  · rw [if_pos e, if_neg (show ¬ (X = _ ∧ Y = y) by omega), if_pos e]
  · rw [if_neg e, if_neg e]
    by_cases e2 : Y = y
    · subst e2
      rw [if_pos rfl, if_pos rfl, if_neg (show ¬ Y < Y by omega), if_pos rfl, if_neg (show ¬ Y < Y by omega), if_pos rfl, valA_succ]
      by_cases e3 : X = j + 1 + lb (j + 1)
      · rw [if_pos e3.symm, if_pos ⟨e3, rfl⟩, e3]
      · rw [if_neg (fun z => e3 z.symm), if_neg (fun z => e3 z.1)]
    · rw [if_neg e2, if_neg e2, if_neg (fun z => e2 z.2)]
theorem rowS_step2 {f : Int → Int → Int} {y x X Y : Nat} (h : 1 ≤ x) : rowS f y x X Y = if X = x + lb x ∧ Y = y then rowS f y (x - 1) (x + lb x) y + rowS f y (x - 1) x y else rowS f y (x - 1) X Y := by
  obtain ⟨j, rfl⟩ : ∃ j, x = j + 1 := ⟨x - 1, by omega⟩
  rw [Nat.add_sub_cancel]
  exact rowS_step
theorem rowS_same2 {f : Int → Int → Int} {w y x X Y : Nat} (h : 1 ≤ x) (h2 : X ≤ w) (hu : w < x + lb x) : rowS f y x X Y = rowS f y (x - 1) X Y := by
  obtain ⟨j, rfl⟩ : ∃ j, x = j + 1 := ⟨x - 1, by omega⟩
  rw [Nat.add_sub_cancel]
  exact rowS_same h2 hu
theorem up_go {x u : Nat} (h1 : 1 ≤ x) (h2 : x ≤ 1024) (hu : x + lb x = u) : wrap64 (-(x : Int)) = -(x : Int) ∧ wrap64 ((x : Int) + bits .and .i64 (x : Int) (-(x : Int))) = (u : Int) := by
  have b := lb_bd h1 h2
  refine ⟨wrap64_id (by omega) (by omega), ?_⟩
  rw [low_go h1 h2, wrap64_id (by omega) (by omega)]
  omega
/-- Columns: rows up to j handed on, of row j + 1 the first i places. -/
def colS (f : Int → Int → Int) (j i X Y : Nat) : Int := if X ≤ i then valA (fun Y => part (row1 f Y) X) (j + 1) Y else valA (fun Y => part (row1 f Y) X) j Y
theorem colS_zero {f : Int → Int → Int} {X Y : Nat} (h : 1 ≤ X) : colS f 0 0 X Y = part (row1 f Y) X := by
  unfold colS
  rw [if_neg (by omega)]; rfl
theorem colS_next {f : Int → Int → Int} {w j X Y : Nat} (h1 : 1 ≤ X) (h2 : X ≤ w) : colS f (j + 1) 0 X Y = colS f j w X Y := by
  unfold colS
  rw [if_neg (by omega), if_pos h2]
theorem colS_same {f : Int → Int → Int} {h j X Y : Nat} (h1 : 1 ≤ X) (h2 : Y ≤ h) (hu : h < j + 1 + lb (j + 1)) : colS f (j + 1) 0 X Y = colS f j 0 X Y := by
  unfold colS
  rw [if_neg (by omega), if_neg (by omega), valA_succ, if_neg (show ¬ j + 1 + lb (j + 1) = Y by omega)]
theorem colS_step {f : Int → Int → Int} {j i X Y : Nat} : colS f j (i + 1) X Y = if X = i + 1 ∧ Y = j + 1 + lb (j + 1) then colS f j i (i + 1) (j + 1 + lb (j + 1)) + colS f j i (i + 1) (j + 1) else colS f j i X Y := by
  unfold colS
  rw [if_neg (show ¬ i + 1 ≤ i by omega), if_neg (show ¬ i + 1 ≤ i by omega)]
  by_cases e : X = i + 1
  · subst e
    rw [if_pos (Nat.le_refl _), if_neg (show ¬ i + 1 ≤ i by omega), valA_succ]
    by_cases e2 : Y = j + 1 + lb (j + 1)
    · rw [if_pos e2.symm, if_pos ⟨rfl, e2⟩, e2]
    · rw [if_neg (fun z => e2 z.symm), if_neg (fun z => e2 z.2)]
  · rw [if_neg (show ¬ (X = i + 1 ∧ _) from fun z => e z.1)]
    by_cases e3 : X ≤ i
    · rw [if_pos e3, if_pos (by omega)]
    · rw [if_neg e3, if_neg (by omega)]
theorem colS_next2 {f : Int → Int → Int} {w y X Y : Nat} (h : 1 ≤ y) (h1 : 1 ≤ X) (h2 : X ≤ w) : colS f y 0 X Y = colS f (y - 1) w X Y := by
  obtain ⟨j, rfl⟩ : ∃ j, y = j + 1 := ⟨y - 1, by omega⟩
  exact colS_next h1 h2
theorem colS_same2 {f : Int → Int → Int} {h y X Y : Nat} (hy : 1 ≤ y) (h1 : 1 ≤ X) (h2 : Y ≤ h) (hu : h < y + lb y) : colS f y 0 X Y = colS f (y - 1) 0 X Y := by
  obtain ⟨j, rfl⟩ : ∃ j, y = j + 1 := ⟨y - 1, by omega⟩
  exact colS_same h1 h2 hu
theorem colS_step2 {f : Int → Int → Int} {y x X Y : Nat} (hy : 1 ≤ y) (hx : 1 ≤ x) : colS f (y - 1) x X Y = if X = x ∧ Y = y + lb y then colS f (y - 1) (x - 1) x (y + lb y) + colS f (y - 1) (x - 1) x y else colS f (y - 1) (x - 1) X Y := by
  obtain ⟨j, rfl⟩ : ∃ j, y = j + 1 := ⟨y - 1, by omega⟩
  obtain ⟨i, rfl⟩ : ∃ i, x = i + 1 := ⟨x - 1, by omega⟩
  exact colS_step
theorem colS_done {f : Int → Int → Int} {h X Y : Nat} (h2 : h ≤ 1024) (h1 : 1 ≤ X) (h3 : 1 ≤ Y) (h4 : Y ≤ h) : fenS f X Y = colS f h 0 X Y := by
  unfold colS
  rw [if_neg (by omega), valA_done _ h3 (by omega) _ (by omega)]
  rfl
theorem rows_bd {f : Int → Int → Int} {w h : Nat} (hB : FenB f w h) (hw : w ≤ 1024) {y j X : Nat} (h1 : 1 ≤ X) (h2 : X ≤ w) (h3 : 1 ≤ y) (h4 : y ≤ h) : -9007199254740992 ≤ rowS f y j X y ∧ rowS f y j X y ≤ 9007199254740992 := by
  have := valA_bd (a := row1 f y) (A := 4294967296) (n := w) (by omega) hw (fun i a1 a2 => by unfold row1; exact hB _ _ (by omega) (by omega) (by omega) (by omega)) h1 h2 j
  unfold rowS
  rw [if_neg (show ¬ y < y by omega), if_pos rfl]
  omega
theorem cols_bd {f : Int → Int → Int} {w h : Nat} (hB : FenB f w h) (hw : w ≤ 1024) (hh : h ≤ 1024) {j i X Y : Nat} (h1 : 1 ≤ X) (h2 : X ≤ w) (h3 : 1 ≤ Y) (h4 : Y ≤ h) : -36028797018963968 ≤ colS f j i X Y ∧ colS f j i X Y ≤ 36028797018963968 := by
  have k : ∀ j, -(8796093022208 * 2049) ≤ valA (fun Y => part (row1 f Y) X) j Y ∧ valA (fun Y => part (row1 f Y) X) j Y ≤ 8796093022208 * 2049 := fun j =>
    valA_bd (a := fun Y => part (row1 f Y) X) (A := 8796093022208) (n := h) (by omega) hh (fun i a1 a2 => by
      have b1 := row_bd hB hw (x := X) (y := i) h2 a1 a2
      have b2 := row_bd hB hw (x := X - lb X) (y := i) (by omega) a1 a2
      show _ ≤ part (row1 f i) X ∧ part (row1 f i) X ≤ _
      unfold part
      omega) h3 h4 j
  unfold colS
  have k1 := k j
  have k2 := k (j + 1)
  split <;> omega
end Go.Proofs.Ytfnflgcalhiamaa

/- grid.Values. -/
import Derived.Test.YtcomnpmkedabeaaDoorGridAt
import Derived.Test.YtcomnpmkedabeaaDoorRoom
import Derived.Deep.LoopGhost
set_option linter.unusedVariables false
set_option linter.unusedSimpArgs false
namespace Go.Proofs.YtcomnpmkedabeaaDoor
open Go.RowKit

/-- The i-th value of a rectangle, row by row. -/
def rowG (f : Int → Int → Int) (x0 y0 : Int) (rw : Nat) (i : Nat) : Int := f (x0 + (i % rw : Nat)) (y0 + (i / rw : Nat))
theorem rowG_at (f : Int → Int → Int) (x0 y0 : Int) {rw j i : Nat} (h : i < rw) : rowG f x0 y0 rw (rw * j + i) = f (x0 + (i : Int)) (y0 + (j : Int)) := by
  unfold rowG
  rw [Nat.mul_add_mod, Nat.mod_eq_of_lt h, Nat.mul_add_div (by omega), Nat.div_eq_of_lt h, Nat.add_zero]
/-- Values, as a row of whole numbers in new memory. -/
def ValuesOut (W : World) (n : Nat) (g : Nat → Int) (e : Ending) (W' : World) : Prop :=
  ∃ k cap cs, e = .returned (.tuple #[.slice (some ⟨k, 0, none⟩) n cap, .int .i64 0]) ∧ n ≤ cap ∧ W.heap.size ≤ k ∧ Below W.heap.size W W' ∧ W'.heap[k]? = some (.cells cs 2 (0, 0)) ∧ ∀ i, i < n → cs[i]? = some (.int .i64 (g i))

set_option maxHeartbeats 2000000 in
set_option maxRecDepth 100000 in
theorem grid_Values_ok (g : Nat) (F : Nat → Prop) (w h x0 y0 x1 y1 : Int) (f : Int → Int → Int) (W : World) (H : GridAt W g F w h f) (a0 : 0 ≤ x0) (a1 : x0 ≤ x1) (a2 : x1 < w) (a3 : 0 ≤ y0) (a4 : y0 ≤ y1) (a5 : y1 < h)
    (rw rh : Nat) (hrw : (rw : Int) = x1 - x0 + 1) (hrh : (rh : Int) = y1 - y0 + 1) :
    Calls Tryd.prog 44 #[.pointer (some ⟨g, 0, none⟩), .agg #[.int .i64 x0, .int .i64 y0, .int .i64 x1, .int .i64 y1]] W (ValuesOut W (rw * rh) (rowG f x0 y0 rw)) := by
  obtain ⟨d1, d2, d3, d4⟩ := H.dims
  go_enter Tryd.func44, Tryd.ntmps44
  go_wp2_with fail
  have n1 := blk_new W (.cells #[.int .i64 x0, .int .i64 y0, .int .i64 x1, .int .i64 y1] 73)
  have H1 := H.below (below_alloc1 W (.cells #[.int .i64 x0, .int .i64 y0, .int .i64 x1, .int .i64 y1] 73))
  have hB := below_alloc1 W (.cells #[.int .i64 x0, .int .i64 y0, .int .i64 x1, .int .i64 y1] 73)
  refine (grid_check_any g F w h _ _ _ _ f _ H1).mono ?_
  simp only [withinC_ok.2 ⟨a0, a1, a2, a3, a4, a5⟩]
  rintro e w2 ⟨rfl, hb⟩
  replace n1 := below_blk hb n1
  replace H1 := H1.below hb
  replace hB := below_next hB hb
  clear hb
  have j_0 := cells_w n1 0 rfl
  have j_1 := cells_w n1 1 rfl
  have j_2 := cells_w n1 2 rfl
  have j_3 := cells_w n1 3 rfl
  go_wp2_with fail
  refine (area_ok x0 y0 x1 y1 w2 a0 a1 (by omega) a3 a4 (by omega)).mono ?_
  rintro e w3 ⟨rfl, hb⟩
  replace n1 := below_blk hb n1
  replace H1 := H1.below hb
  replace hB := below_next hB hb
  clear hb j_0 j_1 j_2 j_3
  have harea : (x1 - x0 + 1) * (y1 - y0 + 1) = ((rw * rh : Nat) : Int) := by rw [← hrw, ← hrh]; push_cast; rfl
  rw [harea]
  have hm := Nat.mul_le_mul (show rw ≤ 1024 by omega) (show rh ≤ 1024 by omega)
  have Hrw := Lib.hid hrw
  have Hrh := Lib.hid hrh
  clear hrw hrh harea H
  go_wp2_with (at_make; refine make_room rfl (.const (.int .i64 0)) (.tmp 19) 22 rfl 2 (.int .i64 0) 1 8 Tryd.underlying22 info_int64 (rw * rh) rfl rfl (by omega) (by omega) ?_)
  intro v0 w4 hown hb
  have hbs := hB.size
  have n4 := below_blk hb n1
  have j_0 := cells_w n4 0 rfl
  have j_1 := cells_w n4 1 rfl
  have j_2 := cells_w n4 2 rfl
  have j_3 := cells_w n4 3 rfl
  go_wp2_with fail
  clear j_0 j_1 j_2 j_3 n4
  go_loopg [7, 8] rh (fun k v7 v8 wr => ∃ j : Nat, Hid (j + k = rh) ∧ v8 = .int .i64 (y0 + (j : Int)) ∧ wr.ownsRow w3.heap.size 2 1 v7 (rw * j) (vals (rowG f x0 y0 rw) (rw * j)) ∧ Below w3.heap.size w3 wr)
  case atStart => exact ⟨0, Nat.zero_add _, by simp, by simpa [vals] using hown, hb⟩
  case round =>
    clear hown hb
    obtain ⟨j, hj, rfl, hown, hbr⟩ := hrel
    have cr := below_blk hbr n1
    have k_0 := cells_w cr 0 rfl
    have k_1 := cells_w cr 1 rfl
    have k_2 := cells_w cr 2 rfl
    have k_3 := cells_w cr 3 rfl
    cases gk with
    | zero =>
      have ht : decide (y0 + (j : Int) ≤ y1) = false := decide_eq_false (by have := Hrh.out; have := hj.out; omega)
      go_wp2_with fail
      go_ret2
      have ej : j = rh := hj.out
      subst ej
      obtain ⟨k, cap, cs, hv, hc1, hc2, hc3, hc4⟩ := own_row hown (by have := Nat.mul_le_mul (show 1 ≤ rw by have := Hrw.out; omega) (show 1 ≤ j by have := Hrh.out; omega); omega)
      subst hv
      exact ⟨k, cap, cs, rfl, hc1, by omega, hB.trans (hbr.mono hbs), hc3, fun i hi => hc4 i _ (vals_get _ hi)⟩
    | succ m =>
      have ht : decide (y0 + (j : Int) ≤ y1) = true := decide_eq_true (by have := Hrh.out; have := hj.out; omega)
      have hj' : j + 1 ≤ rh := by have := hj.out; omega
      have hyb : y0 + (j : Int) < h := by have := Hrh.out; omega
      go_wp2_with fail
      clear cr k_0 k_1 k_2 k_3
      go_loopg [7, 9] rw (fun k v7 v9 wi => ∃ i : Nat, Hid (i + k = rw) ∧ v9 = .int .i64 (x0 + (i : Int)) ∧ wi.ownsRow w3.heap.size 2 1 v7 (rw * j + i) (vals (rowG f x0 y0 rw) (rw * j + i)) ∧ Below w3.heap.size w3 wi)
      case atStart => exact ⟨0, Nat.zero_add _, by simp, hown, hbr⟩
      case round =>
        clear hown hbr
        obtain ⟨i, hi, rfl, hown, hbr⟩ := hrel
        have cr := below_blk hbr n1
        have k_0 := cells_w cr 0 rfl
        have k_1 := cells_w cr 1 rfl
        have k_2 := cells_w cr 2 rfl
        have k_3 := cells_w cr 3 rfl
        cases gk with
        | zero =>
          have ht2 : decide (x0 + (i : Int) ≤ x1) = false := decide_eq_false (by have := Hrw.out; have := hi.out; omega)
          go_wp2_with fail
          go_roundg m
          case measure => omega
          case rel =>
            have e : i = rw := hi.out
            subst e
            exact ⟨j + 1, by have := hj.out; exact (show j + 1 + m = _ by omega), congrArg (Value.int .i64) (by push_cast; omega), hown, hbr⟩
        | succ m2 =>
          have hi' : i + 1 ≤ rw := by have := hi.out; omega
          have ht2 : decide (x0 + (i : Int) ≤ x1) = true := decide_eq_true (by have := Hrw.out; omega)
          have hxb : x0 + (i : Int) < w := by have := Hrw.out; omega
          have H4 := H1.below hbr
          obtain ⟨a, n, cap, ps, s, Fs, HR⟩ := H4
          obtain ⟨t, ht0, ht2', hm1, hd1, hsx, hsy, hf⟩ := tile_of (f := f) (x := x0 + (i : Int)) (y := y0 + (j : Int)) d1 d3 (by omega) hxb (by omega) hyb
          rw [← HR.n_eq] at ht2'
          have HT := Lib.hid ht0
          have HF := Lib.hid hf
          clear ht0 hf hm1 hd1
          go_wp2_with fail
          refine (grid_slab_ok g F w h _ _ f _ a n cap ps s Fs HR t HT.out ht2' (by omega) (by omega) (by omega) (by omega)).mono ?_
          rintro e w5 ⟨rfl, hb5⟩
          go_wp2_with fail
          refine (grid_inner_any _ _ _ (by omega) (by omega)).mono ?_
          rintro e w6 ⟨rfl, hb6⟩
          go_wp2_with fail
          refine (slab_At_ok (s t) (Fs t) _ _ _ _ _ _ (((HR.slab t ht2').below hb5).below hb6) (by omega) hsx (by omega) hsy).mono ?_
          rw [HF.out]
          rintro e w7 ⟨rfl, hb7⟩
          have hown7 := own_below (own_below (own_below hown hb5) hb6) hb7
          have hb57 := below_next (below_next hb5 hb6) hb7
          have hbr7 : Below w3.heap.size w3 w7 := hbr.trans (hb57.mono hbr.size)
          have hsz7 := hbr7.size
          have hlen : rw * j + i < rw * rh := by
            have := Nat.mul_le_mul_left rw hj'
            rw [Nat.mul_add] at this
            omega
          clear hb5 hb6 hb7 hb57 HR cr k_0 k_1 k_2 k_3 hown
          have cr := below_blk hbr7 n1
          have k_0 := cells_w cr 0 rfl
          have k_1 := cells_w cr 1 rfl
          have k_2 := cells_w cr 2 rfl
          have k_3 := cells_w cr 3 rfl
          go_wp2_with (at_builtin; refine append_el w3.heap.size rfl (.tmp 48) (.tmp 50) 22 2 _ 1 8 rfl Tryd.underlying22 info_int64 rfl (by omega) _ _ _ [.int .i64 (f (x0 + (i : Int)) (y0 + (j : Int)))] rfl _ rfl rfl rfl ?_ hown7 hsz7 (by omega) (by omega) ?_)
          · intro u hu; simp at hu; subst hu; rfl
          · intro v1 w8 hown2 hb2
            have hbr8 := hbr7.trans hb2
            clear cr k_0 k_1 k_2 k_3
            have cr := below_blk hbr8 n1
            have k_0 := cells_w cr 0 rfl
            have k_1 := cells_w cr 1 rfl
            have k_2 := cells_w cr 2 rfl
            have k_3 := cells_w cr 3 rfl
            go_wp2_with fail
            go_roundg m2
            case measure => omega
            case rel =>
              refine ⟨i + 1, by have := hi.out; exact (show i + 1 + m2 = _ by omega), congrArg (Value.int .i64) (by push_cast; omega), ?_, hbr8⟩
              have e2 := vals_succ (rowG f x0 y0 rw) (rw * j + i)
              rw [rowG_at f x0 y0 (show i < rw by omega)] at e2
              rw [show rw * j + (i + 1) = rw * j + i + 1 from rfl, e2]
              exact hown2
end Go.Proofs.YtcomnpmkedabeaaDoor

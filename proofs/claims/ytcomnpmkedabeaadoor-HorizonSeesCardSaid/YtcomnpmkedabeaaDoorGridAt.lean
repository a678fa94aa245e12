/- grid.At. -/
import Derived.Test.YtcomnpmkedabeaaDoorGrid
import Derived.Test.YtcomnpmkedabeaaDoorSlabAt
set_option linter.unusedVariables false
set_option linter.unusedSimpArgs false
namespace Go.Proofs.YtcomnpmkedabeaaDoor
open Go.RowKit

set_option maxHeartbeats 1000000 in
theorem grid_At_ok (g : Nat) (F : Nat → Prop) (w h x y : Int) (f : Int → Int → Int) (W : World) (H : GridAt W g F w h f) (hx : 0 ≤ x) (hx2 : x < w) (hy : 0 ≤ y) (hy2 : y < h) :
    Calls Tryd.prog 35 #[.pointer (some ⟨g, 0, none⟩), .agg #[.int .i64 x, .int .i64 y]] W fun e W' => e = .returned (.tuple #[.int .i64 (f x y), .int .i64 0]) ∧ Below W.heap.size W W' := by
  obtain ⟨d1, d2, d3, d4⟩ := H.dims
  go_enter Tryd.func35, Tryd.ntmps35
  go_wp2_with fail
  have n1 := blk_new W (.cells #[.int .i64 x, .int .i64 y] 24)
  have H1 := H.below (below_alloc1 W (.cells #[.int .i64 x, .int .i64 y] 24))
  have hB := below_alloc1 W (.cells #[.int .i64 x, .int .i64 y] 24)
  refine (grid_spot_any _ _ _).mono ?_
  rintro e w1 ⟨rfl, hb⟩
  replace n1 := below_blk hb n1
  replace H1 := H1.below hb
  replace hB := below_next hB hb
  clear hb
  go_wp2_with fail
  refine (grid_check_any g F w h _ _ _ _ f _ H1).mono ?_
  rw [withinC_ok.2 ⟨hx, Int.le_refl _, hx2, hy, Int.le_refl _, hy2⟩]
  rintro e w2 ⟨rfl, hb⟩
  replace n1 := below_blk hb n1
  replace H1 := H1.below hb
  replace hB := below_next hB hb
  clear hb
  go_wp2_with fail
  obtain ⟨a, n, cap, ps, s, Fs, HR⟩ := H1
  obtain ⟨i, hi, hi2, hm, hd, hsx, hsy, hf⟩ := tile_of (f := f) d1 d3 hx hx2 hy hy2
  rw [← HR.n_eq] at hi2
  have j_0 := cells_q n1 0 rfl
  have j_1 := cells_q n1 1 rfl
  have HI := Lib.hid hi
  have HF := Lib.hid hf
  clear hi hf hm hd
  refine wp_quiet (by kernel_rfl) (by kernel_rfl) ?_
  repeat (go_big_quiet_step ((first | (go_at_call 57; exact Calls.quiet (grid_slab_ok g F w h x y f _ a n cap ps s Fs (HR.below (below_regrown w2 _ _)) i HI.out hi2 hx (by omega) hy (by omega))) | (go_at_call 56; exact Calls.quiet (grid_inner_any x y _ hx hy)) | (go_at_call 59; exact Calls.quiet (slab_At_ok (s i) (Fs i) _ _ (x % 16) (y % 16) _ _ ((HR.slab i hi2).below (below_regrown w2 _ _)) (by omega) hsx (by omega) hsy)))))
  refine wpQuiet_nil ?_
  intro w3 hb3
  clear j_0 j_1
  go_wp2_with fail
  go_ret2
  exact ⟨ret2_int HF.out, below_next hB hb3⟩
end Go.Proofs.YtcomnpmkedabeaaDoor

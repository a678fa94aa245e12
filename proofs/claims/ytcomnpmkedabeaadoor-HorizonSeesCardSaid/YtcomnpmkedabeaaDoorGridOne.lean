/- grid.Set. -/
import Derived.Test.YtcomnpmkedabeaaDoorGridFill
set_option linter.unusedVariables false
set_option linter.unusedSimpArgs false
namespace Go.Proofs.YtcomnpmkedabeaaDoor
open Go.RowKit

theorem GridFilled.after {g : Nat} {F : Nat → Prop} {w h : Int} {f : Int → Int → Int} {W W1 : World} {e : Ending} {W' : World} (hb : Below W.heap.size W W1) (hF : ∀ k, F k → k < W.heap.size) (hf : GridFilled g F w h f W1 e W') : GridFilled g F w h f W e W' := by
  obtain ⟨F', h1, h2, h3, h4⟩ := hf
  refine ⟨F', h1, (Mod.of_below (S := F) hb).trans h2 (fun _ x => .inl x), fun k hk => (h3 k hk).imp id (fun h => by have := hb.size; omega), h4⟩
theorem grid_Set_ok (g : Nat) (F : Nat → Prop) (w h x y v : Int) (f : Int → Int → Int) (W : World) (H : GridAt W g F w h f) (a0 : 0 ≤ x) (a1 : x < w) (a2 : 0 ≤ y) (a3 : y < h) (v1 : -2147483648 ≤ v) (v2 : v ≤ 2147483647) :
    Calls Tryd.prog 18 #[.pointer (some ⟨g, 0, none⟩), .agg #[.int .i64 x, .int .i64 y], .int .i64 v] W (GridFilled g F w h (fillF f x y x y v) W) := by
  go_enter Tryd.func18, Tryd.ntmps18
  go_wp2_with fail
  have H1 := H.below (below_alloc1 W (.cells #[.int .i64 x, .int .i64 y] 24))
  have hB := below_alloc1 W (.cells #[.int .i64 x, .int .i64 y] 24)
  refine (grid_spot_any _ _ _).mono ?_
  rintro e w1 ⟨rfl, hb⟩
  replace H1 := H1.below hb
  replace hB := below_next hB hb
  clear hb
  go_wp2_with fail
  refine (grid_Fill_ok g F w h x y x y v f w1 H1 a0 (Int.le_refl _) a1 a2 (Int.le_refl _) a3 v1 v2).mono ?_
  intro e w2 hf
  have hf' := hf.after hB H.lt
  obtain ⟨F', rfl, h2, h3, h4⟩ := hf'
  go_wp2_with fail
  go_ret
  exact ⟨F', rfl, h2, h3, h4⟩
end Go.Proofs.YtcomnpmkedabeaaDoor

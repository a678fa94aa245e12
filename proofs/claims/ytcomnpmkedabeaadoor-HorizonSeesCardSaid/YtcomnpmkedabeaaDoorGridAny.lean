/- grid.At, of any cell: its value, or no place. -/
import Derived.Test.YtcomnpmkedabeaaDoorGridAt
set_option linter.unusedVariables false
set_option linter.unusedSimpArgs false
namespace Go.Proofs.YtcomnpmkedabeaaDoor
open Go.RowKit

/-- Is a cell in a size? -/
def inG (w h x y : Int) : Prop := 0 ≤ x ∧ x < w ∧ 0 ≤ y ∧ y < h
instance (w h x y : Int) : Decidable (inG w h x y) := by unfold inG; infer_instance
def atV (f : Int → Int → Int) (w h x y : Int) : Int := if inG w h x y then f x y else 0
def atC (w h x y : Int) : Int := if inG w h x y then 0 else 4
theorem atV_in {f : Int → Int → Int} {w h x y : Int} (H : inG w h x y) : atV f w h x y = f x y := if_pos H
theorem atC_in {w h x y : Int} (H : inG w h x y) : atC w h x y = 0 := if_pos H
theorem atV_out {f : Int → Int → Int} {w h x y : Int} (H : ¬ inG w h x y) : atV f w h x y = 0 := if_neg H
theorem atC_out {w h x y : Int} (H : ¬ inG w h x y) : atC w h x y = 4 := if_neg H

set_option maxHeartbeats 1000000 in
theorem grid_At_any (g : Nat) (F : Nat → Prop) (w h x y : Int) (f : Int → Int → Int) (W : World) (H : GridAt W g F w h f) :
    Calls Tryd.prog 35 #[.pointer (some ⟨g, 0, none⟩), .agg #[.int .i64 x, .int .i64 y]] W fun e W' => e = .returned (.tuple #[.int .i64 (atV f w h x y), .int .i64 (atC w h x y)]) ∧ Below W.heap.size W W' := by
  by_cases hin : inG w h x y
  · rw [atV_in hin, atC_in hin]
    exact grid_At_ok g F w h x y f W H hin.1 hin.2.1 hin.2.2.1 hin.2.2.2
  · rw [atV_out hin, atC_out hin]
    have hc : withinC x y x y w h = 4 := by
      unfold withinC
      rw [if_neg (fun z => hin ⟨z.1, z.2.1, z.2.2.2.2.1, z.2.2.2.2.2.1⟩)]
    clear hin
    go_enter Tryd.func35, Tryd.ntmps35
    go_wp2_with fail
    have H1 := H.below (below_alloc1 W (.cells #[.int .i64 x, .int .i64 y] 24))
    have hB := below_alloc1 W (.cells #[.int .i64 x, .int .i64 y] 24)
    refine (grid_spot_any _ _ _).mono ?_
    rintro e w1 ⟨rfl, hb⟩
    replace H1 := H1.below hb
    replace hB := below_next hB hb
    clear hb
    go_wp2_with fail
    refine (grid_check_any g F w h _ _ _ _ f _ H1).mono ?_
    rw [hc]
    rintro e w2 ⟨rfl, hb⟩
    replace hB := below_next hB hb
    go_wp2_with fail
    go_ret2
    exact ⟨rfl, hB⟩
end Go.Proofs.YtcomnpmkedabeaaDoor

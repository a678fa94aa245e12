/- hachurelaw48.awake: the chapter's example. -/
import Derived.Test.YtcomnpmkedabeaaDoorHorSteep
import Derived.Test.YtcomnpmkedabeaaDoorPaste
set_option linter.unusedVariables false
set_option linter.unusedSimpArgs false
namespace Go.Proofs.YtcomnpmkedabeaaDoor
open Go.RowKit

def ex023 : Nat → Int := fun i => if i = 0 then 0 else if i = 1 then 2 else 3
set_option maxHeartbeats 2000000 in
set_option maxRecDepth 100000 in
theorem awake48_ok (W : World) (hst : StepsAt W) : Calls Tryd.prog 6 #[] W fun e W' => e = .returned (.bool true) ∧ Below W.heap.size W W' := by
  go_enter Tryd.func6, Tryd.ntmps6
  go_wp2_with fail
  have n1 := blk_new W (.cells #[.int .i64 0, .int .i64 2, .int .i64 3] 2)
  have hrow : RowAt (W.alloc (.cells #[.int .i64 0, .int .i64 2, .int .i64 3] 2)) ⟨W.heap.size, 0, none⟩ (3 * 1) ex023 := RowAt.of_blk n1 (fun i hi => by
    rcases (by omega : i = 0 ∨ i = 1 ∨ i = 2) with rfl | rfl | rfl <;> rfl)
  refine (paint_From_ok 3 1 _ (by omega) (by omega) (by omega) (by omega) ⟨W.heap.size, 0, none⟩ 3 ex023 (fun j hj => by unfold ex023; split <;> (try split) <;> omega) hrow).mono ?_
  rintro e w2 ⟨g, F, rfl, hb, hF, HG⟩
  have hB := below_next (below_alloc1 W _) hb
  clear hb hrow n1
  go_wp2_with fail
  have hr : Run ((3 : Nat) : Int) ((1 : Nat) : Int) 0 0 (dX 2) (dY 2) 2 := ⟨fun i hi => by
    rcases (by omega : i = 0 ∨ i = 1 ∨ i = 2) with rfl | rfl | rfl <;> decide, by decide⟩
  refine (hor_steep_ok g F _ _ 0 0 0 2 2 _ w2 HG (fun x y _ => by unfold ex023; split <;> (try split) <;> omega) (hst.below hB) (by decide) (by omega) hr).mono ?_
  rintro e w3 ⟨rfl, hb⟩
  have e1 : best (rise (fun x y => ex023 ((y * ((3 : Nat) : Int) + x).toNat)) 0 0 (dX 2) (dY 2) ((fun x y => ex023 ((y * ((3 : Nat) : Int) + x).toNat)) 0 0 + 0)) 2 = 1 := by decide +kernel
  have e2 : bUp (fun x y => ex023 ((y * ((3 : Nat) : Int) + x).toNat)) 0 0 (dX 2) (dY 2) ((fun x y => ex023 ((y * ((3 : Nat) : Int) + x).toNat)) 0 0 + 0) 2 = 2 := by decide +kernel
  have e3 : bAt (rise (fun x y => ex023 ((y * ((3 : Nat) : Int) + x).toNat)) 0 0 (dX 2) (dY 2) ((fun x y => ex023 ((y * ((3 : Nat) : Int) + x).toNat)) 0 0 + 0)) 0 (dX 2) 2 = 1 := by decide +kernel
  have e4 : bAt (rise (fun x y => ex023 ((y * ((3 : Nat) : Int) + x).toNat)) 0 0 (dX 2) (dY 2) ((fun x y => ex023 ((y * ((3 : Nat) : Int) + x).toNat)) 0 0 + 0)) 0 (dY 2) 2 = 0 := by decide +kernel
  rw [e1, e2, e3, e4]
  clear e1 e2 e3 e4 hr
  have hB3 := below_next hB hb
  clear hb hB HG hF
  go_wp2_with fail
  go_ret
  exact ⟨rfl, below_alloc (below_alloc hB3 _) _⟩
end Go.Proofs.YtcomnpmkedabeaaDoor

/- hachurelaw18.awake: the chapter's example. -/
import Derived.Test.YtgofkgmhpnkchaaDownBad
set_option linter.unusedVariables false
set_option linter.unusedSimpArgs false
namespace Go.Proofs.Ytgofkgmhpnkchaa
open Go.RowKit

def ex2 : Nat → Int := fun i => if i = 0 then 3 else 4
set_option maxHeartbeats 2000000 in
set_option maxRecDepth 100000 in
theorem awake18_ok (W : World) : Calls Try.prog 23 #[] W fun e W' => e = .returned (.bool true) ∧ Below W.heap.size W W' := by
  go_enter Try.func23, Try.ntmps23
  go_wp2_with fail
  have n1 := blk_new W (.cells #[.int .i64 3, .int .i64 4] 2)
  have hrow : RowAt (W.alloc (.cells #[.int .i64 3, .int .i64 4] 2)) ⟨W.heap.size, 0, none⟩ (2 * 1) ex2 := RowAt.of_blk n1 (fun i hi => by
    rcases (by omega : i = 0 ∨ i = 1) with rfl | rfl <;> rfl)
  refine (paint_From_ok 2 1 _ (by omega) (by omega) (by omega) (by omega) ⟨W.heap.size, 0, none⟩ 2 ex2 (fun j hj => by unfold ex2; split <;> omega) hrow).mono ?_
  rintro e w2 ⟨g, F, rfl, hb, hF, HG⟩
  have hB := below_next (below_alloc1 W _) hb
  clear hb hrow n1
  go_wp2_with fail
  refine (level_2 g F _ _ 1 _ w2 HG (by decide +kernel) (fun x y _ _ _ _ => by unfold ex2; split <;> omega)).mono ?_
  rintro e w3 ⟨g2, F2, rfl, hb, hF2, HG2⟩
  replace hB := below_next hB hb
  clear hb HG
  go_wp2_with fail
  refine (grid_At_ok g2 F2 _ _ 0 0 _ w3 HG2 (by omega) (by decide +kernel) (by omega) (by decide +kernel)).mono ?_
  rw [show downF 2 (fun x y => ex2 ((y * ((2 : Nat) : Int) + x).toNat)) ((2 : Nat) : Int) ((1 : Nat) : Int) 1 0 0 = 3 from by decide +kernel]
  rintro e w4 ⟨rfl, hb⟩
  replace hB := below_next hB hb
  go_wp2_with fail
  go_ret
  exact ⟨rfl, hB⟩
end Go.Proofs.Ytgofkgmhpnkchaa

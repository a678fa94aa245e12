/- What the listed variable (the table of steps) gives the walks; the door's own heap meets the condition. -/
import Derived.Test.YtcomnpmkedabeaaDoorRows
import Derived.Test.YtcomnpmkedabeaaDoorHorSteep
import Derived.ProofKit
import Derived.LaidMore
import Derived.OpenShut
import Derived.Stop.Joined
import Derived.ChangeSame
import Derived.Lib.SmallJoins
namespace Go.Proofs.YtcomnpmkedabeaaDoor
open Go.ChangeShapes Go.WideShapes Go.ChangeAt Go.RowKit Go.Joins
set_option linter.unusedVariables false

theorem g_steps : Tryd.prog.globalNamed "hachure/horizon.steps" = some 0 := by kernel_rfl
theorem t_steps : (Tryd.prog.globals[0]?).map (·.type) = some 61 := by kernel_rfl
/-- The door's own heap meets the condition. -/
theorem door_met (os : Os) (args : Array Value) : laidMetH Tryd.prog [("hachure/horizon.steps", Rows.laid_hachure_horizon_steps)] ((World.doorLaid Tryd.prog 400 os).forCall (fun _ _ => 0) ⟨#[], args, []⟩).memory :=
  laidMetH_of_parts3 (fuel := 8) (laidMet_of_run' 8 (by kernel_rfl) (by kernel_rfl)) (by kernel_rfl) (by kernel_rfl)
theorem two_list {cs : List Value} (hc : cs.length = 2) : ∃ u v, cs = [u, v] := by
  match cs, hc with
  | [u, v], _ => exact ⟨u, v, rfl⟩
set_option maxRecDepth 100000 in
theorem pair_cells {W : World} {m : Nat} {cs : List Value} {y : DataW Unit × List MemPlace} {a b : Int} (h : DataW.trod (fun _ => ()) Tryd.prog W 0 (fun _ => true) false m 24 cs = some y) (e : y.1 = .agg [.lit (.int .i64 a), .lit (.int .i64 b)]) (hc : cs.length = 2) : cs = [.int .i64 a, .int .i64 b] := by
  obtain ⟨y0, y1, n, hx, _, h0, h1⟩ := trod_struct2 Tryd.underlying24 h
  have c2 : Tryd.prog.cellsOf 2 = 1 := by kernel_rfl
  obtain ⟨u, v, rfl⟩ := two_list hc
  obtain ⟨a', e0, f0, _⟩ := DataW.trod_int Tryd.underlying2 h0
  obtain ⟨b', e1, f1, _⟩ := DataW.trod_int Tryd.underlying2 h1
  rw [hx] at e
  simp only [f0, f1, DataW.agg.injEq, List.cons.injEq, DataW.lit.injEq, Lit.int.injEq, and_true, true_and] at e
  simp [c2] at e0 e1
  rw [e0, e1, e.1, e.2]
set_option maxRecDepth 100000 in
theorem steps_of_laid {W : World} (h : laidMetH Tryd.prog [("hachure/horizon.steps", Rows.laid_hachure_horizon_steps)] W) : StepsAt W := by
  rw [MakeChecks.laidMetH_plain _ _ _ (by kernel_rfl)] at h
  obtain ⟨ps, ⟨g0, t0, cs0, f0, p0, q0, hg0, ht0, hv0, hd0, _, _⟩, _, _⟩ := h
  obtain rfl := Option.some.inj (g_steps.symm.trans hg0)
  obtain rfl := Option.some.inj (t_steps.symm.trans ht0)
  obtain ⟨xs, m1, rfl, hx1, hlen, hn8, hel⟩ := DataW.trod_array Tryd.underlying61 hd0
  have c24 : Tryd.prog.cellsOf 24 = 2 := by kernel_rfl
  have c61 : Tryd.prog.cellsOf 61 = 16 := by kernel_rfl
  rw [c24] at hel
  rw [c61] at hlen
  simp only [Prod.mk.injEq] at hx1
  have hL := hx1.1
  unfold Rows.laid_hachure_horizon_steps at hL
  simp only [DataW.agg.injEq] at hL
  intro k hk
  have hk2 := hel k hk
  obtain ⟨y, hy⟩ : ∃ y, xs[k]? = some y := ⟨xs[k]'(by omega), List.getElem?_eq_getElem _⟩
  rw [hy] at hk2
  have hyd : y.1 = .agg [.lit (.int .i64 (dX k)), .lit (.int .i64 (dY k))] := by
    have e1 : (xs.map (·.1))[k]? = some y.1 := by rw [List.getElem?_map, hy]; rfl
    rw [← hL] at e1
    rcases (by omega : k = 0 ∨ k = 1 ∨ k = 2 ∨ k = 3 ∨ k = 4 ∨ k = 5 ∨ k = 6 ∨ k = 7) with rfl | rfl | rfl | rfl | rfl | rfl | rfl | rfl <;> exact (Option.some.inj e1).symm
  have hcs := pair_cells hk2 hyd (by rw [List.length_take, List.length_drop, hlen]; omega)
  have g1 : cs0.toList[k * 2]? = some (.int .i64 (dX k)) := by
    have := congrArg (fun z => z[0]?) hcs
    simpa [List.getElem?_take, List.getElem?_drop] using this
  have g2 : cs0.toList[k * 2 + 1]? = some (.int .i64 (dY k)) := by
    have := congrArg (fun z => z[1]?) hcs
    simpa [List.getElem?_take, List.getElem?_drop] using this
  have v1 := World.var?_cell hg0 hv0 (k * 2)
  have v2 := World.var?_cell hg0 hv0 (k * 2 + 1)
  exact ⟨v1.trans (by simpa using g1), v2.trans (by simpa using g2)⟩
end Go.Proofs.YtcomnpmkedabeaaDoor

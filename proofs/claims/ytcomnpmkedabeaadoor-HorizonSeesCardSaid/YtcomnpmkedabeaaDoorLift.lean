/- Opening and shutting of a row's arguments: slices of numbers, cells, rectangles. -/
import Derived.Test.YtcomnpmkedabeaaDoorRows
import Derived.Test.YtcomnpmkedabeaaDoorLand
import Derived.ProofKit
import Derived.OpenShut
import Derived.ShutString
import Derived.ChangeOld
import Derived.Below
import Derived.Lib.SmallJoins
namespace Go.Proofs.YtcomnpmkedabeaaDoor
open Go.ChangeShapes Go.WideShapes Go.ChangeAt Go.RowKit Go.Joins
set_option linter.unusedVariables false

set_option maxRecDepth 100000 in
theorem own_knob : ownKnob Tryd.prog.godebug = none := by kernel_rfl
theorem laid_out : laidOutB Tryd.prog = true := by kernel_rfl
theorem cells_Cell : Tryd.prog.cellsOf 24 = 2 := by kernel_rfl
theorem cells_Rect : Tryd.prog.cellsOf 73 = 4 := by kernel_rfl
/-- A slice of numbers that came in. -/
def IsRow (w : World) (a : Option Addr) (len cap : Nat) (zs : List Int) : Prop :=
  (a = none ∧ len = 0 ∧ cap = 0 ∧ zs = []) ∨
  ∃ x, a = some x ∧ len ≤ cap ∧ cap ≤ maxLen ∧ zs.length = cap ∧ (∀ i, i < zs.length → w.cell? (x.add i) = some (.int .i64 (zs.getD i 0))) ∧ ∀ n ∈ zs, (Lit.int .i64 n).wf = true
theorem IsRow.arg {w : World} {a : Option Addr} {len cap : Nat} {zs : List Int} (h : IsRow w a len cap zs) : ArgAt w (.slice a len cap) len (fun i => zs.getD i 0) := by
  rcases h with ⟨rfl, rfl, rfl, rfl⟩ | ⟨x, rfl, h1, h2, h3, h4, _⟩
  · exact ⟨none, 0, rfl, by omega, fun h => by omega⟩
  · refine ⟨some x, cap, rfl, by simp only [maxLen] at h2; omega, fun _ => ⟨x, rfl, fun i hi => h4 i (by omega)⟩⟩
section
variable {H : Type} {enc : TypeId × Value → H} {W : World} {base : Nat} {v : Value} {d : DataW H} {p : List MemPlace}
theorem trod_below {t : TypeId} (h : DataW.Trod enc Tryd.prog W 0 (fun _ => true) true t v d p) : ∀ x ∈ p, x.block < W.heap.size := by
  obtain ⟨m, hm⟩ := h
  exact DataW.trod_lt m _ _ _ hm
set_option maxRecDepth 100000 in
theorem open_row (hv : Value.okWide Tryd.prog W .any base 22 v) (h : DataW.Trod enc Tryd.prog W 0 (fun _ => true) true 22 v d p) : ∃ a len cap zs, v = .slice a len cap ∧ IsRow W a len cap zs := by
  obtain ⟨a2, len2, cap2, rfl⟩ := okWide_slice Tryd.underlying22 hv
  obtain ⟨fuel, hf⟩ := h
  rcases open_ints Tryd.underlying22 Tryd.underlying2 (by kernel_rfl) hf with ⟨hcs, _⟩ | ⟨x, l, c, zs, hcs, _, hl, hm, hz, _, hcell, hwz⟩
  · simp [Value.cells] at hcs
    obtain ⟨rfl, rfl, rfl⟩ := hcs
    exact ⟨_, _, _, [], rfl, .inl ⟨rfl, rfl, rfl, rfl⟩⟩
  · simp [Value.cells] at hcs
    obtain ⟨rfl, rfl, rfl⟩ := hcs
    exact ⟨_, _, _, zs, rfl, .inr ⟨_, rfl, hl, hm, by simpa using hz, hcell, hwz⟩⟩
set_option maxRecDepth 100000 in
theorem open_cell (hv : Value.okWide Tryd.prog W .any base 24 v) (h : DataW.Trod enc Tryd.prog W 0 (fun _ => true) true 24 v d p) : ∃ x y, v = .agg #[.int .i64 x, .int .i64 y] := by
  obtain ⟨c0, c1, y0, y1, m, rfl, rfl, rfl, hy0, hy1⟩ := open_agg2 Tryd.underlying24 (by kernel_rfl) cells_Cell hv h
  obtain ⟨x, e0, _, _⟩ := DataW.trod_int Tryd.underlying2 hy0
  obtain ⟨y, e1, _, _⟩ := DataW.trod_int Tryd.underlying2 hy1
  simp at e0 e1
  subst e0 e1
  exact ⟨x, y, rfl⟩
set_option maxRecDepth 100000 in
theorem open_rect (hv : Value.okWide Tryd.prog W .any base 73 v) (h : DataW.Trod enc Tryd.prog W 0 (fun _ => true) true 73 v d p) : ∃ x0 y0 x1 y1, v = .agg #[.int .i64 x0, .int .i64 y0, .int .i64 x1, .int .i64 y1] := by
  obtain ⟨c0, c1, c2, c3, y0, y1, y2, y3, m, rfl, rfl, rfl, hy0, hy1, hy2, hy3⟩ := open_agg4 Tryd.underlying73 (by kernel_rfl) cells_Rect hv h
  obtain ⟨x0, e0, _, _⟩ := DataW.trod_int Tryd.underlying2 hy0
  obtain ⟨x1, e1, _, _⟩ := DataW.trod_int Tryd.underlying2 hy1
  obtain ⟨x2, e2, _, _⟩ := DataW.trod_int Tryd.underlying2 hy2
  obtain ⟨x3, e3, _, _⟩ := DataW.trod_int Tryd.underlying2 hy3
  simp at e0 e1 e2 e3
  subst e0 e1 e2 e3
  exact ⟨x0, x1, x2, x3, rfl⟩
end
end Go.Proofs.YtcomnpmkedabeaaDoor

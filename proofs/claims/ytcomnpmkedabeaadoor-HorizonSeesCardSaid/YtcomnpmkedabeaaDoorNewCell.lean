/- A region that draws its order, in which a struct's room is made beside calls: laws of the room made, and of the struct laid into it. -/
import Derived.Test.YtcomnpmkedabeaaDoorBase
import Derived.Laws.Tables
import Derived.Deep.RegionHeld3
import Derived.Deep.CutRange
set_option linter.unusedVariables false
set_option linter.unusedSimpArgs false
namespace Go.Proofs.YtcomnpmkedabeaaDoor
open Go.RowKit

theorem wp_alloc_new {P : Program} {o : Oper} {a : Act} {w : World} {K : Act → World → Prop} {Q : Exit → Act → World → Prop} (ty : TypeId) (ho : o.op = .alloc ty) (z : Array Value) (hz : (P.info? ty).map (·.zero) = some (some (.agg z)))
    (h : ∀ p w', Hid (p = w.heap.size ∧ Below w.heap.size w w' ∧ w'.heap[p]? = some (.cells z ty (0, 0))) → K (a.put o.dst (.pointer (some ⟨p, 0, none⟩))) w') : Oper.wp P o a w K Q := by
  obtain ⟨i, hi, hz⟩ := Option.map_eq_some_iff.1 hz
  have H := h w.heap.size (w.alloc (.cells z ty)) ⟨rfl, below_alloc1 _ _, blk_new _ _⟩
  unfold Oper.wp execOp
  simp only [ho]
  simp [Instr.alloc, zeroValue, typeInfo, hi, hz, newVar, newRow, Sem.run_bind, Sem.run_pure, Value.cells]
  exact H
theorem wp_store_new {P : Program} {o : Oper} {a : Act} {w : World} {K : Act → World → Prop} {Q : Exit → Act → World → Prop} (ty : TypeId) (x y : Operand) (ho : o.op = .store ty x y)
    (g : Nat) (cells : Array Value) (hx : a.eval x = .pointer (some ⟨g, 0, none⟩)) (hy : a.eval y = .agg cells)
    (t : TypeId) (old : Array Value) (hg : w.heap[g]? = some (.cells old t (0, 0))) (hi : (P.info? ty).map (·.size) = some cells.size)
    (hold : old.size = cells.size) (h1 : cells.all (·.oneCell') = true)
    (h : ∀ w', Hid (Mod (fun k => k = g) w w' ∧ w'.heap[g]? = some (.cells cells t (0, 0))) → K (a.put o.dst undef) w') : o.wp P a w K Q :=
  wp_store_row ty x y ho g cells hx hy t old hg hi hold h1 (h _ ⟨⟨rfl, rfl, rfl, by simp, fun k _ hk => setRow_other w g k cells hk⟩, setRow_heap w g old cells t (0, 0) hg⟩)
theorem new_ge {W9 w : World} {p : Nat} (h : Below W9.heap.size W9 w) (hp : p = w.heap.size) : Hid (W9.heap.size ≤ p) := by
  have := h.size
  exact (show W9.heap.size ≤ p by omega)
theorem new_ne {w : World} {p q : Nat} {o : Obj} (h : w.heap[q]? = some o) (hp : p = w.heap.size) : Hid (p ≠ q) := by
  have := blk_lt h
  exact (show p ≠ q by omega)
theorem below_mod {W9 w w' : World} {p : Nat} (h : Below W9.heap.size W9 w) (hm : Mod (fun k => k = p) w w') (hp : Hid (W9.heap.size ≤ p)) : Below W9.heap.size W9 w' :=
  h.trans (hm.below h.size (fun k hk => by rw [hk]; exact hp.out))
theorem cell_drew {W : World} {a : Addr} {v : Value} (h : W.cell? a = some v) : W.drew.cell? a = some v := h
theorem blk_new_at {W : World} {o : Obj} {k : Nat} (h : k = W.heap.size) : (W.alloc o).heap[k]? = some o := by rw [h]; exact blk_new W o
theorem blk_drew {W : World} {o : Obj} {k : Nat} (h : W.heap[k]? = some o) : W.drew.heap[k]? = some o := h
theorem below_drew1 {B : Nat} {w W : World} (h : Below B w W) : Below B w W.drew := ⟨h.os, h.tape, h.output, h.size, h.block⟩
theorem cell_alloc {W : World} {a : Addr} {v : Value} {o : Obj} (h : W.cell? a = some v) : (W.alloc o).cell? a = some v := below_cell (below_alloc1 W o) h
theorem Mod.cell {S : Nat → Prop} {w W : World} (h : Mod S w W) {a : Addr} {v : Value} (hc : w.cell? a = some v) (hn : ¬ S a.block) : W.cell? a = some v :=
  (World.cell?_of_block (w := w) (h.block _ (World.block_lt_of_cell? w a hc) hn)).trans hc
end Go.Proofs.YtcomnpmkedabeaaDoor

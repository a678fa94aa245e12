/- make([]T, 0, n): room for a row of the call's own. Rows of whole numbers. -/
import Derived.Test.YtcomnpmkedabeaaDoorBase
set_option linter.unusedVariables false
set_option linter.unusedSimpArgs false
namespace Go.Proofs.YtcomnpmkedabeaaDoor
open Go.RowKit

theorem make_room {P : Program} {ops : Array Oper} {rest : List Oper} {o : Oper} {a : Act} {Q : Exit → Act → World → Prop} {W : World} (hgd : o.guard = none) (l c : Operand) (t : TypeId) (hop : o.op = Op.makeSlice t l c)
    (e : TypeId) (z : Value) (size bytes : Nat) (ht : P.underlying t = some (.slice e)) (hinfo : (P.info? e).map (fun i => (i.zero, i.size, i.bytes)) = some (some z, size, bytes))
    (n : Nat) (hl : a.eval l = .int .i64 0) (hc : a.eval c = .int .i64 (n : Int)) (b2 : bytes * n ≤ 281474976710656) (b3 : n ≤ 281474976710656)
    (h : ∀ v w1, w1.ownsRow W.heap.size e size v 0 [] → Below W.heap.size W w1 → wpList P ops Q rest (a.put o.dst v) w1) : wpList P ops Q (o :: rest) a W := by
  obtain ⟨i0, hi, hzz⟩ := Option.map_eq_some_iff.1 hinfo
  simp only [Prod.mk.injEq] at hzz
  obtain ⟨hz0, hz1, hz2⟩ := hzz
  refine wpList_plain hgd fun K hK => ?_
  obtain ⟨w', hr, hown, hg⟩ := run_make_own (P := P) W W.heap.size t e i0 z size ht hi hz0 hz1 .i64 .i64 n (by rw [hz2]; exact b2) (by simp only [maxLen]; omega) (Nat.le_refl _)
  unfold Oper.wp
  simp only [execOp, hop, hl, hc, Sem.run_bind, Sem.run_pure, hr, Result.andThen_ok]
  exact hK _ _ (h _ _ hown ((Below.refl _ _).grown hg (Nat.le_refl _) (fun k hk => by cases hk)))

/-- The first n values of a function, as cells. -/
def vals (g : Nat → Int) (n : Nat) : List Value := (List.range n).map fun i => .int .i64 (g i)
theorem vals_succ (g : Nat → Int) (n : Nat) : vals g (n + 1) = vals g n ++ [.int .i64 (g n)] := by simp [vals, List.range_succ]
theorem vals_length (g : Nat → Int) (n : Nat) : (vals g n).length = n := by simp [vals]
theorem vals_get (g : Nat → Int) {n i : Nat} (h : i < n) : (vals g n)[i]? = some (.int .i64 (g i)) := by simp [vals, h]
/-- A row that the call owns, of one-cell elements: what lies where. -/
theorem own_row {W : World} {base n : Nat} {e : TypeId} {v : Value} {xs : List Value} (h : W.ownsRow base e 1 v n xs) (hn : 0 < n) :
    ∃ k cap cs, v = .slice (some ⟨k, 0, none⟩) n cap ∧ n ≤ cap ∧ base ≤ k ∧ W.heap[k]? = some (.cells cs e (0, 0)) ∧ ∀ (i : Nat) (x : Value), xs[i]? = some x → cs[i]? = some x := by
  obtain ⟨h0, ⟨_, h2⟩ | ⟨k, cap, cs, h1, h2, h3, h4, h5, h6, h7⟩⟩ := h
  · omega
  · refine ⟨k, cap, cs, h1, h4, h2, h3, ?_⟩
    intro i x hx
    rw [← h7, List.getElem?_take] at hx
    split at hx
    · simpa using hx
    · cases hx
theorem info_int64 : (Tryd.prog.info? 2).map (fun i => (i.zero, i.size, i.bytes)) = some (some (.int .i64 0), 1, 8) := by kernel_rfl

theorem lin_at2 {w h : Int} {i : Nat} (hw : 0 < w) (hi : (i : Int) < w * h) : 0 ≤ (i : Int) % w ∧ (i : Int) % w < w ∧ 0 ≤ (i : Int) / w ∧ (i : Int) / w < h :=
  ⟨Int.emod_nonneg _ (by omega), Int.emod_lt_of_pos _ hw, Int.ediv_nonneg (by omega) (by omega), Int.ediv_lt_of_lt_mul hw (by rw [Int.mul_comm]; exact hi)⟩
/-- Values, as a row of whole numbers in new memory. -/
def RowOut (W : World) (n : Nat) (g : Nat → Int) (e : Ending) (W' : World) : Prop :=
  ∃ k, e = .returned (.slice (some ⟨k, 0, none⟩) n n) ∧ W.heap.size ≤ k ∧ Below W.heap.size W W' ∧ ∃ cs, W'.heap[k]? = some (.cells cs 2 (0, 0)) ∧ cs.size = n ∧ ∀ i, i < n → cs[i]? = some (.int .i64 (g i))
end Go.Proofs.YtcomnpmkedabeaaDoor

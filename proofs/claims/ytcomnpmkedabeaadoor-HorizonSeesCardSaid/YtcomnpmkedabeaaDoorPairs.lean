/- Rows that a call owns, of elements of two cells. -/
import Derived.Test.YtcomnpmkedabeaaDoorBase
set_option linter.unusedVariables false
set_option linter.unusedSimpArgs false
namespace Go.Proofs.YtcomnpmkedabeaaDoor
open Go.RowKit

/-- A row that the call owns: what lies where. -/
theorem own_rowS {W : World} {base n size : Nat} {e : TypeId} {v : Value} {xs : List Value} (h : W.ownsRow base e size v n xs) (hn : 0 < n) :
    ∃ k cap cs, v = .slice (some ⟨k, 0, none⟩) n cap ∧ n ≤ cap ∧ base ≤ k ∧ W.heap[k]? = some (.cells cs e (0, 0)) ∧ ∀ (i : Nat) (x : Value), xs[i]? = some x → cs[i]? = some x := by
  obtain ⟨h0, ⟨_, h2⟩ | ⟨k, cap, cs, h1, h2, h3, h4, h5, h6, h7⟩⟩ := h
  · omega
  · refine ⟨k, cap, cs, h1, h4, h2, h3, ?_⟩
    intro i x hx
    rw [← h7, List.getElem?_take] at hx
    split at hx
    · simpa using hx
    · cases hx
/-- A new block of one element is a row. -/
theorem own_box {W : World} {base size : Nat} {e : TypeId} {cs : Array Value} (hb : base ≤ W.heap.size) (hs : cs.size = size) : (W.alloc (.cells cs e)).ownsRow base e size (.slice (some ⟨W.heap.size, 0, none⟩) 1 1) 1 cs.toList :=
  ⟨by simp [hs], .inr ⟨W.heap.size, 1, cs, rfl, hb, blk_new _ _, Nat.le_refl _, by simp [maxLen], by simp [hs], by rw [List.take_of_length_le (by simp [hs])]⟩⟩
theorem info_Cell : (Tryd.prog.info? 24).map (fun i => (i.zero, i.size, i.bytes)) = some (some (.agg #[.int .i64 0, .int .i64 0]), 2, 16) := by kernel_rfl
theorem own_keep {S : Nat → Prop} {w w1 : World} {base : Nat} {e : TypeId} {size n : Nat} {v : Value} {xs : List Value} (h : w.ownsRow base e size v n xs) (hm : Mod S w w1) (hs : ∀ k, v.ownBlock = some k → ¬ S k) : w1.ownsRow base e size v n xs := by
  refine ⟨h.1, ?_⟩
  rcases h.2 with h2 | ⟨g, cap, cur, h1, h2, h3, h4⟩
  · exact .inl h2
  · exact .inr ⟨g, cap, cur, h1, h2, hm.blk h3 (fun hk => hs g (by rw [h1]; rfl) hk), h4⟩
/-- Pairs of numbers, as cells. -/
def pairs (f g : Nat → Int) (n : Nat) : List Value := (List.range n).flatMap fun k => [.int .i64 (f k), .int .i64 (g k)]
theorem pairs_succ (f g : Nat → Int) (n : Nat) : pairs f g (n + 1) = pairs f g n ++ [.int .i64 (f n), .int .i64 (g n)] := by simp [pairs, List.range_succ]
theorem pairs_length (f g : Nat → Int) (n : Nat) : (pairs f g n).length = n * 2 := by
  induction n with
  | zero => rfl
  | succ n ih => rw [pairs_succ, List.length_append, ih]; simp; omega
theorem pairs_get (f g : Nat → Int) : ∀ (n q : Nat), q < n → (pairs f g n)[q * 2]? = some (.int .i64 (f q)) ∧ (pairs f g n)[q * 2 + 1]? = some (.int .i64 (g q))
  | n + 1, q, hq => by
    rw [pairs_succ]
    by_cases e : q = n
    · subst e
      have hl := pairs_length f g q
      rw [List.getElem?_append_right (by omega), List.getElem?_append_right (by omega), hl]
      simp
    · have hl := pairs_length f g n
      rw [List.getElem?_append_left (by omega), List.getElem?_append_left (by omega)]
      exact pairs_get f g n q (by omega)
theorem pairs_cells {W : World} {base n : Nat} {e : TypeId} {v : Value} {f g : Nat → Int} (h : W.ownsRow base e 2 v n (pairs f g n)) (hn : 0 < n) :
    ∃ k cap, v = .slice (some ⟨k, 0, none⟩) n cap ∧ n ≤ cap ∧ base ≤ k ∧ ∀ q, q < n → W.cell? ⟨k, q * 2, none⟩ = some (.int .i64 (f q)) ∧ W.cell? ⟨k, q * 2 + 1, none⟩ = some (.int .i64 (g q)) := by
  obtain ⟨k, cap, cs, h1, h2, h3, h4, h5⟩ := own_rowS h hn
  refine ⟨k, cap, h1, h2, h3, fun q hq => ?_⟩
  have := pairs_get f g n q hq
  exact ⟨(blk_cell h4 _).trans (h5 _ _ this.1), (blk_cell h4 _).trans (h5 _ _ this.2)⟩
end Go.Proofs.YtcomnpmkedabeaaDoor

/- Contracts of package slab: what a slab is in memory; its cells read. -/
import Derived.Test.YtcomnpmkedabeaaDoorRect2
set_option linter.unusedVariables false
set_option linter.unusedSimpArgs false
namespace Go.Proofs.YtcomnpmkedabeaaDoor
open Go.RowKit

/-- What a slab's cells are: one value for all, or a row of values; F: where these lie. -/
def LandAt (W : World) (F : Nat → Prop) (w h : Int) (f : Int → Int → Int) (c : Value) : Prop :=
  (∃ v : Int, c = .iface 104 (.int .i32 v) ∧ -2147483648 ≤ v ∧ v ≤ 2147483647 ∧ ∀ x y, 0 ≤ x → x < w → 0 ≤ y → y < h → f x y = v) ∨
  (∃ (k n cap : Nat) (cs : Array Value), c = .iface 129 (.slice (some ⟨k, 0, none⟩) n cap) ∧ F k ∧ k < W.heap.size ∧ (n : Int) = w * h ∧ n ≤ cap ∧ W.heap[k]? = some (.cells cs 21 (0, 0)) ∧
    ∀ x y, 0 ≤ x → x < w → 0 ≤ y → y < h → cs[(y * w + x).toNat]? = some (.int .i32 (f x y)))
/-- A slab at a block. -/
structure SlabAt (W : World) (b : Nat) (F : Nat → Prop) (w h : Int) (f : Int → Int → Int) : Prop where
  w1 : 1 ≤ w
  w2 : w ≤ 16
  h1 : 1 ≤ h
  h2 : h ≤ 16
  own : F b
  lt : ∀ k, F k → k < W.heap.size
  bd : ∀ x y, 0 ≤ x → x < w → 0 ≤ y → y < h → -2147483648 ≤ f x y ∧ f x y ≤ 2147483647
  blk : ∃ c, W.heap[b]? = some (.cells #[.int .i64 w, .int .i64 h, c] 108 (0, 0)) ∧ LandAt W (fun k => F k ∧ k ≠ b) w h f c

theorem LandAt.keep {W W2 : World} {F : Nat → Prop} {w h : Int} {f : Int → Int → Int} {c : Value} (H : LandAt W F w h f c) (hk : ∀ k, F k → W2.heap[k]? = W.heap[k]?) : LandAt W2 F w h f c := by
  rcases H with H | ⟨k, n, cap, cs, h1, h2, h2', h3, h4, h5, h6⟩
  · exact .inl H
  · exact .inr ⟨k, n, cap, cs, h1, h2, (Array.getElem?_eq_some_iff.1 ((hk k h2).trans h5)).1, h3, h4, (hk k h2).trans h5, h6⟩
theorem SlabAt.keep {W W2 : World} {b : Nat} {F : Nat → Prop} {w h : Int} {f : Int → Int → Int} (H : SlabAt W b F w h f) (hs : W.heap.size ≤ W2.heap.size) (hk : ∀ k, F k → W2.heap[k]? = W.heap[k]?) : SlabAt W2 b F w h f := by
  obtain ⟨c, hc, hl⟩ := H.blk
  exact ⟨H.w1, H.w2, H.h1, H.h2, H.own, fun k hk' => Nat.lt_of_lt_of_le (H.lt k hk') hs, H.bd, c, (hk b H.own).trans hc, hl.keep (fun k h => hk k h.1)⟩
theorem SlabAt.below {W W2 : World} {b : Nat} {F : Nat → Prop} {w h : Int} {f : Int → Int → Int} (H : SlabAt W b F w h f) (hb : Below W.heap.size W W2) : SlabAt W2 b F w h f :=
  H.keep hb.size (fun k hk => hb.block k (H.lt k hk))
theorem SlabAt.mod {W W2 : World} {b : Nat} {F S : Nat → Prop} {w h : Int} {f : Int → Int → Int} (H : SlabAt W b F w h f) (hb : Mod S W W2) (hn : ∀ k, F k → ¬ S k) : SlabAt W2 b F w h f :=
  H.keep hb.size (fun k hk => hb.block k (H.lt k hk) (hn k hk))

theorem slab_spot_any (x y : Int) (w : World) :
    Calls Tryd.prog 75 #[.agg #[.int .i64 x, .int .i64 y]] w fun e w' => e = .returned (.agg #[.int .i64 x, .int .i64 y, .int .i64 x, .int .i64 y]) ∧ Below w.heap.size w w' := by
  go_enter Tryd.func75, Tryd.ntmps75
  go_wp2
  refine bodyPost_ret (res_c rfl rfl (blk_new2 _ _ _) agg_Rect rfl) rfl ?_
  exact ⟨rfl, below_alloc (below_alloc1 _ _) _⟩

theorem slab_check_any (b : Nat) (w h x0 y0 x1 y1 : Int) (c : Value) (W : World) (hb : W.heap[b]? = some (.cells #[.int .i64 w, .int .i64 h, c] 108 (0, 0))) (w1 : 1 ≤ w) (w2 : w ≤ 16) (h1 : 1 ≤ h) (h2 : h ≤ 16) :
    Calls Tryd.prog 71 #[.pointer (some ⟨b, 0, none⟩), .agg #[.int .i64 x0, .int .i64 y0, .int .i64 x1, .int .i64 y1]] W fun e W' => e = .returned (.int .i64 (withinC x0 y0 x1 y1 w h)) ∧ Below W.heap.size W W' := by
  go_enter Tryd.func71, Tryd.ntmps71
  go_wp2_with fail
  have n0 := below_blk (below_alloc1 W (.cells #[.int .i64 x0, .int .i64 y0, .int .i64 x1, .int .i64 y1] 73)) hb
  have n1 := blk_new W (.cells #[.int .i64 x0, .int .i64 y0, .int .i64 x1, .int .i64 y1] 73)
  have k_0 := cells_q n0 0 rfl
  have k_1 := cells_q n0 1 rfl
  have j_0 := cells_q n1 0 rfl
  have j_1 := cells_q n1 1 rfl
  have j_2 := cells_q n1 2 rfl
  have j_3 := cells_q n1 3 rfl
  refine wp_quiet (by kernel_rfl) (by kernel_rfl) ?_
  repeat (go_big_quiet_step ((first | (go_at_call 30; exact Calls.quiet (within_any _ _ _ _ _ _ _ w1 (by omega) h1 (by omega))))))
  refine wpQuiet_nil ?_
  intro W2 hb2
  clear k_0 k_1 j_0 j_1 j_2 j_3 n0 n1
  go_wp2_with fail
  go_ret
  exact ⟨rfl, below_next (below_alloc1 _ _) hb2⟩

/-- The methods that lie behind a slab's cells. -/
theorem method_flat (v : Value) (w : World) : (method 268 104 v "hachure/slab.at").run Tryd.prog w = .ok (104, v) w := by kernel_rfl
theorem method_rough (v : Value) (w : World) : (method 268 129 v "hachure/slab.at").run Tryd.prog w = .ok (105, v) w := by kernel_rfl
theorem nil_flat (v : Value) (w : World) : (nilAhead 268 104 v "hachure/slab.at").run Tryd.prog w = .ok (some false) w := by kernel_rfl
theorem nil_rough (v : Value) (w : World) : (nilAhead 268 129 v "hachure/slab.at").run Tryd.prog w = .ok (some false) w := by kernel_rfl
attribute [go_sem] method_flat method_rough nil_flat nil_rough
end Go.Proofs.YtcomnpmkedabeaaDoor

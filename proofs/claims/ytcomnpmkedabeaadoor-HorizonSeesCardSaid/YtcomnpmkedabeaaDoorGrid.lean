/- What a grid is in memory; its size, its cells read. -/
import Derived.Test.YtcomnpmkedabeaaDoorSlabFill
import Derived.Test.YtcomnpmkedabeaaDoorPieces
set_option linter.unusedVariables false
set_option linter.unusedSimpArgs false
namespace Go.Proofs.YtcomnpmkedabeaaDoor
open Go.RowKit

/-- Tiles across, down. -/
def acr (w : Int) : Nat := nx 0 (w - 1)
theorem acr_eq {w : Int} (h : 1 ≤ w) : ((acr w : Nat) : Int) = (w + 15) / 16 := by unfold acr nx; omega
theorem acr_bd {w : Int} (h : 1 ≤ w) (h2 : w ≤ 1024) : 1 ≤ acr w ∧ acr w ≤ 64 := by have := acr_eq h; omega
/-- A tile's side: of tile t, where the whole side is w. -/
def side (w : Int) (t : Nat) : Int := imin (16 * t + 15) (w - 1) - 16 * t + 1
theorem side_bd {w : Int} {t : Nat} (h : 1 ≤ w) (ht : t < acr w) : 1 ≤ side w t ∧ side w t ≤ 16 := by
  have := acr_eq h
  unfold side imin
  split <;> omega
/-- The values of tile i. -/
def tileF (f : Int → Int → Int) (w : Int) (i : Nat) : Int → Int → Int := fun x y => f (16 * (i % acr w : Nat) + x) (16 * (i / acr w : Nat) + y)

/-- A grid's parts. -/
structure GridRaw (W : World) (g : Nat) (F : Nat → Prop) (w h : Int) (f : Int → Int → Int) (a n cap : Nat) (ps : Array Value) (s : Nat → Nat) (Fs : Nat → Nat → Prop) : Prop where
  w1 : 1 ≤ w
  w2 : w ≤ 1024
  h1 : 1 ≤ h
  h2 : h ≤ 1024
  own : F g
  owna : F a
  ne : a ≠ g
  lt : ∀ k, F k → k < W.heap.size
  n_eq : n = acr w * acr h
  cap_le : n ≤ cap
  grid : W.heap[g]? = some (.cells #[.int .i64 w, .int .i64 h, .int .i64 ((w + 15) / 16), .slice (some ⟨a, 0, none⟩) n cap] 78 (0, 0))
  row : W.heap[a]? = some (.cells ps 81 (0, 0))
  ptr : ∀ i, i < n → ps[i]? = some (.pointer (some ⟨s i, 0, none⟩))
  slab : ∀ i, i < n → SlabAt W (s i) (Fs i) (side w (i % acr w)) (side h (i / acr w)) (tileF f w i)
  sub : ∀ i k, i < n → Fs i k → F k ∧ k ≠ g ∧ k ≠ a
  apart : ∀ i j k, i < n → j < n → i ≠ j → Fs i k → ¬ Fs j k
/-- A grid at a block. -/
def GridAt (W : World) (g : Nat) (F : Nat → Prop) (w h : Int) (f : Int → Int → Int) : Prop := ∃ a n cap ps s Fs, GridRaw W g F w h f a n cap ps s Fs

section
variable {W W2 : World} {g : Nat} {F S : Nat → Prop} {w h : Int} {f f' : Int → Int → Int} {a n cap : Nat} {ps : Array Value} {s : Nat → Nat} {Fs : Nat → Nat → Prop}
theorem GridRaw.keep (H : GridRaw W g F w h f a n cap ps s Fs) (hs : W.heap.size ≤ W2.heap.size) (hk : ∀ k, F k → W2.heap[k]? = W.heap[k]?) : GridRaw W2 g F w h f a n cap ps s Fs :=
  ⟨H.w1, H.w2, H.h1, H.h2, H.own, H.owna, H.ne, fun k hF => Nat.lt_of_lt_of_le (H.lt k hF) hs, H.n_eq, H.cap_le, (hk g H.own).trans H.grid, (hk a H.owna).trans H.row, H.ptr,
    fun i hi => (H.slab i hi).keep hs (fun k hF => hk k (H.sub i k hi hF).1), H.sub, H.apart⟩
theorem GridRaw.below (H : GridRaw W g F w h f a n cap ps s Fs) (hb : Below W.heap.size W W2) : GridRaw W2 g F w h f a n cap ps s Fs := H.keep hb.size (fun k hF => hb.block k (H.lt k hF))
theorem GridAt.keep (H : GridAt W g F w h f) (hs : W.heap.size ≤ W2.heap.size) (hk : ∀ k, F k → W2.heap[k]? = W.heap[k]?) : GridAt W2 g F w h f := by
  obtain ⟨a, n, cap, ps, s, Fs, H⟩ := H
  exact ⟨a, n, cap, ps, s, Fs, H.keep hs hk⟩
theorem GridAt.below (H : GridAt W g F w h f) (hb : Below W.heap.size W W2) : GridAt W2 g F w h f := by
  obtain ⟨a, n, cap, ps, s, Fs, H⟩ := H
  exact ⟨a, n, cap, ps, s, Fs, H.below hb⟩
theorem GridAt.mod (H : GridAt W g F w h f) (hb : Mod S W W2) (hn : ∀ k, F k → ¬ S k) : GridAt W2 g F w h f := by
  obtain ⟨a, n, cap, ps, s, Fs, H⟩ := H
  exact ⟨a, n, cap, ps, s, Fs, H.keep hb.size (fun k hF => hb.block k (H.lt k hF) (hn k hF))⟩
theorem GridAt.dims (H : GridAt W g F w h f) : 1 ≤ w ∧ w ≤ 1024 ∧ 1 ≤ h ∧ h ≤ 1024 := by
  obtain ⟨a, n, cap, ps, s, Fs, H⟩ := H
  exact ⟨H.w1, H.w2, H.h1, H.h2⟩
theorem GridAt.head (H : GridAt W g F w h f) : ∃ c, W.heap[g]? = some (.cells #[.int .i64 w, .int .i64 h, .int .i64 ((w + 15) / 16), c] 78 (0, 0)) := by
  obtain ⟨a, n, cap, ps, s, Fs, H⟩ := H
  exact ⟨_, H.grid⟩
theorem GridAt.lt (H : GridAt W g F w h f) : ∀ k, F k → k < W.heap.size := by
  obtain ⟨a, n, cap, ps, s, Fs, H⟩ := H
  exact H.lt
theorem GridAt.own (H : GridAt W g F w h f) : F g := by
  obtain ⟨a, n, cap, ps, s, Fs, H⟩ := H
  exact H.own
/-- The tile in which a cell lies, and where in it. -/
theorem tile_of {x y : Int} (hw : 1 ≤ w) (hh : 1 ≤ h) (hx : 0 ≤ x) (hx2 : x < w) (hy : 0 ≤ y) (hy2 : y < h) :
    ∃ i : Nat, (i : Int) = y / 16 * ((w + 15) / 16) + x / 16 ∧ i < acr w * acr h ∧ ((i % acr w : Nat) : Int) = x / 16 ∧ ((i / acr w : Nat) : Int) = y / 16 ∧
      x % 16 < side w (i % acr w) ∧ y % 16 < side h (i / acr w) ∧ tileF f w i (x % 16) (y % 16) = f x y := by
  have e1 := acr_eq hw
  have e2 := acr_eq hh
  obtain ⟨tx, htx⟩ : ∃ tx : Nat, (tx : Int) = x / 16 := ⟨(x / 16).toNat, by omega⟩
  obtain ⟨ty, hty⟩ : ∃ ty : Nat, (ty : Int) = y / 16 := ⟨(y / 16).toNat, by omega⟩
  have l1 : tx < acr w := by omega
  have l2 : ty < acr h := by omega
  have hm : (ty * acr w + tx) % acr w = tx := by rw [Nat.mul_comm, Nat.mul_add_mod, Nat.mod_eq_of_lt l1]
  have hd : (ty * acr w + tx) / acr w = ty := by rw [Nat.mul_comm, Nat.mul_add_div (by omega), Nat.div_eq_of_lt l1, Nat.add_zero]
  refine ⟨ty * acr w + tx, ?_, ?_, ?_, ?_, ?_, ?_, ?_⟩
  · rw [← htx, ← hty, ← e1]; push_cast; rfl
  · have := Nat.mul_le_mul_right (acr w) (show ty + 1 ≤ acr h by omega)
    rw [Nat.add_mul] at this
    rw [Nat.mul_comm (acr w)]
    omega
  · rw [hm]; exact htx
  · rw [hd]; exact hty
  · rw [hm]; unfold side imin; split <;> omega
  · rw [hd]; unfold side imin; split <;> omega
  · unfold tileF
    rw [hm, hd, htx, hty]
    congr 1 <;> omega
end

theorem grid_All_ok (g : Nat) (F : Nat → Prop) (w h : Int) (f : Int → Int → Int) (W : World) (H : GridAt W g F w h f) :
    Calls Tryd.prog 29 #[.pointer (some ⟨g, 0, none⟩)] W fun e W' => e = .returned (.agg #[.int .i64 0, .int .i64 0, .int .i64 (w - 1), .int .i64 (h - 1)]) ∧ Below W.heap.size W W' := by
  obtain ⟨c, hg⟩ := H.head
  obtain ⟨d1, d2, d3, d4⟩ := H.dims
  go_enter Tryd.func29, Tryd.ntmps29
  go_wp2_with fail
  have n0 := below_blk (below_alloc1 W (.cells #[.int .i64 0, .int .i64 0, .int .i64 0, .int .i64 0] 73)) hg
  have k_0 := cells_q n0 0 rfl
  have k_1 := cells_q n0 1 rfl
  refine wp_tail 11 (by kernel_rfl) (by kernel_rfl) ?_
  simp only [List.take_succ_cons, List.take_zero, List.drop_succ_cons, List.drop_zero]
  repeat (go_big_quiet_step ((first | fail)))
  refine wpQuiet_nil ?_
  intro w2 hb2
  have n1 := below_blk hb2 (blk_new _ _)
  have hB := below_next (below_alloc1 _ _) hb2
  clear k_0 k_1
  have k_0 := cells_w n1 0 rfl
  have k_1 := cells_w n1 1 rfl
  have k_2 := cells_w n1 2 rfl
  have k_3 := cells_w n1 3 rfl
  have z_0 := blk_frozen n1 0
  have z_1 := blk_frozen n1 1
  have z_2 := blk_frozen n1 2
  have z_3 := blk_frozen n1 3
  go_wp2_with fail
  refine bodyPost_ret (res_c rfl rfl (blk_set (blk_set (blk_set (blk_set n1 0 _) 1 _) 2 _) 3 _) agg_Rect rfl) rfl ?_
  exact ⟨rfl, (((hB.setCell (Nat.le_refl _) _).setCell (Nat.le_refl _) _).setCell (Nat.le_refl _) _).setCell (Nat.le_refl _) _⟩

theorem grid_check_any (g : Nat) (F : Nat → Prop) (w h x0 y0 x1 y1 : Int) (f : Int → Int → Int) (W : World) (H : GridAt W g F w h f) :
    Calls Tryd.prog 55 #[.pointer (some ⟨g, 0, none⟩), .agg #[.int .i64 x0, .int .i64 y0, .int .i64 x1, .int .i64 y1]] W fun e W' => e = .returned (.int .i64 (withinC x0 y0 x1 y1 w h)) ∧ Below W.heap.size W W' := by
  obtain ⟨c, hg⟩ := H.head
  obtain ⟨d1, d2, d3, d4⟩ := H.dims
  go_enter Tryd.func55, Tryd.ntmps55
  go_wp2_with fail
  have n0 := below_blk (below_alloc1 W (.cells #[.int .i64 x0, .int .i64 y0, .int .i64 x1, .int .i64 y1] 73)) hg
  have n1 := blk_new W (.cells #[.int .i64 x0, .int .i64 y0, .int .i64 x1, .int .i64 y1] 73)
  have k_0 := cells_q n0 0 rfl
  have k_1 := cells_q n0 1 rfl
  have j_0 := cells_q n1 0 rfl
  have j_1 := cells_q n1 1 rfl
  have j_2 := cells_q n1 2 rfl
  have j_3 := cells_q n1 3 rfl
  refine wp_quiet (by kernel_rfl) (by kernel_rfl) ?_
  repeat (go_big_quiet_step ((first | (go_at_call 30; exact Calls.quiet (within_any _ _ _ _ _ _ _ d1 d2 d3 d4)))))
  refine wpQuiet_nil ?_
  intro W2 hb2
  clear k_0 k_1 j_0 j_1 j_2 j_3 n0 n1
  go_wp2_with fail
  go_ret
  exact ⟨rfl, below_next (below_alloc1 _ _) hb2⟩

theorem grid_spot_any (x y : Int) (w : World) :
    Calls Tryd.prog 34 #[.agg #[.int .i64 x, .int .i64 y]] w fun e w' => e = .returned (.agg #[.int .i64 x, .int .i64 y, .int .i64 x, .int .i64 y]) ∧ Below w.heap.size w w' := by
  go_enter Tryd.func34, Tryd.ntmps34
  go_wp2
  refine bodyPost_ret (res_c rfl rfl (blk_new2 _ _ _) agg_Rect rfl) rfl ?_
  exact ⟨rfl, below_alloc (below_alloc1 _ _) _⟩
theorem grid_inner_any (x y : Int) (w : World) (hx : 0 ≤ x) (hy : 0 ≤ y) :
    Calls Tryd.prog 56 #[.int .i64 x, .int .i64 y] w fun e w' => e = .returned (.agg #[.int .i64 (x % 16), .int .i64 (y % 16)]) ∧ Below w.heap.size w w' := by
  go_enter Tryd.func56, Tryd.ntmps56
  go_wp2
  refine bodyPost_ret (res_c rfl rfl (blk_new _ _) agg_Cell rfl) rfl ?_
  exact ⟨rfl, below_alloc1 _ _⟩

set_option maxHeartbeats 1000000 in
theorem grid_slab_ok (g : Nat) (F : Nat → Prop) (w h x y : Int) (f : Int → Int → Int) (W : World) (a n cap : Nat) (ps : Array Value) (s : Nat → Nat) (Fs : Nat → Nat → Prop) (H : GridRaw W g F w h f a n cap ps s Fs)
    (i : Nat) (hi : (i : Int) = y / 16 * ((w + 15) / 16) + x / 16) (hi2 : i < n) (hx : 0 ≤ x) (hx2 : x < 1024) (hy : 0 ≤ y) (hy2 : y < 1024) :
    Calls Tryd.prog 57 #[.pointer (some ⟨g, 0, none⟩), .int .i64 x, .int .i64 y] W fun e W' => e = .returned (.pointer (some ⟨s i, 0, none⟩)) ∧ Below W.heap.size W W' := by
  have hg := H.grid
  have w1 := H.w1
  have w2 := H.w2
  have hm := mul_bd (a := y / 16) (b := (w + 15) / 16) (A := 64) (B := 64) (by omega) (by omega) (by omega) (by omega)
  obtain ⟨hm0, hm1⟩ := hm
  have wm : wrap64 (y / 16 * ((w + 15) / 16)) = y / 16 * ((w + 15) / 16) := wrap64_id (by omega) (by omega)
  have wi : wrap64 (y / 16 * ((w + 15) / 16) + x / 16) = (i : Int) := by rw [hi]; exact wrap64_id (by omega) (by omega)
  have wi2 : y / 16 * ((w + 15) / 16) + x / 16 = (i : Int) := hi.symm
  have hp := (blk_cell H.row i).trans (H.ptr i hi2)
  have kp := fun d os => cell_regrown hp d os
  have hcap := H.cap_le
  have hin : (i : Int) < (n : Int) := by omega
  have hi0 : (0 : Int) ≤ (i : Int) := by omega
  clear hi hp
  go_enter Tryd.func57, Tryd.ntmps57
  go_wp2_with fail
  have k_0 := cells_q hg 0 rfl
  have k_1 := cells_q hg 1 rfl
  have k_2 := cells_q hg 2 rfl
  have k_3 := cells_q hg 3 rfl
  refine wp_quiet (by kernel_rfl) (by kernel_rfl) ?_
  repeat (go_big_quiet_step ((first | fail)))
  refine wpQuiet_nil ?_
  intro w2' hb2
  clear k_0 k_1 k_2 k_3 kp
  go_wp2_with fail
  go_ret
  exact ⟨rfl, hb2⟩
end Go.Proofs.YtcomnpmkedabeaaDoor

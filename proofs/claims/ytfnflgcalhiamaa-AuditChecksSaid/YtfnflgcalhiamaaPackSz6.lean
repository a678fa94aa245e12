/- Texts of this claim, joined: Pieces, Grid, SlabAt, GridAt, GridAny, NewCell. -/
import Derived.Test.YtfnflgcalhiamaaPackSz1
import Derived.Test.YtfnflgcalhiamaaPackSz3
import Derived.Test.YtfnflgcalhiamaaPackSz5
import Derived.Deep.LoopGhost
import Derived.Maps.AppendAt
import Derived.Laws.Tables
import Derived.Deep.RegionHeld3
import Derived.Deep.CutRange
/- rect.Pieces: a rectangle by tiles. -/
set_option linter.unusedVariables false
set_option linter.unusedSimpArgs false
namespace Go.Proofs.Ytfnflgcalhiamaa
open Go.RowKit

/-- How many tiles across a row of a rectangle. -/
def nx (x0 x1 : Int) : Nat := (x1 / 16 - x0 / 16 + 1).toNat
structure R4 where
  x0 : Int
  y0 : Int
  x1 : Int
  y1 : Int
def R4.cells (r : R4) : List Value := [.int .i64 r.x0, .int .i64 r.y0, .int .i64 r.x1, .int .i64 r.y1]
/-- What a tile and a rectangle have together. -/
def tileOf (r : R4) (tx ty : Int) : R4 := ⟨imax (tx * 16) r.x0, imax (ty * 16) r.y0, imin (tx * 16 + 16 - 1) r.x1, imin (ty * 16 + 16 - 1) r.y1⟩
def piece (r : R4) (k : Nat) : R4 := tileOf r (r.x0 / 16 + (k % nx r.x0 r.x1 : Nat)) (r.y0 / 16 + (k / nx r.x0 r.x1 : Nat))
def pcells (r : R4) (n : Nat) : List Value := (List.range n).flatMap fun k => (piece r k).cells
theorem pcells_succ (r : R4) (n : Nat) : pcells r (n + 1) = pcells r n ++ (piece r n).cells := by
  simp [pcells, List.range_succ]
theorem pcells_length (r : R4) (n : Nat) : (pcells r n).length = n * 4 := by
  induction n with
  | zero => rfl
  | succ n ih => rw [pcells_succ, List.length_append, ih]; simp [R4.cells]; omega

theorem piece_at (r : R4) (j i : Nat) (h : i < nx r.x0 r.x1) : piece r (nx r.x0 r.x1 * j + i) = tileOf r (r.x0 / 16 + (i : Int)) (r.y0 / 16 + (j : Int)) := by
  unfold piece
  rw [Nat.mul_add_mod, Nat.mod_eq_of_lt h, Nat.mul_add_div (by omega), Nat.div_eq_of_lt h, Nat.add_zero]

theorem info_Rect : (Try.prog.info? 71).map (fun i => (i.zero, i.size, i.bytes)) = some (some (.agg #[.int .i64 0, .int .i64 0, .int .i64 0, .int .i64 0]), 4, 32) := by kernel_rfl

set_option maxHeartbeats 1000000 in
set_option maxRecDepth 100000 in
theorem pieces_ok (x0 y0 x1 y1 : Int) (w : World) (h0 : 0 ≤ x0) (h1 : x0 ≤ x1) (h2 : x1 < 1024) (h3 : 0 ≤ y0) (h4 : y0 ≤ y1) (h5 : y1 < 1024) :
    Calls Try.prog 44 #[.agg #[.int .i64 x0, .int .i64 y0, .int .i64 x1, .int .i64 y1]] w fun r w' => ∃ v, r = .returned v ∧ Below w.heap.size w w' ∧
      w'.ownsRow w.heap.size 71 4 v (nx x0 x1 * nx y0 y1) (pcells ⟨x0, y0, x1, y1⟩ (nx x0 x1 * nx y0 y1)) := by
  go_enter Try.func44, Try.ntmps44
  go_wp2_with fail
  refine (right_ok _ _ _ _ _ h0 h1 h2 h3 h4 h5).mono ?_
  rintro e w1 ⟨rfl, hb⟩
  have hB := below_next (below_alloc1 _ _) hb
  have hs : w.heap.size + 1 ≤ w1.heap.size := by have := hb.size; rw [alloc_size] at this; exact this
  have c0 := below_blk hb (blk_new w _)
  clear hb
  have k_0 := cells_w c0 0 rfl
  have k_1 := cells_w c0 1 rfl
  have k_2 := cells_w c0 2 rfl
  have k_3 := cells_w c0 3 rfl
  go_wp2_with (go_at_call 67; refine (floor_any _ _ h3 (by omega)).mono ?_; rintro e w' ⟨rfl, rfl⟩)
  have hny : ((nx y0 y1 : Nat) : Int) = y1 / 16 - y0 / 16 + 1 := by unfold nx; omega
  have hnx : ((nx x0 x1 : Nat) : Int) = x1 / 16 - x0 / 16 + 1 := by unfold nx; omega
  have Hny := Lib.hid hny
  have Hnx := Lib.hid hnx
  clear hny hnx k_0 k_1 k_2 k_3
  go_loopg [3, 4] (nx y0 y1) (fun k v3 v4 wr => ∃ j : Nat, Hid (j + k = nx y0 y1) ∧ v4 = .int .i64 ((y0 / 16 + j) * 16) ∧ wr.ownsRow w1.heap.size 71 4 v3 (nx x0 x1 * j) (pcells ⟨x0, y0, x1, y1⟩ (nx x0 x1 * j)) ∧ Below w1.heap.size w1 wr)
  case atStart => exact ⟨0, Nat.zero_add _, by simp, by simpa [pcells] using World.ownsRow_nil _ _ _ _, Below.refl _ _⟩
  case round =>
    obtain ⟨j, hj, rfl, hown, hbr⟩ := hrel
    have cr := below_blk hbr c0
    have k_0 := cells_w cr 0 rfl
    have k_1 := cells_w cr 1 rfl
    have k_2 := cells_w cr 2 rfl
    have k_3 := cells_w cr 3 rfl
    cases gk with
    | zero =>
      have ht : decide ((y0 / 16 + (j : Int)) * 16 ≤ y1) = false := decide_eq_false (by have := Hny.out; have := hj.out; omega)
      go_wp2_with fail
      go_ret
      have e : j = nx y0 y1 := hj.out
      subst e
      refine ⟨_, rfl, hB.trans (hbr.mono (by omega)), ?_⟩
      exact own_mono hown (by omega)
    | succ m =>
      have ht : decide ((y0 / 16 + (j : Int)) * 16 ≤ y1) = true := decide_eq_true (by have := Hny.out; have := hj.out; omega)
      have hj' : j + 1 ≤ nx y0 y1 := by have := hj.out; omega
      have hyb : (y0 / 16 + (j : Int)) * 16 ≤ 1023 := by have := Hny.out; omega
      have hyb0 : 0 ≤ (y0 / 16 + (j : Int)) * 16 := by omega
      go_wp2_with (go_at_call 67; refine (floor_any _ _ h0 (by omega)).mono ?_; rintro e w' ⟨rfl, rfl⟩)
      clear cr k_0 k_1 k_2 k_3
      go_loopg [3, 5] (nx x0 x1) (fun k v3 v5 wi => ∃ i : Nat, Hid (i + k = nx x0 x1) ∧ v5 = .int .i64 ((x0 / 16 + i) * 16) ∧ wi.ownsRow w1.heap.size 71 4 v3 (nx x0 x1 * j + i) (pcells ⟨x0, y0, x1, y1⟩ (nx x0 x1 * j + i)) ∧ Below w1.heap.size w1 wi)
      case atStart => exact ⟨0, Nat.zero_add _, by simp, hown, hbr⟩
      case round =>
        clear hown hbr
        obtain ⟨i, hi, rfl, hown, hbr⟩ := hrel
        have cr := below_blk hbr c0
        have k_0 := cells_w cr 0 rfl
        have k_1 := cells_w cr 1 rfl
        have k_2 := cells_w cr 2 rfl
        have k_3 := cells_w cr 3 rfl
        cases gk with
        | zero =>
          have ht2 : decide ((x0 / 16 + (i : Int)) * 16 ≤ x1) = false := decide_eq_false (by have := Hnx.out; have := hi.out; omega)
          go_wp2_with fail
          go_roundg m
          case measure => omega
          case rel =>
            have e : i = nx x0 x1 := hi.out
            subst e
            refine ⟨j + 1, ?_, ?_, ?_, hbr⟩
            · have := hj.out
              exact (show j + 1 + m = _ by omega)
            · exact congrArg (Value.int .i64) (by omega)
            · exact hown
        | succ m2 =>
          have hi' : i + 1 ≤ nx x0 x1 := by have := hi.out; omega
          have ht2 : decide ((x0 / 16 + (i : Int)) * 16 ≤ x1) = true := decide_eq_true (by have := Hnx.out; omega)
          have hxb : (x0 / 16 + (i : Int)) * 16 ≤ 1023 := by have := Hnx.out; omega
          have hxb0 : 0 ≤ (x0 / 16 + (i : Int)) * 16 := by omega
          have hnj : nx x0 x1 * j + i ≤ 5000 := by
            have a1 : nx x0 x1 ≤ 64 := by have := Hnx.out; omega
            have a2 : j ≤ 64 := by have := Hny.out; omega
            have := Nat.mul_le_mul a1 a2
            omega
          have hwz := hbr.size
          go_wp2_with (at_builtin; refine append_el w1.heap.size rfl (.tmp 49) (.tmp 51) 102 71 _ 4 32 rfl Try.underlying102 info_Rect rfl (by omega) _ _ _ _ rfl _ rfl ?_ rfl ?_ (hown.alloc _) ?_ ?_ ?_ ?_)
          · simp
          · intro u hu; simp at hu; rcases hu with rfl | rfl | rfl | rfl <;> rfl
          · simp; omega
          · omega
          · omega
          · intro v1 w2 hown2 hb2
            go_wp2_with fail
            go_roundg m2
            case measure => omega
            case rel =>
              refine ⟨i + 1, ?_, ?_, ?_, (hbr.alloc hwz _).trans hb2⟩
              · have := hi.out
                exact (show i + 1 + m2 = _ by omega)
              · exact congrArg (Value.int .i64) (by omega)
              · have e := piece_at ⟨x0, y0, x1, y1⟩ j i (show i < nx x0 x1 by omega)
                have e2 := pcells_succ ⟨x0, y0, x1, y1⟩ (nx x0 x1 * j + i)
                rw [e] at e2
                rw [show nx x0 x1 * j + (i + 1) = nx x0 x1 * j + i + 1 from rfl, e2]
                exact hown2
end Go.Proofs.Ytfnflgcalhiamaa
/- What a grid is in memory; its size, its cells read. -/
set_option linter.unusedVariables false
set_option linter.unusedSimpArgs false
namespace Go.Proofs.Ytfnflgcalhiamaa
open Go.RowKit

/-- Tiles across, down. -/
def acr (w : Int) : Nat := nx 0 (w - 1)
theorem acr_eq {w : Int} (h : 1 ≤ w) : ((acr w : Nat) : Int) = (w + 15) / 16 := by unfold acr nx; omega
theorem acr_bd {w : Int} (h : 1 ≤ w) (h2 : w ≤ 1024) : 1 ≤ acr w ∧ acr w ≤ 64 := by have := acr_eq h; omega
/-- A tile's side: of tile t, where the whole side is w. -/
def side (w : Int) (t : Nat) : Int := imin (16 * t + 15) (w - 1) - 16 * t + 1
theorem side_bd {w : Int} {t : Nat} (h : 1 ≤ w) (ht : t < acr w) : 1 ≤ side w t ∧ side w t ≤ 16 := by
  have := acr_eq h
  unfold side imin
  split <;> omega
/-- The values of tile i. -/
def tileF (f : Int → Int → Int) (w : Int) (i : Nat) : Int → Int → Int := fun x y => f (16 * (i % acr w : Nat) + x) (16 * (i / acr w : Nat) + y)

/-- A grid's parts. -/
structure GridRaw (W : World) (g : Nat) (F : Nat → Prop) (w h : Int) (f : Int → Int → Int) (a n cap : Nat) (ps : Array Value) (s : Nat → Nat) (Fs : Nat → Nat → Prop) : Prop where
  w1 : 1 ≤ w
  w2 : w ≤ 1024
  h1 : 1 ≤ h
  h2 : h ≤ 1024
  own : F g
  owna : F a
  ne : a ≠ g
  lt : ∀ k, F k → k < W.heap.size
  n_eq : n = acr w * acr h
  cap_le : n ≤ cap
  grid : W.heap[g]? = some (.cells #[.int .i64 w, .int .i64 h, .int .i64 ((w + 15) / 16), .slice (some ⟨a, 0, none⟩) n cap] 101 (0, 0))
  row : W.heap[a]? = some (.cells ps 104 (0, 0))
  ptr : ∀ i, i < n → ps[i]? = some (.pointer (some ⟨s i, 0, none⟩))
  slab : ∀ i, i < n → SlabAt W (s i) (Fs i) (side w (i % acr w)) (side h (i / acr w)) (tileF f w i)
  sub : ∀ i k, i < n → Fs i k → F k ∧ k ≠ g ∧ k ≠ a
  apart : ∀ i j k, i < n → j < n → i ≠ j → Fs i k → ¬ Fs j k
/-- A grid at a block. -/
def GridAt (W : World) (g : Nat) (F : Nat → Prop) (w h : Int) (f : Int → Int → Int) : Prop := ∃ a n cap ps s Fs, GridRaw W g F w h f a n cap ps s Fs

section
variable {W W2 : World} {g : Nat} {F S : Nat → Prop} {w h : Int} {f f' : Int → Int → Int} {a n cap : Nat} {ps : Array Value} {s : Nat → Nat} {Fs : Nat → Nat → Prop}
theorem GridRaw.keep (H : GridRaw W g F w h f a n cap ps s Fs) (hs : W.heap.size ≤ W2.heap.size) (hk : ∀ k, F k → W2.heap[k]? = W.heap[k]?) : GridRaw W2 g F w h f a n cap ps s Fs :=
  ⟨H.w1, H.w2, H.h1, H.h2, H.own, H.owna, H.ne, fun k hF => Nat.lt_of_lt_of_le (H.lt k hF) hs, H.n_eq, H.cap_le, (hk g H.own).trans H.grid, (hk a H.owna).trans H.row, H.ptr,
    fun i hi => (H.slab i hi).keep hs (fun k hF => hk k (H.sub i k hi hF).1), H.sub, H.apart⟩
theorem GridRaw.below (H : GridRaw W g F w h f a n cap ps s Fs) (hb : Below W.heap.size W W2) : GridRaw W2 g F w h f a n cap ps s Fs := H.keep hb.size (fun k hF => hb.block k (H.lt k hF))
theorem GridAt.keep (H : GridAt W g F w h f) (hs : W.heap.size ≤ W2.heap.size) (hk : ∀ k, F k → W2.heap[k]? = W.heap[k]?) : GridAt W2 g F w h f := by
  obtain ⟨a, n, cap, ps, s, Fs, H⟩ := H
  exact ⟨a, n, cap, ps, s, Fs, H.keep hs hk⟩
theorem GridAt.below (H : GridAt W g F w h f) (hb : Below W.heap.size W W2) : GridAt W2 g F w h f := by
  obtain ⟨a, n, cap, ps, s, Fs, H⟩ := H
  exact ⟨a, n, cap, ps, s, Fs, H.below hb⟩
theorem GridAt.mod (H : GridAt W g F w h f) (hb : Mod S W W2) (hn : ∀ k, F k → ¬ S k) : GridAt W2 g F w h f := by
  obtain ⟨a, n, cap, ps, s, Fs, H⟩ := H
  exact ⟨a, n, cap, ps, s, Fs, H.keep hb.size (fun k hF => hb.block k (H.lt k hF) (hn k hF))⟩
theorem GridAt.dims (H : GridAt W g F w h f) : 1 ≤ w ∧ w ≤ 1024 ∧ 1 ≤ h ∧ h ≤ 1024 := by
  obtain ⟨a, n, cap, ps, s, Fs, H⟩ := H
  exact ⟨H.w1, H.w2, H.h1, H.h2⟩
theorem GridAt.head (H : GridAt W g F w h f) : ∃ c, W.heap[g]? = some (.cells #[.int .i64 w, .int .i64 h, .int .i64 ((w + 15) / 16), c] 101 (0, 0)) := by
  obtain ⟨a, n, cap, ps, s, Fs, H⟩ := H
  exact ⟨_, H.grid⟩
theorem GridAt.lt (H : GridAt W g F w h f) : ∀ k, F k → k < W.heap.size := by
  obtain ⟨a, n, cap, ps, s, Fs, H⟩ := H
  exact H.lt
theorem GridAt.own (H : GridAt W g F w h f) : F g := by
  obtain ⟨a, n, cap, ps, s, Fs, H⟩ := H
  exact H.own
/-- The tile in which a cell lies, and where in it. -/
theorem tile_of {x y : Int} (hw : 1 ≤ w) (hh : 1 ≤ h) (hx : 0 ≤ x) (hx2 : x < w) (hy : 0 ≤ y) (hy2 : y < h) :
    ∃ i : Nat, (i : Int) = y / 16 * ((w + 15) / 16) + x / 16 ∧ i < acr w * acr h ∧ ((i % acr w : Nat) : Int) = x / 16 ∧ ((i / acr w : Nat) : Int) = y / 16 ∧
      x % 16 < side w (i % acr w) ∧ y % 16 < side h (i / acr w) ∧ tileF f w i (x % 16) (y % 16) = f x y := by
  have e1 := acr_eq hw
  have e2 := acr_eq hh
  obtain ⟨tx, htx⟩ : ∃ tx : Nat, (tx : Int) = x / 16 := ⟨(x / 16).toNat, by omega⟩
  obtain ⟨ty, hty⟩ : ∃ ty : Nat, (ty : Int) = y / 16 := ⟨(y / 16).toNat, by omega⟩
  have l1 : tx < acr w := by omega
  have l2 : ty < acr h := by omega
  have hm : (ty * acr w + tx) % acr w = tx := by rw [Nat.mul_comm, Nat.mul_add_mod, Nat.mod_eq_of_lt l1]
  have hd : (ty * acr w + tx) / acr w = ty := by rw [Nat.mul_comm, Nat.mul_add_div (by omega), Nat.div_eq_of_lt l1, Nat.add_zero]
  refine ⟨ty * acr w + tx, ?_, ?_, ?_, ?_, ?_, ?_, ?_⟩
  · rw [← htx, ← hty, ← e1]; push_cast; rfl
  · have := Nat.mul_le_mul_right (acr w) (show ty + 1 ≤ acr h by omega)
    rw [Nat.add_mul] at this
    rw [Nat.mul_comm (acr w)]
    omega
  · rw [hm]; exact htx
  · rw [hd]; exact hty
  · rw [hm]; unfold side imin; split <;> omega
  · rw [hd]; unfold side imin; split <;> omega
  · unfold tileF
    rw [hm, hd, htx, hty]
    congr 1 <;> omega
end

theorem grid_All_ok (g : Nat) (F : Nat → Prop) (w h : Int) (f : Int → Int → Int) (W : World) (H : GridAt W g F w h f) :
    Calls Try.prog 24 #[.pointer (some ⟨g, 0, none⟩)] W fun e W' => e = .returned (.agg #[.int .i64 0, .int .i64 0, .int .i64 (w - 1), .int .i64 (h - 1)]) ∧ Below W.heap.size W W' := by
  obtain ⟨c, hg⟩ := H.head
  obtain ⟨d1, d2, d3, d4⟩ := H.dims
  go_enter Try.func24, Try.ntmps24
  go_wp2_with fail
  have n0 := below_blk (below_alloc1 W (.cells #[.int .i64 0, .int .i64 0, .int .i64 0, .int .i64 0] 71)) hg
  have k_0 := cells_q n0 0 rfl
  have k_1 := cells_q n0 1 rfl
  refine wp_tail 11 (by kernel_rfl) (by kernel_rfl) ?_
  simp only [List.take_succ_cons, List.take_zero, List.drop_succ_cons, List.drop_zero]
  repeat (go_big_quiet_step ((first | fail)))
  refine wpQuiet_nil ?_
  intro w2 hb2
  have n1 := below_blk hb2 (blk_new _ _)
  have hB := below_next (below_alloc1 _ _) hb2
  clear k_0 k_1
  have k_0 := cells_w n1 0 rfl
  have k_1 := cells_w n1 1 rfl
  have k_2 := cells_w n1 2 rfl
  have k_3 := cells_w n1 3 rfl
  have z_0 := blk_frozen n1 0
  have z_1 := blk_frozen n1 1
  have z_2 := blk_frozen n1 2
  have z_3 := blk_frozen n1 3
  go_wp2_with fail
  refine bodyPost_ret (res_c rfl rfl (blk_set (blk_set (blk_set (blk_set n1 0 _) 1 _) 2 _) 3 _) agg_Rect rfl) rfl ?_
  exact ⟨rfl, (((hB.setCell (Nat.le_refl _) _).setCell (Nat.le_refl _) _).setCell (Nat.le_refl _) _).setCell (Nat.le_refl _) _⟩

theorem grid_check_any (g : Nat) (F : Nat → Prop) (w h x0 y0 x1 y1 : Int) (f : Int → Int → Int) (W : World) (H : GridAt W g F w h f) :
    Calls Try.prog 49 #[.pointer (some ⟨g, 0, none⟩), .agg #[.int .i64 x0, .int .i64 y0, .int .i64 x1, .int .i64 y1]] W fun e W' => e = .returned (.int .i64 (withinC x0 y0 x1 y1 w h)) ∧ Below W.heap.size W W' := by
  obtain ⟨c, hg⟩ := H.head
  obtain ⟨d1, d2, d3, d4⟩ := H.dims
  go_enter Try.func49, Try.ntmps49
  go_wp2_with fail
  have n0 := below_blk (below_alloc1 W (.cells #[.int .i64 x0, .int .i64 y0, .int .i64 x1, .int .i64 y1] 71)) hg
  have n1 := blk_new W (.cells #[.int .i64 x0, .int .i64 y0, .int .i64 x1, .int .i64 y1] 71)
  have k_0 := cells_q n0 0 rfl
  have k_1 := cells_q n0 1 rfl
  have j_0 := cells_q n1 0 rfl
  have j_1 := cells_q n1 1 rfl
  have j_2 := cells_q n1 2 rfl
  have j_3 := cells_q n1 3 rfl
  refine wp_quiet (by kernel_rfl) (by kernel_rfl) ?_
  repeat (go_big_quiet_step ((first | (go_at_call 43; exact Calls.quiet (within_any _ _ _ _ _ _ _ d1 d2 d3 d4)))))
  refine wpQuiet_nil ?_
  intro W2 hb2
  clear k_0 k_1 j_0 j_1 j_2 j_3 n0 n1
  go_wp2_with fail
  go_ret
  exact ⟨rfl, below_next (below_alloc1 _ _) hb2⟩

theorem grid_spot_any (x y : Int) (w : World) :
    Calls Try.prog 42 #[.agg #[.int .i64 x, .int .i64 y]] w fun e w' => e = .returned (.agg #[.int .i64 x, .int .i64 y, .int .i64 x, .int .i64 y]) ∧ Below w.heap.size w w' := by
  go_enter Try.func42, Try.ntmps42
  go_wp2
  refine bodyPost_ret (res_c rfl rfl (blk_new2 _ _ _) agg_Rect rfl) rfl ?_
  exact ⟨rfl, below_alloc (below_alloc1 _ _) _⟩
theorem grid_inner_any (x y : Int) (w : World) (hx : 0 ≤ x) (hy : 0 ≤ y) :
    Calls Try.prog 53 #[.int .i64 x, .int .i64 y] w fun e w' => e = .returned (.agg #[.int .i64 (x % 16), .int .i64 (y % 16)]) ∧ Below w.heap.size w w' := by
  go_enter Try.func53, Try.ntmps53
  go_wp2
  refine bodyPost_ret (res_c rfl rfl (blk_new _ _) agg_Cell rfl) rfl ?_
  exact ⟨rfl, below_alloc1 _ _⟩

set_option maxHeartbeats 1000000 in
theorem grid_slab_ok (g : Nat) (F : Nat → Prop) (w h x y : Int) (f : Int → Int → Int) (W : World) (a n cap : Nat) (ps : Array Value) (s : Nat → Nat) (Fs : Nat → Nat → Prop) (H : GridRaw W g F w h f a n cap ps s Fs)
    (i : Nat) (hi : (i : Int) = y / 16 * ((w + 15) / 16) + x / 16) (hi2 : i < n) (hx : 0 ≤ x) (hx2 : x < 1024) (hy : 0 ≤ y) (hy2 : y < 1024) :
    Calls Try.prog 51 #[.pointer (some ⟨g, 0, none⟩), .int .i64 x, .int .i64 y] W fun e W' => e = .returned (.pointer (some ⟨s i, 0, none⟩)) ∧ Below W.heap.size W W' := by
  have hg := H.grid
  have w1 := H.w1
  have w2 := H.w2
  have hm := mul_bd (a := y / 16) (b := (w + 15) / 16) (A := 64) (B := 64) (by omega) (by omega) (by omega) (by omega)
  obtain ⟨hm0, hm1⟩ := hm
  have wm : wrap64 (y / 16 * ((w + 15) / 16)) = y / 16 * ((w + 15) / 16) := wrap64_id (by omega) (by omega)
  have wi : wrap64 (y / 16 * ((w + 15) / 16) + x / 16) = (i : Int) := by rw [hi]; exact wrap64_id (by omega) (by omega)
  have wi2 : y / 16 * ((w + 15) / 16) + x / 16 = (i : Int) := hi.symm
  have hp := (blk_cell H.row i).trans (H.ptr i hi2)
  have kp := fun d os => cell_regrown hp d os
  have hcap := H.cap_le
  have hin : (i : Int) < (n : Int) := by omega
  have hi0 : (0 : Int) ≤ (i : Int) := by omega
  clear hi hp
  go_enter Try.func51, Try.ntmps51
  go_wp2_with fail
  have k_0 := cells_q hg 0 rfl
  have k_1 := cells_q hg 1 rfl
  have k_2 := cells_q hg 2 rfl
  have k_3 := cells_q hg 3 rfl
  refine wp_quiet (by kernel_rfl) (by kernel_rfl) ?_
  repeat (go_big_quiet_step ((first | fail)))
  refine wpQuiet_nil ?_
  intro w2' hb2
  clear k_0 k_1 k_2 k_3 kp
  go_wp2_with fail
  go_ret
  exact ⟨rfl, hb2⟩
end Go.Proofs.Ytfnflgcalhiamaa
/- slab.At. -/
set_option linter.unusedVariables false
set_option linter.unusedSimpArgs false
namespace Go.Proofs.Ytfnflgcalhiamaa
open Go.RowKit

theorem flat_at (v i : Int) (w : World) :
    Calls Try.prog 104 #[.int .i32 v, .int .i64 i] w fun e w' => e = .returned (.int .i64 (wrap64 v)) ∧ w = w' := by
  go_enter Try.func104, Try.ntmps104
  go_wp2
  go_ret
  exact ⟨rfl, rfl⟩
theorem rough_at (k n cap : Nat) (i v : Int) (w : World) (h0 : 0 ≤ i) (h1 : i < n) (hn : (n : Int) ≤ 1048576) (hc : w.cell? ⟨k, i.toNat, none⟩ = some (.int .i32 v)) :
    Calls Try.prog 105 #[.slice (some ⟨k, 0, none⟩) n cap, .int .i64 i] w fun e w' => e = .returned (.int .i64 (wrap64 v)) ∧ w = w' := by
  go_enter Try.func105, Try.ntmps105
  go_wp2
  go_ret
  exact ⟨rfl, rfl⟩

set_option maxHeartbeats 1000000 in
theorem slab_At_ok (b : Nat) (F : Nat → Prop) (w h x y : Int) (f : Int → Int → Int) (W : World) (H : SlabAt W b F w h f) (hx : 0 ≤ x) (hx2 : x < w) (hy : 0 ≤ y) (hy2 : y < h) :
    Calls Try.prog 52 #[.pointer (some ⟨b, 0, none⟩), .agg #[.int .i64 x, .int .i64 y]] W fun e W' => e = .returned (.tuple #[.int .i64 (f x y), .int .i64 0]) ∧ Below W.heap.size W W' := by
  obtain ⟨c, hb, hl⟩ := H.blk
  have w1 := H.w1
  have w2 := H.w2
  have h1 := H.h1
  have h2 := H.h2
  have bd := H.bd x y hx hx2 hy hy2
  rcases hl with ⟨v, rfl, hv1, hv2, hv⟩ | ⟨k, n, cap, cs, rfl, hF, hlt, hn, hcap, hk, hcs⟩
  · have hfv := hv x y hx hx2 hy hy2
    clear hv
    go_enter Try.func52, Try.ntmps52
    go_wp2_with fail
    refine (slab_spot_any _ _ _).mono ?_
    rintro e w1' ⟨rfl, hb1⟩
    have n0 := below_blk hb1 (below_blk (below_alloc1 _ _) hb)
    have n1 := below_blk hb1 (blk_new _ _)
    have hB := below_next (below_alloc1 _ _) hb1
    clear hb1
    go_wp2_with fail
    refine (slab_check_any b w h _ _ _ _ _ _ n0 w1 w2 h1 h2).mono ?_
    rw [withinC_ok.2 ⟨hx, Int.le_refl _, hx2, hy, Int.le_refl _, hy2⟩]
    rintro e w2' ⟨rfl, hb2⟩
    replace n0 := below_blk hb2 n0
    replace n1 := below_blk hb2 n1
    replace hB := below_next hB hb2
    clear hb2
    go_wp2_with fail
    have k_0 := cells_q n0 0 rfl
    have k_1 := cells_q n0 1 rfl
    have k_2 := cells_q n0 2 rfl
    have j_0 := cells_q n1 0 rfl
    have j_1 := cells_q n1 1 rfl
    have hm := mul_bd (A := 16) (B := 16) hy (by omega) (show 0 ≤ w by omega) w2
    obtain ⟨hm0, hm1⟩ := hm
    have hw := wrap64_id (x := y * w) (by omega) (by omega)
    refine wp_quiet (by kernel_rfl) (by kernel_rfl) ?_
    repeat (go_big_quiet_step ((first | (go_at_call 104; exact Calls.quiet ((flat_at _ _ _).mono (fun e w' h => ⟨h.1, by rw [← h.2]; exact Below.refl _ _⟩))))))
    refine wpQuiet_nil ?_
    intro w3 hb3
    go_wp2_with fail
    go_ret2
    exact ⟨ret2_int ((wrap64_id (by omega) (by omega)).trans hfv.symm), below_next hB hb3⟩
  · have hci := hcs x y hx hx2 hy hy2
    clear hcs
    go_enter Try.func52, Try.ntmps52
    go_wp2_with fail
    refine (slab_spot_any _ _ _).mono ?_
    rintro e w1' ⟨rfl, hb1⟩
    have n0 := below_blk hb1 (below_blk (below_alloc1 _ _) hb)
    have n1 := below_blk hb1 (blk_new _ _)
    have hB := below_next (below_alloc1 _ _) hb1
    have n2 := below_blk hb1 (below_blk (below_alloc1 _ _) hk)
    clear hb1
    go_wp2_with fail
    refine (slab_check_any b w h _ _ _ _ _ _ n0 w1 w2 h1 h2).mono ?_
    rw [withinC_ok.2 ⟨hx, Int.le_refl _, hx2, hy, Int.le_refl _, hy2⟩]
    rintro e w2' ⟨rfl, hb2⟩
    replace n0 := below_blk hb2 n0
    replace n1 := below_blk hb2 n1
    replace n2 := below_blk hb2 n2
    replace hB := below_next hB hb2
    clear hb2
    go_wp2_with fail
    have k_0 := cells_q n0 0 rfl
    have k_1 := cells_q n0 1 rfl
    have k_2 := cells_q n0 2 rfl
    have j_0 := cells_q n1 0 rfl
    have j_1 := cells_q n1 1 rfl
    have hm := mul_bd (A := 16) (B := 16) hy (by omega) (show 0 ≤ w by omega) w2
    obtain ⟨hm0, hm1⟩ := hm
    have hw := wrap64_id (x := y * w) (by omega) (by omega)
    have hi0 : y * w + x < w * h := by
      have := Int.mul_le_mul_of_nonneg_right (show y + 1 ≤ h by omega) (show 0 ≤ w by omega)
      rw [Int.add_mul] at this
      rw [Int.mul_comm w h]
      omega
    have hm2 := mul_bd (A := 16) (B := 16) (show 0 ≤ w by omega) w2 (show 0 ≤ h by omega) h2
    have hI := Lib.hid hi0
    have hN := Lib.hid hn
    clear hi0 hn
    have q := cells_q n2 _ hci
    refine wp_quiet (by kernel_rfl) (by kernel_rfl) ?_
    repeat (go_big_quiet_step ((first | (go_at_call 105; exact Calls.quiet ((rough_at k n cap _ (f x y) _ (by omega) (by have := hN.out; have := hI.out; omega) (by have := hN.out; omega) (q _ _)).mono (fun e w' h => ⟨h.1, by rw [← h.2]; exact Below.refl _ _⟩))))))
    refine wpQuiet_nil ?_
    intro w3 hb3
    go_wp2_with fail
    go_ret2
    exact ⟨ret2_int (wrap64_id (by omega) (by omega)), below_next hB hb3⟩
end Go.Proofs.Ytfnflgcalhiamaa
/- grid.At. -/
set_option linter.unusedVariables false
set_option linter.unusedSimpArgs false
namespace Go.Proofs.Ytfnflgcalhiamaa
open Go.RowKit

set_option maxHeartbeats 1000000 in
theorem grid_At_ok (g : Nat) (F : Nat → Prop) (w h x y : Int) (f : Int → Int → Int) (W : World) (H : GridAt W g F w h f) (hx : 0 ≤ x) (hx2 : x < w) (hy : 0 ≤ y) (hy2 : y < h) :
    Calls Try.prog 33 #[.pointer (some ⟨g, 0, none⟩), .agg #[.int .i64 x, .int .i64 y]] W fun e W' => e = .returned (.tuple #[.int .i64 (f x y), .int .i64 0]) ∧ Below W.heap.size W W' := by
  obtain ⟨d1, d2, d3, d4⟩ := H.dims
  go_enter Try.func33, Try.ntmps33
  go_wp2_with fail
  have n1 := blk_new W (.cells #[.int .i64 x, .int .i64 y] 53)
  have H1 := H.below (below_alloc1 W (.cells #[.int .i64 x, .int .i64 y] 53))
  have hB := below_alloc1 W (.cells #[.int .i64 x, .int .i64 y] 53)
  refine (grid_spot_any _ _ _).mono ?_
  rintro e w1 ⟨rfl, hb⟩
  replace n1 := below_blk hb n1
  replace H1 := H1.below hb
  replace hB := below_next hB hb
  clear hb
  go_wp2_with fail
  refine (grid_check_any g F w h _ _ _ _ f _ H1).mono ?_
  rw [withinC_ok.2 ⟨hx, Int.le_refl _, hx2, hy, Int.le_refl _, hy2⟩]
  rintro e w2 ⟨rfl, hb⟩
  replace n1 := below_blk hb n1
  replace H1 := H1.below hb
  replace hB := below_next hB hb
  clear hb
  go_wp2_with fail
  obtain ⟨a, n, cap, ps, s, Fs, HR⟩ := H1
  obtain ⟨i, hi, hi2, hm, hd, hsx, hsy, hf⟩ := tile_of (f := f) d1 d3 hx hx2 hy hy2
  rw [← HR.n_eq] at hi2
  have j_0 := cells_q n1 0 rfl
  have j_1 := cells_q n1 1 rfl
  have HI := Lib.hid hi
  have HF := Lib.hid hf
  clear hi hf hm hd
  refine wp_quiet (by kernel_rfl) (by kernel_rfl) ?_
  repeat (go_big_quiet_step ((first | (go_at_call 51; exact Calls.quiet (grid_slab_ok g F w h x y f _ a n cap ps s Fs (HR.below (below_regrown w2 _ _)) i HI.out hi2 hx (by omega) hy (by omega))) | (go_at_call 53; exact Calls.quiet (grid_inner_any x y _ hx hy)) | (go_at_call 52; exact Calls.quiet (slab_At_ok (s i) (Fs i) _ _ (x % 16) (y % 16) _ _ ((HR.slab i hi2).below (below_regrown w2 _ _)) (by omega) hsx (by omega) hsy)))))
  refine wpQuiet_nil ?_
  intro w3 hb3
  clear j_0 j_1
  go_wp2_with fail
  go_ret2
  exact ⟨ret2_int HF.out, below_next hB hb3⟩
end Go.Proofs.Ytfnflgcalhiamaa
/- grid.At, of any cell: its value, or no place. -/
set_option linter.unusedVariables false
set_option linter.unusedSimpArgs false
namespace Go.Proofs.Ytfnflgcalhiamaa
open Go.RowKit

/-- Is a cell in a size? -/
def inG (w h x y : Int) : Prop := 0 ≤ x ∧ x < w ∧ 0 ≤ y ∧ y < h
instance (w h x y : Int) : Decidable (inG w h x y) := by unfold inG; infer_instance
def atV (f : Int → Int → Int) (w h x y : Int) : Int := if inG w h x y then f x y else 0
def atC (w h x y : Int) : Int := if inG w h x y then 0 else 4
theorem atV_in {f : Int → Int → Int} {w h x y : Int} (H : inG w h x y) : atV f w h x y = f x y := if_pos H
theorem atC_in {w h x y : Int} (H : inG w h x y) : atC w h x y = 0 := if_pos H
theorem atV_out {f : Int → Int → Int} {w h x y : Int} (H : ¬ inG w h x y) : atV f w h x y = 0 := if_neg H
theorem atC_out {w h x y : Int} (H : ¬ inG w h x y) : atC w h x y = 4 := if_neg H

set_option maxHeartbeats 1000000 in
theorem grid_At_any (g : Nat) (F : Nat → Prop) (w h x y : Int) (f : Int → Int → Int) (W : World) (H : GridAt W g F w h f) :
    Calls Try.prog 33 #[.pointer (some ⟨g, 0, none⟩), .agg #[.int .i64 x, .int .i64 y]] W fun e W' => e = .returned (.tuple #[.int .i64 (atV f w h x y), .int .i64 (atC w h x y)]) ∧ Below W.heap.size W W' := by
  by_cases hin : inG w h x y
  · rw [atV_in hin, atC_in hin]
    exact grid_At_ok g F w h x y f W H hin.1 hin.2.1 hin.2.2.1 hin.2.2.2
  · rw [atV_out hin, atC_out hin]
    have hc : withinC x y x y w h = 4 := by
      unfold withinC
      rw [if_neg (fun z => hin ⟨z.1, z.2.1, z.2.2.2.2.1, z.2.2.2.2.2.1⟩)]
    clear hin
    go_enter Try.func33, Try.ntmps33
    go_wp2_with fail
    have H1 := H.below (below_alloc1 W (.cells #[.int .i64 x, .int .i64 y] 53))
    have hB := below_alloc1 W (.cells #[.int .i64 x, .int .i64 y] 53)
    refine (grid_spot_any _ _ _).mono ?_
    rintro e w1 ⟨rfl, hb⟩
    replace H1 := H1.below hb
    replace hB := below_next hB hb
    clear hb
    go_wp2_with fail
    refine (grid_check_any g F w h _ _ _ _ f _ H1).mono ?_
    rw [hc]
    rintro e w2 ⟨rfl, hb⟩
    replace hB := below_next hB hb
    go_wp2_with fail
    go_ret2
    exact ⟨rfl, hB⟩
end Go.Proofs.Ytfnflgcalhiamaa
/- A region that draws its order, in which a struct's room is made beside calls: laws of the room made, and of the struct laid into it. -/
set_option linter.unusedVariables false
set_option linter.unusedSimpArgs false
namespace Go.Proofs.Ytfnflgcalhiamaa
open Go.RowKit

theorem wp_alloc_new {P : Program} {o : Oper} {a : Act} {w : World} {K : Act → World → Prop} {Q : Exit → Act → World → Prop} (ty : TypeId) (ho : o.op = .alloc ty) (z : Array Value) (hz : (P.info? ty).map (·.zero) = some (some (.agg z)))
    (h : ∀ p w', Hid (p = w.heap.size ∧ Below w.heap.size w w' ∧ w'.heap[p]? = some (.cells z ty (0, 0))) → K (a.put o.dst (.pointer (some ⟨p, 0, none⟩))) w') : Oper.wp P o a w K Q := by
  obtain ⟨i, hi, hz⟩ := Option.map_eq_some_iff.1 hz
  have H := h w.heap.size (w.alloc (.cells z ty)) ⟨rfl, below_alloc1 _ _, blk_new _ _⟩
  unfold Oper.wp execOp
  simp only [ho]
  simp [Instr.alloc, zeroValue, typeInfo, hi, hz, newVar, newRow, Sem.run_bind, Sem.run_pure, Value.cells]
  exact H
theorem wp_store_new {P : Program} {o : Oper} {a : Act} {w : World} {K : Act → World → Prop} {Q : Exit → Act → World → Prop} (ty : TypeId) (x y : Operand) (ho : o.op = .store ty x y)
    (g : Nat) (cells : Array Value) (hx : a.eval x = .pointer (some ⟨g, 0, none⟩)) (hy : a.eval y = .agg cells)
    (t : TypeId) (old : Array Value) (hg : w.heap[g]? = some (.cells old t (0, 0))) (hi : (P.info? ty).map (·.size) = some cells.size)
    (hold : old.size = cells.size) (h1 : cells.all (·.oneCell') = true)
    (h : ∀ w', Hid (Mod (fun k => k = g) w w' ∧ w'.heap[g]? = some (.cells cells t (0, 0))) → K (a.put o.dst undef) w') : o.wp P a w K Q :=
  wp_store_row ty x y ho g cells hx hy t old hg hi hold h1 (h _ ⟨⟨rfl, rfl, rfl, by simp, fun k _ hk => setRow_other w g k cells hk⟩, setRow_heap w g old cells t (0, 0) hg⟩)
theorem new_ge {W9 w : World} {p : Nat} (h : Below W9.heap.size W9 w) (hp : p = w.heap.size) : Hid (W9.heap.size ≤ p) := by
  have := h.size
  exact (show W9.heap.size ≤ p by omega)
theorem new_ne {w : World} {p q : Nat} {o : Obj} (h : w.heap[q]? = some o) (hp : p = w.heap.size) : Hid (p ≠ q) := by
  have := blk_lt h
  exact (show p ≠ q by omega)
theorem below_mod {W9 w w' : World} {p : Nat} (h : Below W9.heap.size W9 w) (hm : Mod (fun k => k = p) w w') (hp : Hid (W9.heap.size ≤ p)) : Below W9.heap.size W9 w' :=
  h.trans (hm.below h.size (fun k hk => by rw [hk]; exact hp.out))
theorem cell_drew {W : World} {a : Addr} {v : Value} (h : W.cell? a = some v) : W.drew.cell? a = some v := h
theorem blk_new_at {W : World} {o : Obj} {k : Nat} (h : k = W.heap.size) : (W.alloc o).heap[k]? = some o := by rw [h]; exact blk_new W o
theorem blk_drew {W : World} {o : Obj} {k : Nat} (h : W.heap[k]? = some o) : W.drew.heap[k]? = some o := h
theorem below_drew1 {B : Nat} {w W : World} (h : Below B w W) : Below B w W.drew := ⟨h.os, h.tape, h.output, h.size, h.block⟩
theorem cell_alloc {W : World} {a : Addr} {v : Value} {o : Obj} (h : W.cell? a = some v) : (W.alloc o).cell? a = some v := below_cell (below_alloc1 W o) h
theorem Mod.cell {S : Nat → Prop} {w W : World} (h : Mod S w W) {a : Addr} {v : Value} (hc : w.cell? a = some v) (hn : ¬ S a.block) : W.cell? a = some v :=
  (World.cell?_of_block (w := w) (h.block _ (World.block_lt_of_cell? w a hc) hn)).trans hc
end Go.Proofs.Ytfnflgcalhiamaa

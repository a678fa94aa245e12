/- hachureref48.Steepest. -/
import Derived.Test.YtcomnpmkedabeaaDoorHorSteep
import Derived.Test.YtcomnpmkedabeaaDoorCmp24
import Derived.Test.YtcomnpmkedabeaaDoorNewCell
import Derived.BigRegion
import Derived.Deep.CutRange
set_option linter.unusedVariables false
set_option linter.unusedSimpArgs false
namespace Go.Proofs.YtcomnpmkedabeaaDoor
open Go.RowKit

theorem agg_Best : AggTy Tryd.prog 40 4 := ⟨⟨_, Tryd.underlying40⟩, by kernel_rfl⟩
theorem dX_cell {k : Nat} (h : k < 8) : (#[.int .i64 0, .int .i64 1, .int .i64 1, .int .i64 1, .int .i64 0, .int .i64 (-1), .int .i64 (-1), .int .i64 (-1)] : Array Value)[k]? = some (.int .i64 (dX k)) := by
  rcases (by omega : k = 0 ∨ k = 1 ∨ k = 2 ∨ k = 3 ∨ k = 4 ∨ k = 5 ∨ k = 6 ∨ k = 7) with rfl | rfl | rfl | rfl | rfl | rfl | rfl | rfl <;> rfl
theorem dY_cell {k : Nat} (h : k < 8) : (#[.int .i64 (-1), .int .i64 (-1), .int .i64 0, .int .i64 1, .int .i64 1, .int .i64 1, .int .i64 0, .int .i64 (-1)] : Array Value)[k]? = some (.int .i64 (dY k)) := by
  rcases (by omega : k = 0 ∨ k = 1 ∨ k = 2 ∨ k = 3 ∨ k = 4 ∨ k = 5 ∨ k = 6 ∨ k = 7) with rfl | rfl | rfl | rfl | rfl | rfl | rfl | rfl <;> rfl
/-- The best of the first j. -/
def bestRow (f : Int → Int → Int) (cx cy dx dy eye : Int) (j : Nat) : Array Value :=
  #[.int .i64 (bUp f cx cy dx dy eye j), .int .i64 ((best (rise f cx cy dx dy eye) j : Nat) : Int), .int .i64 (bAt (rise f cx cy dx dy eye) cx dx j), .int .i64 (bAt (rise f cx cy dx dy eye) cy dy j)]
theorem bestRow_take {f : Int → Int → Int} {cx cy dx dy eye : Int} {j : Nat} (h : best (rise f cx cy dx dy eye) j = 0 ∨ 0 < cmpS (rise f cx cy dx dy eye (j + 1)) ((j + 1 : Nat) : Int) (rise f cx cy dx dy eye (best (rise f cx cy dx dy eye) j)) ((best (rise f cx cy dx dy eye) j : Nat) : Int)) :
    bestRow f cx cy dx dy eye (j + 1) = #[.int .i64 (rise f cx cy dx dy eye (j + 1)), .int .i64 ((j : Int) + 1), .int .i64 (px cx dx (j + 1)), .int .i64 (px cy dy (j + 1))] := by
  have e : best (rise f cx cy dx dy eye) (j + 1) = j + 1 := by rw [best_succ, if_pos h]
  unfold bestRow bUp bAt
  rw [e, if_neg (by omega), if_neg (by omega), if_neg (by omega)]
  push_cast
  rfl
theorem bestRow_keep {f : Int → Int → Int} {cx cy dx dy eye : Int} {j : Nat} (h : ¬ (best (rise f cx cy dx dy eye) j = 0 ∨ 0 < cmpS (rise f cx cy dx dy eye (j + 1)) ((j + 1 : Nat) : Int) (rise f cx cy dx dy eye (best (rise f cx cy dx dy eye) j)) ((best (rise f cx cy dx dy eye) j : Nat) : Int))) :
    bestRow f cx cy dx dy eye (j + 1) = bestRow f cx cy dx dy eye j := by
  have e : best (rise f cx cy dx dy eye) (j + 1) = best (rise f cx cy dx dy eye) j := by rw [best_succ, if_neg h]
  unfold bestRow bUp bAt
  rw [e]
theorem bUp_bd {f : Int → Int → Int} {cx cy dx dy eye : Int} {j : Nat} (he : -4294967296 ≤ eye ∧ eye ≤ 4294967296) (hm : ∀ i, i ≤ j → -2147483648 ≤ f (px cx dx i) (px cy dy i) ∧ f (px cx dx i) (px cy dy i) ≤ 2147483647) (hz : best (rise f cx cy dx dy eye) j ≠ 0) :
    bUp f cx cy dx dy eye j = rise f cx cy dx dy eye (best (rise f cx cy dx dy eye) j) ∧ -1099511627776 ≤ bUp f cx cy dx dy eye j ∧ bUp f cx cy dx dy eye j ≤ 1099511627776 := by
  have e : bUp f cx cy dx dy eye j = rise f cx cy dx dy eye (best (rise f cx cy dx dy eye) j) := by unfold bUp; rw [if_neg hz]
  refine ⟨e, ?_⟩
  have h1 := hm _ (best_le (rise f cx cy dx dy eye) j)
  rw [e]
  generalize best (rise f cx cy dx dy eye) j = b at *
  unfold rise
  omega
/-- The answer. -/
def Ref48Out (f : Int → Int → Int) (cx cy dx dy eye : Int) (n : Nat) (W : World) (e : Ending) (W' : World) : Prop :=
  e = .returned (.agg (bestRow f cx cy dx dy eye n)) ∧ Below W.heap.size W W'

set_option maxHeartbeats 4000000 in
set_option maxRecDepth 100000 in
theorem ref48_ok (ad : Addr) (cap N : Nat) (u : Nat → Int) (w h x y hi : Int) (k n : Nat) (W : World) (w1 : 1 ≤ w) (w2 : w ≤ 1024) (h1 : 1 ≤ h) (h2 : h ≤ 1024) (hN : (N : Int) = w * h) (hrow : RowAt W ad N u) (hu : ∀ j, j < N → -2147483648 ≤ u j ∧ u j ≤ 2147483647)
    (hc : mayC w h x y hi = 0) (hk : k < 8) (hr : Run w h x y (dX k) (dY k) n) :
    Calls Tryd.prog 11 #[.agg #[.int .i64 w, .int .i64 h, .slice (some ad) N cap], .agg #[.int .i64 x, .int .i64 y], .int .i64 hi, .int .i64 (k : Int)] W
      (Ref48Out (fun x y => u ((y * w + x).toNat)) x y (dX k) (dY k) (u ((y * w + x).toNat) + hi) n W) := by
  obtain ⟨f, hf⟩ : ∃ f : Int → Int → Int, (fun x y => u ((y * w + x).toNat)) = f := ⟨_, rfl⟩
  have hfxy : u ((y * w + x).toNat) = f x y := by rw [← hf]
  have hmay : ∀ x y, inG w h x y → -2147483648 ≤ f x y ∧ f x y ≤ 2147483647 := fun x y hin => by
    obtain ⟨a1, a2, a3, a4⟩ := hin
    have := idx_lt a1 a2 a3 a4
    rw [← hf]
    exact hu _ (by omega)
  have hat := model_At_any ad cap N u w h
  rw [hfxy]
  rw [hf] at hat ⊢
  have HAT := Lib.hid (fun x y W hr => hat x y W w1 w2 h1 h2 hN hr)
  have hd := dir_ok hk
  have hn := run_le w2 h2 hd hr
  obtain ⟨x1, x2, y1, y2, ne⟩ := hd
  obtain ⟨hin, i1, i2⟩ := mayC_0.1 hc
  have hfb := hmay x y hin
  have hvin := atV_in (f := f) hin
  have hcin := atC_in hin
  obtain ⟨b1, b2, b3, b4⟩ := hin
  obtain ⟨own, hown⟩ : ∃ own, f x y = own := ⟨_, rfl⟩
  rw [hown] at hvin hfb ⊢
  have HMAY := Lib.hid hmay
  have HEYE : Hid (-4294967296 ≤ own + hi ∧ own + hi ≤ 4294967296) := by
    show -4294967296 ≤ own + hi ∧ own + hi ≤ 4294967296
    omega
  have HR := Lib.hid hr
  have hNp : 0 < N := by have := Int.mul_le_mul w1 h1 (by omega) (by omega); omega
  clear ne hc hmay hr hu hN hf hfxy hat hown
  go_enter Tryd.func11, Tryd.ntmps11
  go_wp2_with fail
  have n_B := (below_alloc (below_alloc (below_alloc (below_alloc (below_alloc1 W (.cells #[.int .i64 w, .int .i64 h, .slice (some ad) N cap] 27)) (.cells #[.int .i64 x, .int .i64 y] 24)) (.cells #[.int .i64 0, .int .i64 0, .int .i64 0, .int .i64 0] 40)) (.cells #[.int .i64 0, .int .i64 1, .int .i64 1, .int .i64 1, .int .i64 0, .int .i64 (-1), .int .i64 (-1), .int .i64 (-1)] 2)) (.cells #[.int .i64 (-1), .int .i64 (-1), .int .i64 0, .int .i64 1, .int .i64 1, .int .i64 1, .int .i64 0, .int .i64 (-1)] 2))
  have n_0 : (((((W.alloc (.cells #[.int .i64 w, .int .i64 h, .slice (some ad) N cap] 27)).alloc (.cells #[.int .i64 x, .int .i64 y] 24)).alloc (.cells #[.int .i64 0, .int .i64 0, .int .i64 0, .int .i64 0] 40)).alloc (.cells #[.int .i64 0, .int .i64 1, .int .i64 1, .int .i64 1, .int .i64 0, .int .i64 (-1), .int .i64 (-1), .int .i64 (-1)] 2)).alloc (.cells #[.int .i64 (-1), .int .i64 (-1), .int .i64 0, .int .i64 1, .int .i64 1, .int .i64 1, .int .i64 0, .int .i64 (-1)] 2)).heap[W.heap.size]? = some (.cells #[.int .i64 w, .int .i64 h, .slice (some ad) N cap] 27) := below_blk (below_alloc (below_alloc (below_alloc (below_alloc1 (W.alloc (.cells #[.int .i64 w, .int .i64 h, .slice (some ad) N cap] 27)) (.cells #[.int .i64 x, .int .i64 y] 24)) (.cells #[.int .i64 0, .int .i64 0, .int .i64 0, .int .i64 0] 40)) (.cells #[.int .i64 0, .int .i64 1, .int .i64 1, .int .i64 1, .int .i64 0, .int .i64 (-1), .int .i64 (-1), .int .i64 (-1)] 2)) (.cells #[.int .i64 (-1), .int .i64 (-1), .int .i64 0, .int .i64 1, .int .i64 1, .int .i64 1, .int .i64 0, .int .i64 (-1)] 2)) (blk_new_at (W := W) (o := .cells #[.int .i64 w, .int .i64 h, .slice (some ad) N cap] 27) (by simp))
  have n_1 : (((((W.alloc (.cells #[.int .i64 w, .int .i64 h, .slice (some ad) N cap] 27)).alloc (.cells #[.int .i64 x, .int .i64 y] 24)).alloc (.cells #[.int .i64 0, .int .i64 0, .int .i64 0, .int .i64 0] 40)).alloc (.cells #[.int .i64 0, .int .i64 1, .int .i64 1, .int .i64 1, .int .i64 0, .int .i64 (-1), .int .i64 (-1), .int .i64 (-1)] 2)).alloc (.cells #[.int .i64 (-1), .int .i64 (-1), .int .i64 0, .int .i64 1, .int .i64 1, .int .i64 1, .int .i64 0, .int .i64 (-1)] 2)).heap[W.heap.size + 1]? = some (.cells #[.int .i64 x, .int .i64 y] 24) := below_blk (below_alloc (below_alloc (below_alloc1 ((W.alloc (.cells #[.int .i64 w, .int .i64 h, .slice (some ad) N cap] 27)).alloc (.cells #[.int .i64 x, .int .i64 y] 24)) (.cells #[.int .i64 0, .int .i64 0, .int .i64 0, .int .i64 0] 40)) (.cells #[.int .i64 0, .int .i64 1, .int .i64 1, .int .i64 1, .int .i64 0, .int .i64 (-1), .int .i64 (-1), .int .i64 (-1)] 2)) (.cells #[.int .i64 (-1), .int .i64 (-1), .int .i64 0, .int .i64 1, .int .i64 1, .int .i64 1, .int .i64 0, .int .i64 (-1)] 2)) (blk_new_at (W := (W.alloc (.cells #[.int .i64 w, .int .i64 h, .slice (some ad) N cap] 27))) (o := .cells #[.int .i64 x, .int .i64 y] 24) (by simp))
  have n_2 : (((((W.alloc (.cells #[.int .i64 w, .int .i64 h, .slice (some ad) N cap] 27)).alloc (.cells #[.int .i64 x, .int .i64 y] 24)).alloc (.cells #[.int .i64 0, .int .i64 0, .int .i64 0, .int .i64 0] 40)).alloc (.cells #[.int .i64 0, .int .i64 1, .int .i64 1, .int .i64 1, .int .i64 0, .int .i64 (-1), .int .i64 (-1), .int .i64 (-1)] 2)).alloc (.cells #[.int .i64 (-1), .int .i64 (-1), .int .i64 0, .int .i64 1, .int .i64 1, .int .i64 1, .int .i64 0, .int .i64 (-1)] 2)).heap[W.heap.size + 1 + 1]? = some (.cells #[.int .i64 0, .int .i64 0, .int .i64 0, .int .i64 0] 40) := below_blk (below_alloc (below_alloc1 (((W.alloc (.cells #[.int .i64 w, .int .i64 h, .slice (some ad) N cap] 27)).alloc (.cells #[.int .i64 x, .int .i64 y] 24)).alloc (.cells #[.int .i64 0, .int .i64 0, .int .i64 0, .int .i64 0] 40)) (.cells #[.int .i64 0, .int .i64 1, .int .i64 1, .int .i64 1, .int .i64 0, .int .i64 (-1), .int .i64 (-1), .int .i64 (-1)] 2)) (.cells #[.int .i64 (-1), .int .i64 (-1), .int .i64 0, .int .i64 1, .int .i64 1, .int .i64 1, .int .i64 0, .int .i64 (-1)] 2)) (blk_new_at (W := ((W.alloc (.cells #[.int .i64 w, .int .i64 h, .slice (some ad) N cap] 27)).alloc (.cells #[.int .i64 x, .int .i64 y] 24))) (o := .cells #[.int .i64 0, .int .i64 0, .int .i64 0, .int .i64 0] 40) (by simp))
  have n_3 : (((((W.alloc (.cells #[.int .i64 w, .int .i64 h, .slice (some ad) N cap] 27)).alloc (.cells #[.int .i64 x, .int .i64 y] 24)).alloc (.cells #[.int .i64 0, .int .i64 0, .int .i64 0, .int .i64 0] 40)).alloc (.cells #[.int .i64 0, .int .i64 1, .int .i64 1, .int .i64 1, .int .i64 0, .int .i64 (-1), .int .i64 (-1), .int .i64 (-1)] 2)).alloc (.cells #[.int .i64 (-1), .int .i64 (-1), .int .i64 0, .int .i64 1, .int .i64 1, .int .i64 1, .int .i64 0, .int .i64 (-1)] 2)).heap[W.heap.size + 1 + 1 + 1]? = some (.cells #[.int .i64 0, .int .i64 1, .int .i64 1, .int .i64 1, .int .i64 0, .int .i64 (-1), .int .i64 (-1), .int .i64 (-1)] 2) := below_blk (below_alloc1 ((((W.alloc (.cells #[.int .i64 w, .int .i64 h, .slice (some ad) N cap] 27)).alloc (.cells #[.int .i64 x, .int .i64 y] 24)).alloc (.cells #[.int .i64 0, .int .i64 0, .int .i64 0, .int .i64 0] 40)).alloc (.cells #[.int .i64 0, .int .i64 1, .int .i64 1, .int .i64 1, .int .i64 0, .int .i64 (-1), .int .i64 (-1), .int .i64 (-1)] 2)) (.cells #[.int .i64 (-1), .int .i64 (-1), .int .i64 0, .int .i64 1, .int .i64 1, .int .i64 1, .int .i64 0, .int .i64 (-1)] 2)) (blk_new_at (W := (((W.alloc (.cells #[.int .i64 w, .int .i64 h, .slice (some ad) N cap] 27)).alloc (.cells #[.int .i64 x, .int .i64 y] 24)).alloc (.cells #[.int .i64 0, .int .i64 0, .int .i64 0, .int .i64 0] 40))) (o := .cells #[.int .i64 0, .int .i64 1, .int .i64 1, .int .i64 1, .int .i64 0, .int .i64 (-1), .int .i64 (-1), .int .i64 (-1)] 2) (by simp))
  have n_4 : (((((W.alloc (.cells #[.int .i64 w, .int .i64 h, .slice (some ad) N cap] 27)).alloc (.cells #[.int .i64 x, .int .i64 y] 24)).alloc (.cells #[.int .i64 0, .int .i64 0, .int .i64 0, .int .i64 0] 40)).alloc (.cells #[.int .i64 0, .int .i64 1, .int .i64 1, .int .i64 1, .int .i64 0, .int .i64 (-1), .int .i64 (-1), .int .i64 (-1)] 2)).alloc (.cells #[.int .i64 (-1), .int .i64 (-1), .int .i64 0, .int .i64 1, .int .i64 1, .int .i64 1, .int .i64 0, .int .i64 (-1)] 2)).heap[W.heap.size + 1 + 1 + 1 + 1]? = some (.cells #[.int .i64 (-1), .int .i64 (-1), .int .i64 0, .int .i64 1, .int .i64 1, .int .i64 1, .int .i64 0, .int .i64 (-1)] 2) := (blk_new_at (W := ((((W.alloc (.cells #[.int .i64 w, .int .i64 h, .slice (some ad) N cap] 27)).alloc (.cells #[.int .i64 x, .int .i64 y] 24)).alloc (.cells #[.int .i64 0, .int .i64 0, .int .i64 0, .int .i64 0] 40)).alloc (.cells #[.int .i64 0, .int .i64 1, .int .i64 1, .int .i64 1, .int .i64 0, .int .i64 (-1), .int .i64 (-1), .int .i64 (-1)] 2))) (o := .cells #[.int .i64 (-1), .int .i64 (-1), .int .i64 0, .int .i64 1, .int .i64 1, .int .i64 1, .int .i64 0, .int .i64 (-1)] 2) (by simp))
  obtain ⟨w2', hw2'⟩ : ∃ w2', (((((W.alloc (.cells #[.int .i64 w, .int .i64 h, .slice (some ad) N cap] 27)).alloc (.cells #[.int .i64 x, .int .i64 y] 24)).alloc (.cells #[.int .i64 0, .int .i64 0, .int .i64 0, .int .i64 0] 40)).alloc (.cells #[.int .i64 0, .int .i64 1, .int .i64 1, .int .i64 1, .int .i64 0, .int .i64 (-1), .int .i64 (-1), .int .i64 (-1)] 2)).alloc (.cells #[.int .i64 (-1), .int .i64 (-1), .int .i64 0, .int .i64 1, .int .i64 1, .int .i64 1, .int .i64 0, .int .i64 (-1)] 2)) = w2' := ⟨_, rfl⟩
  rw [hw2'] at n_0 n_1 n_2 n_3 n_4 n_B ⊢
  clear hw2'
  refine (HAT.out x y _ (hrow.below n_B)).mono ?_
  rw [hvin, hcin]
  rintro e w3 ⟨rfl, hb⟩
  replace n_0 := below_blk hb n_0
  replace n_1 := below_blk hb n_1
  replace n_2 := below_blk hb n_2
  replace n_3 := below_blk hb n_3
  replace n_4 := below_blk hb n_4
  have hB := below_next n_B hb
  clear hb n_B
  go_wp2_with fail
  have l4 := blk_lt n_4
  have hbA := below_alloc1 w3 (.cells #[.int .i64 0, .int .i64 0, .int .i64 0, .int .i64 0] 40)
  have nO := blk_new w3 (.cells #[.int .i64 0, .int .i64 0, .int .i64 0, .int .i64 0] 40)
  obtain ⟨w4, hw4⟩ : ∃ w4, w3.alloc (.cells #[.int .i64 0, .int .i64 0, .int .i64 0, .int .i64 0] 40) = w4 := ⟨_, rfl⟩
  obtain ⟨O, hO⟩ : ∃ O, w3.heap.size = O := ⟨_, rfl⟩
  obtain ⟨B, hBn⟩ : ∃ B, W.heap.size = B := ⟨_, rfl⟩
  have HBN := Lib.hid hBn
  rw [hw4] at hbA nO ⊢
  rw [hBn] at n_0 n_1 n_2 n_3 n_4
  rw [hO] at nO
  have HOB : Hid (B + 4 < O) := by
    show B + 4 < O
    omega
  replace n_0 := below_blk hbA n_0
  replace n_1 := below_blk hbA n_1
  replace n_2 := below_blk hbA n_2
  replace n_3 := below_blk hbA n_3
  replace n_4 := below_blk hbA n_4
  have hrow4 := Lib.hid (hrow.below (below_next hB hbA))
  have hB4 := below_next hB hbA
  have hsz4 := blk_lt nO
  have HWO : Hid (W.heap.size ≤ O) := by
    show W.heap.size ≤ O
    omega
  have had : Hid (ad.block ≠ O) := by
    show ad.block ≠ O
    have := World.block_lt_of_cell? W _ (hrow 0 hNp)
    rw [add_block] at this
    omega
  rw [hO, hBn]
  clear hw4 hO hBn hbA hB l4 hrow
  go_loopg [14] n (fun q v14 wr => ∃ j : Nat, Hid (j + q = n) ∧ v14 = .int .i64 ((j : Int) + 1) ∧ Mod (fun k => k = O) w4 wr ∧ wr.heap[O]? = some (.cells (bestRow f x y (dX k) (dY k) (own + hi) j) 40 (0, 0)))
  case atStart => exact ⟨0, Nat.zero_add _, rfl, Mod.refl _ _, nO⟩
  case round =>
    clear nO
    obtain ⟨j, hj, rfl, hmod, nO⟩ := hrel
    have hjn : j ≤ n := by have := hj.out; omega
    have q1 := px_bd (c := x) x1 x2 (j + 1)
    have q2 := px_bd (c := y) y1 y2 (j + 1)
    have e1 : px x (dX k) (j + 1) = x + ((j : Int) + 1) * dX k := by unfold px; push_cast; rfl
    have e2 : px y (dY k) (j + 1) = y + ((j : Int) + 1) * dY k := by unfold px; push_cast; rfl
    obtain ⟨X, hX⟩ : ∃ X, px x (dX k) (j + 1) = X := ⟨_, rfl⟩
    obtain ⟨Y, hY⟩ : ∃ Y, px y (dY k) (j + 1) = Y := ⟨_, rfl⟩
    obtain ⟨MX, hMX⟩ : ∃ MX, ((j : Int) + 1) * dX k = MX := ⟨_, rfl⟩
    obtain ⟨MY, hMY⟩ : ∃ MY, ((j : Int) + 1) * dY k = MY := ⟨_, rfl⟩
    rw [hX] at e1 q1
    rw [hY] at e2 q2
    rw [hMX] at e1
    rw [hMY] at e2
    have p1 : wrap64 (((j : Int) + 1) * dX k) = MX := by rw [hMX]; exact wrap64_id (by omega) (by omega)
    have p2 : wrap64 (((j : Int) + 1) * dY k) = MY := by rw [hMY]; exact wrap64_id (by omega) (by omega)
    have p3 : wrap64 (x + MX) = X := by rw [wrap64_id (by omega) (by omega)]; exact e1.symm
    have p4 : wrap64 (y + MY) = Y := by rw [wrap64_id (by omega) (by omega)]; exact e2.symm
    have HX := Lib.hid (And.intro hX hY)
    have ht : decide ((j : Int) + 1 < 2000) = true := decide_eq_true (by omega)
    have m0 := hmod.blk n_0 (show ¬ (B = O) by have := HOB.out; omega)
    have m1 := hmod.blk n_1 (show ¬ (B + 1 = O) by have := HOB.out; omega)
    have m3 := hmod.blk n_3 (show ¬ (B + 1 + 1 + 1 = O) by have := HOB.out; omega)
    have m4 := hmod.blk n_4 (show ¬ (B + 1 + 1 + 1 + 1 = O) by have := HOB.out; omega)
    have d1 := (blk_cell m3 k).trans (dX_cell hk)
    have d2 := (blk_cell m4 k).trans (dY_cell hk)
    have f1 := fun d os => cell_regrown d1 d os
    have f2 := fun d os => cell_regrown d2 d os
    have hk8 : (k : Int) < 8 := by omega
    clear hX hY hMX hMY e1 e2 q1 q2
    have a0 := cells_w m1 0 rfl
    have a1 := cells_w m1 1 rfl
    have c0 := cell_drew a0
    have c1 := cell_drew a1
    have c2 := cell_drew d1
    have c3 := cell_drew d2
    have c4 := fun o => cell_drew (cell_alloc (o := o) a0)
    have c5 := fun o => cell_drew (cell_alloc (o := o) a1)
    have c6 := fun o => cell_drew (cell_alloc (o := o) d1)
    have c7 := fun o => cell_drew (cell_alloc (o := o) d2)
    clear f1 f2
    go_wp2_with fail
    go_cut [15] from 27 to 83 (fun v15 wx => v15 = .pointer (some ⟨wr.heap.size, 0, none⟩) ∧ Below wr.heap.size wr wx ∧ wx.heap[wr.heap.size]? = some (.cells #[.int .i64 X, .int .i64 Y] 24 (0, 0)))
    case first =>
      clear hmod hj HX HR HAT HMAY HEYE hrow4 n_0 n_1 n_2 n_3 n_4 hB4 nO m0 m1 m3 m4
      go_region
      go_wp2_with fail
      go_meet
      exact ⟨rfl, below_drew1 (below_alloc1 _ _), blk_drew (blk_new _ _)⟩
    case rest =>
    obtain ⟨rfl, hb5, nD⟩ := hcut
    clear c0 c1 c2 c3 c4 c5 c6 c7 a0 a1 d1 d2 p1 p2 p3 p4 hk8
    obtain ⟨w5, hw5⟩ : ∃ w5, wc = w5 := ⟨_, rfl⟩
    obtain ⟨D, hD⟩ : ∃ D, wr.heap.size = D := ⟨_, rfl⟩
    have hDO : D ≠ O := by have := blk_lt nO; omega
    have m05 := below_blk hb5 m0
    have nO5 := below_blk hb5 nO
    have hrow5 := Lib.hid (((hrow4.out).mod hmod had.out).below hb5)
    have hM5 := hmod.then_below hb5
    rw [hw5] at nD m05 nO5 hrow5 hM5 ⊢
    rw [hD] at nD ⊢
    clear hw5 hb5 hD hmod nO m0 m1 m3 m4
    have i_0 := cells_w m05 0 rfl
    have i_1 := cells_w m05 1 rfl
    have i_2 := cells_w m05 2 rfl
    have l_0 := cells_w nD 0 rfl
    have l_1 := cells_w nD 1 rfl
    go_wp2_with fail
    refine (HAT.out X Y w5 hrow5.out).mono ?_
    rintro e w6 ⟨rfl, hb⟩
    have nD6 := below_blk hb nD
    have nO6 := below_blk hb nO5
    have hM6 := hM5.then_below hb
    have hrow6 := Lib.hid (hrow5.out.below hb)
    clear hb nD nO5 hM5 hrow5 i_0 i_1 i_2 m05 l_0 l_1
    cases gk with
    | zero =>
      have ej : j = n := hj.out
      have hout : ¬ inG w h X Y := by rw [← HX.out.1, ← HX.out.2, ej]; exact HR.out.2
      rw [atV_out hout, atC_out hout]
      have n26 := hM6.blk n_2 (show ¬ (B + 1 + 1 = O) by have := HOB.out; omega)
      unfold bestRow at nO6
      have o_0 := cells_w nO6 0 rfl
      have o_1 := cells_w nO6 1 rfl
      have o_2 := cells_w nO6 2 rfl
      have o_3 := cells_w nO6 3 rfl
      have b_0 := cells_w n26 0 rfl
      have b_1 := cells_w n26 1 rfl
      have b_2 := cells_w n26 2 rfl
      have b_3 := cells_w n26 3 rfl
      have z_0 := blk_frozen n26 0
      have z_1 := blk_frozen n26 1
      have z_2 := blk_frozen n26 2
      have z_3 := blk_frozen n26 3
      clear hout
      go_wp2_with fail
      refine bodyPost_ret (res_c rfl rfl (blk_set (blk_set (blk_set (blk_set n26 0 _) 1 _) 2 _) 3 _) agg_Best rfl) rfl ?_
      have hbb : Below W.heap.size W w6 := hB4.trans (hM6.below hB4.size (fun k hk => by have := HWO.out; omega))
      refine ⟨by rw [← ej]; rfl, (((hbb.setCell (by have := HBN.out; simp; omega) _).setCell (by have := HBN.out; simp; omega) _).setCell (by have := HBN.out; simp; omega) _).setCell (by have := HBN.out; simp; omega) _⟩
    | succ m =>
      have hlt : j + 1 ≤ n := by have := hj.out; omega
      have hin : inG w h X Y := by rw [← HX.out.1, ← HX.out.2]; exact HR.out.1 (j + 1) hlt
      rw [atV_in hin, atC_in hin]
      have hfb2 := HMAY.out X Y hin
      have hris : rise f x y (dX k) (dY k) (own + hi) (j + 1) = f X Y - own - hi := by unfold rise; rw [HX.out.1, HX.out.2]; omega
      have we1 : wrap64 (f X Y - own) = f X Y - own := wrap64_id (by omega) (by omega)
      have we2 : wrap64 (f X Y - own - hi) = f X Y - own - hi := wrap64_id (by omega) (by omega)
      obtain ⟨U, hU⟩ : ∃ U, f X Y - own - hi = U := ⟨_, rfl⟩
      rw [hU] at hris
      have we3 : wrap64 (f X Y - own - hi) = U := we2.trans hU
      clear we2
      have hUb : -1099511627776 ≤ U ∧ U ≤ 1099511627776 := by omega
      obtain ⟨hUb1, hUb2⟩ := hUb
      have HRI := Lib.hid hris
      have hbu := bUp_bd (f := f) (cx := x) (cy := y) (dx := dX k) (dy := dY k) (eye := own + hi) (j := j) HEYE.out (fun i hi2 => HMAY.out _ _ (HR.out.1 i (Nat.le_trans hi2 hjn)))
      have hbl := best_le (rise f x y (dX k) (dY k) (own + hi)) j
      have htk := bestRow_take (f := f) (cx := x) (cy := y) (dx := dX k) (dy := dY k) (eye := own + hi) (j := j)
      have hkp := bestRow_keep (f := f) (cx := x) (cy := y) (dx := dX k) (dy := dY k) (eye := own + hi) (j := j)
      rw [hris, HX.out.1, HX.out.2] at htk
      rw [hris] at hkp
      have nO7 := nO6
      unfold bestRow at nO6
      obtain ⟨b, hb⟩ : ∃ b, best (rise f x y (dX k) (dY k) (own + hi)) j = b := ⟨_, rfl⟩
      obtain ⟨V, hV⟩ : ∃ V, bUp f x y (dX k) (dY k) (own + hi) j = V := ⟨_, rfl⟩
      rw [hV, hb] at nO6
      rw [hb, hV] at hbu
      rw [hb] at htk hkp hbl
      have HTK := Lib.hid htk
      have HKP := Lib.hid hkp
      have HBU := Lib.hid hbu
      clear hin hris hfb2 hU htk hkp hbu hb hV
      have o_0 := cells_w nO6 0 rfl
      have o_1 := cells_w nO6 1 rfl
      have o_2 := cells_w nO6 2 rfl
      have o_3 := cells_w nO6 3 rfl
      have z_0 := blk_frozen nO6 0
      have z_1 := blk_frozen nO6 1
      have z_2 := blk_frozen nO6 2
      have z_3 := blk_frozen nO6 3
      have l_0 := cells_w nD6 0 rfl
      have l_1 := cells_w nD6 1 rfl
      by_cases hz : b = 0
      · have hzb : ((b : Int) == 0) = true := by simp [hz]
        have hzb2 : (b == 0) = true := by simp [hz]
        have HT := Lib.hid (HTK.out (.inl hz))
        clear hz nO7 hbl
        go_wp2_with fail
        go_roundg m
        case measure => omega
        case rel =>
          refine ⟨j + 1, by have := hj.out; exact (show j + 1 + m = n by omega), congrArg (Value.int .i64) (by push_cast; omega), (((hM6.setCell (p := ⟨O, 0, none⟩) (.inl rfl) _).setCell (p := ⟨O, 1, none⟩) (.inl rfl) _).setCell (p := ⟨O, 2, none⟩) (.inl rfl) _).setCell (p := ⟨O, 3, none⟩) (.inl rfl) _, ?_⟩
          rw [HT.out]
          exact blk_set (blk_set (blk_set (blk_set nO6 0 _) 1 _) 2 _) 3 _
      · have hzb : ((b : Int) == 0) = false := by simp [hz]
        have hzb2 : (b == 0) = false := by simp [hz]
        obtain ⟨ev, v1, v2⟩ := HBU.out hz
        have s1 : (1 : Int) ≤ (j : Int) + 1 := by omega
        have s2 : (j : Int) + 1 ≤ 1024 := by omega
        have s3 : (1 : Int) ≤ (b : Int) := by omega
        have s4 : (b : Int) ≤ 1024 := by omega
        have HZ := Lib.hid hz
        have HEV := Lib.hid ev
        clear hz ev hbl
        by_cases hm : 0 < cmpS U ((j : Int) + 1) V (b : Int)
        · have tm := decide_eq_true hm
          have HT := Lib.hid (HTK.out (.inr (by rw [← HEV.out]; push_cast; exact hm)))
          clear hm nO7
          go_wp2_with (go_at_call 23; refine (ref24_cmp_ok U ((j : Int) + 1) V (b : Int) _ s1 s2 s3 s4 hUb1 hUb2 v1 v2).mono ?_; rintro e w' ⟨rfl, rfl⟩)
          go_roundg m
          case measure => omega
          case rel =>
            refine ⟨j + 1, by have := hj.out; exact (show j + 1 + m = n by omega), congrArg (Value.int .i64) (by push_cast; omega), (((hM6.setCell (p := ⟨O, 0, none⟩) (.inl rfl) _).setCell (p := ⟨O, 1, none⟩) (.inl rfl) _).setCell (p := ⟨O, 2, none⟩) (.inl rfl) _).setCell (p := ⟨O, 3, none⟩) (.inl rfl) _, ?_⟩
            rw [HT.out]
            exact blk_set (blk_set (blk_set (blk_set nO6 0 _) 1 _) 2 _) 3 _
        · have tm := decide_eq_false hm
          have HT := Lib.hid (HKP.out (fun z => z.elim HZ.out (fun z => hm (by rw [← HEV.out] at z; push_cast at z; exact z))))
          clear hm
          go_wp2_with (go_at_call 23; refine (ref24_cmp_ok U ((j : Int) + 1) V (b : Int) _ s1 s2 s3 s4 hUb1 hUb2 v1 v2).mono ?_; rintro e w' ⟨rfl, rfl⟩)
          go_roundg m
          case measure => omega
          case rel =>
            refine ⟨j + 1, by have := hj.out; exact (show j + 1 + m = n by omega), congrArg (Value.int .i64) (by push_cast; omega), hM6, ?_⟩
            rw [HT.out]
            exact nO7
end Go.Proofs.YtcomnpmkedabeaaDoor

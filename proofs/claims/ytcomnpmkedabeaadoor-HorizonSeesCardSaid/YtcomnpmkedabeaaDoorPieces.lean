/- rect.Pieces: a rectangle by tiles. -/
import Derived.Test.YtcomnpmkedabeaaDoorRect2
import Derived.Deep.LoopGhost
import Derived.Maps.AppendAt
set_option linter.unusedVariables false
set_option linter.unusedSimpArgs false
namespace Go.Proofs.YtcomnpmkedabeaaDoor
open Go.RowKit

/-- How many tiles across a row of a rectangle. -/
def nx (x0 x1 : Int) : Nat := (x1 / 16 - x0 / 16 + 1).toNat
structure R4 where
  x0 : Int
  y0 : Int
  x1 : Int
  y1 : Int
def R4.cells (r : R4) : List Value := [.int .i64 r.x0, .int .i64 r.y0, .int .i64 r.x1, .int .i64 r.y1]
/-- What a tile and a rectangle have together. -/
def tileOf (r : R4) (tx ty : Int) : R4 := ⟨imax (tx * 16) r.x0, imax (ty * 16) r.y0, imin (tx * 16 + 16 - 1) r.x1, imin (ty * 16 + 16 - 1) r.y1⟩
def piece (r : R4) (k : Nat) : R4 := tileOf r (r.x0 / 16 + (k % nx r.x0 r.x1 : Nat)) (r.y0 / 16 + (k / nx r.x0 r.x1 : Nat))
def pcells (r : R4) (n : Nat) : List Value := (List.range n).flatMap fun k => (piece r k).cells
theorem pcells_succ (r : R4) (n : Nat) : pcells r (n + 1) = pcells r n ++ (piece r n).cells := by
  simp [pcells, List.range_succ]
theorem pcells_length (r : R4) (n : Nat) : (pcells r n).length = n * 4 := by
  induction n with
  | zero => rfl
  | succ n ih => rw [pcells_succ, List.length_append, ih]; simp [R4.cells]; omega

theorem piece_at (r : R4) (j i : Nat) (h : i < nx r.x0 r.x1) : piece r (nx r.x0 r.x1 * j + i) = tileOf r (r.x0 / 16 + (i : Int)) (r.y0 / 16 + (j : Int)) := by
  unfold piece
  rw [Nat.mul_add_mod, Nat.mod_eq_of_lt h, Nat.mul_add_div (by omega), Nat.div_eq_of_lt h, Nat.add_zero]

theorem info_Rect : (Tryd.prog.info? 73).map (fun i => (i.zero, i.size, i.bytes)) = some (some (.agg #[.int .i64 0, .int .i64 0, .int .i64 0, .int .i64 0]), 4, 32) := by kernel_rfl

set_option maxHeartbeats 1000000 in
set_option maxRecDepth 100000 in
theorem pieces_ok (x0 y0 x1 y1 : Int) (w : World) (h0 : 0 ≤ x0) (h1 : x0 ≤ x1) (h2 : x1 < 1024) (h3 : 0 ≤ y0) (h4 : y0 ≤ y1) (h5 : y1 < 1024) :
    Calls Tryd.prog 31 #[.agg #[.int .i64 x0, .int .i64 y0, .int .i64 x1, .int .i64 y1]] w fun r w' => ∃ v, r = .returned v ∧ Below w.heap.size w w' ∧
      w'.ownsRow w.heap.size 73 4 v (nx x0 x1 * nx y0 y1) (pcells ⟨x0, y0, x1, y1⟩ (nx x0 x1 * nx y0 y1)) := by
  go_enter Tryd.func31, Tryd.ntmps31
  go_wp2_with fail
  refine (right_ok _ _ _ _ _ h0 h1 h2 h3 h4 h5).mono ?_
  rintro e w1 ⟨rfl, hb⟩
  have hB := below_next (below_alloc1 _ _) hb
  have hs : w.heap.size + 1 ≤ w1.heap.size := by have := hb.size; rw [alloc_size] at this; exact this
  have c0 := below_blk hb (blk_new w _)
  clear hb
  have k_0 := cells_w c0 0 rfl
  have k_1 := cells_w c0 1 rfl
  have k_2 := cells_w c0 2 rfl
  have k_3 := cells_w c0 3 rfl
  go_wp2_with (go_at_call 52; refine (floor_any _ _ h3 (by omega)).mono ?_; rintro e w' ⟨rfl, rfl⟩)
  have hny : ((nx y0 y1 : Nat) : Int) = y1 / 16 - y0 / 16 + 1 := by unfold nx; omega
  have hnx : ((nx x0 x1 : Nat) : Int) = x1 / 16 - x0 / 16 + 1 := by unfold nx; omega
  have Hny := Lib.hid hny
  have Hnx := Lib.hid hnx
  clear hny hnx k_0 k_1 k_2 k_3
  go_loopg [3, 4] (nx y0 y1) (fun k v3 v4 wr => ∃ j : Nat, Hid (j + k = nx y0 y1) ∧ v4 = .int .i64 ((y0 / 16 + j) * 16) ∧ wr.ownsRow w1.heap.size 73 4 v3 (nx x0 x1 * j) (pcells ⟨x0, y0, x1, y1⟩ (nx x0 x1 * j)) ∧ Below w1.heap.size w1 wr)
  case atStart => exact ⟨0, Nat.zero_add _, by simp, by simpa [pcells] using World.ownsRow_nil _ _ _ _, Below.refl _ _⟩
  case round =>
    obtain ⟨j, hj, rfl, hown, hbr⟩ := hrel
    have cr := below_blk hbr c0
    have k_0 := cells_w cr 0 rfl
    have k_1 := cells_w cr 1 rfl
    have k_2 := cells_w cr 2 rfl
    have k_3 := cells_w cr 3 rfl
    cases gk with
    | zero =>
      have ht : decide ((y0 / 16 + (j : Int)) * 16 ≤ y1) = false := decide_eq_false (by have := Hny.out; have := hj.out; omega)
      go_wp2_with fail
      go_ret
      have e : j = nx y0 y1 := hj.out
      subst e
      refine ⟨_, rfl, hB.trans (hbr.mono (by omega)), ?_⟩
      exact own_mono hown (by omega)
    | succ m =>
      have ht : decide ((y0 / 16 + (j : Int)) * 16 ≤ y1) = true := decide_eq_true (by have := Hny.out; have := hj.out; omega)
      have hj' : j + 1 ≤ nx y0 y1 := by have := hj.out; omega
      have hyb : (y0 / 16 + (j : Int)) * 16 ≤ 1023 := by have := Hny.out; omega
      have hyb0 : 0 ≤ (y0 / 16 + (j : Int)) * 16 := by omega
      go_wp2_with (go_at_call 52; refine (floor_any _ _ h0 (by omega)).mono ?_; rintro e w' ⟨rfl, rfl⟩)
      clear cr k_0 k_1 k_2 k_3
      go_loopg [3, 5] (nx x0 x1) (fun k v3 v5 wi => ∃ i : Nat, Hid (i + k = nx x0 x1) ∧ v5 = .int .i64 ((x0 / 16 + i) * 16) ∧ wi.ownsRow w1.heap.size 73 4 v3 (nx x0 x1 * j + i) (pcells ⟨x0, y0, x1, y1⟩ (nx x0 x1 * j + i)) ∧ Below w1.heap.size w1 wi)
      case atStart => exact ⟨0, Nat.zero_add _, by simp, hown, hbr⟩
      case round =>
        clear hown hbr
        obtain ⟨i, hi, rfl, hown, hbr⟩ := hrel
        have cr := below_blk hbr c0
        have k_0 := cells_w cr 0 rfl
        have k_1 := cells_w cr 1 rfl
        have k_2 := cells_w cr 2 rfl
        have k_3 := cells_w cr 3 rfl
        cases gk with
        | zero =>
          have ht2 : decide ((x0 / 16 + (i : Int)) * 16 ≤ x1) = false := decide_eq_false (by have := Hnx.out; have := hi.out; omega)
          go_wp2_with fail
          go_roundg m
          case measure => omega
          case rel =>
            have e : i = nx x0 x1 := hi.out
            subst e
            refine ⟨j + 1, ?_, ?_, ?_, hbr⟩
            · have := hj.out
              exact (show j + 1 + m = _ by omega)
            · exact congrArg (Value.int .i64) (by omega)
            · exact hown
        | succ m2 =>
          have hi' : i + 1 ≤ nx x0 x1 := by have := hi.out; omega
          have ht2 : decide ((x0 / 16 + (i : Int)) * 16 ≤ x1) = true := decide_eq_true (by have := Hnx.out; omega)
          have hxb : (x0 / 16 + (i : Int)) * 16 ≤ 1023 := by have := Hnx.out; omega
          have hxb0 : 0 ≤ (x0 / 16 + (i : Int)) * 16 := by omega
          have hnj : nx x0 x1 * j + i ≤ 5000 := by
            have a1 : nx x0 x1 ≤ 64 := by have := Hnx.out; omega
            have a2 : j ≤ 64 := by have := Hny.out; omega
            have := Nat.mul_le_mul a1 a2
            omega
          have hwz := hbr.size
          go_wp2_with (at_builtin; refine append_el w1.heap.size rfl (.tmp 49) (.tmp 51) 79 73 _ 4 32 rfl Tryd.underlying79 info_Rect rfl (by omega) _ _ _ _ rfl _ rfl ?_ rfl ?_ (hown.alloc _) ?_ ?_ ?_ ?_)
          · simp
          · intro u hu; simp at hu; rcases hu with rfl | rfl | rfl | rfl <;> rfl
          · simp; omega
          · omega
          · omega
          · intro v1 w2 hown2 hb2
            go_wp2_with fail
            go_roundg m2
            case measure => omega
            case rel =>
              refine ⟨i + 1, ?_, ?_, ?_, (hbr.alloc hwz _).trans hb2⟩
              · have := hi.out
                exact (show i + 1 + m2 = _ by omega)
              · exact congrArg (Value.int .i64) (by omega)
              · have e := piece_at ⟨x0, y0, x1, y1⟩ j i (show i < nx x0 x1 by omega)
                have e2 := pcells_succ ⟨x0, y0, x1, y1⟩ (nx x0 x1 * j + i)
                rw [e] at e2
                rw [show nx x0 x1 * j + (i + 1) = nx x0 x1 * j + i + 1 from rfl, e2]
                exact hown2
end Go.Proofs.YtcomnpmkedabeaaDoor

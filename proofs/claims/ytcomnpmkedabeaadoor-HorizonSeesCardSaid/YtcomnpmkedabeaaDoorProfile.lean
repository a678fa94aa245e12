/- sight.Profile: values along a ray. -/
import Derived.Test.YtcomnpmkedabeaaDoorSight
set_option linter.unusedVariables false
set_option linter.unusedSimpArgs false
namespace Go.Proofs.YtcomnpmkedabeaaDoor
open Go.RowKit

/-- The value of a ray's i-th cell. -/
def rayV (f : Int → Int → Int) (w h ax ay bx by' : Int) (i : Nat) : Int := atV f w h (rX ax ay bx by' (i : Int)) (rY ax ay bx by' (i : Int))
/-- Values along a ray. -/
def ProfOut (f : Int → Int → Int) (w h ax ay bx by' : Int) (n : Nat) (W : World) (e : Ending) (W' : World) : Prop :=
  ∃ k, e = .returned (.tuple #[.slice (some ⟨k, 0, none⟩) (n + 1 : Nat) (n + 1 : Nat), .int .i64 0]) ∧ Below W.heap.size W W' ∧ ∀ i, i < n + 1 → W'.cell? ⟨k, i, none⟩ = some (.int .i64 (rayV f w h ax ay bx by' i))

set_option maxHeartbeats 4000000 in
set_option maxRecDepth 100000 in
theorem profile_ok (g : Nat) (F : Nat → Prop) (w h ax ay bx by' : Int) (n : Nat) (f : Int → Int → Int) (W : World) (HG : GridAt W g F w h f) (ha : inG w h ax ay) (hb : inG w h bx by') (hn : (n : Int) = rN ax ay bx by') :
    Calls Tryd.prog 24 #[.pointer (some ⟨g, 0, none⟩), .agg #[.int .i64 ax, .int .i64 ay], .agg #[.int .i64 bx, .int .i64 by']] W (ProfOut f w h ax ay bx by' n W) := by
  obtain ⟨d1, d2, d3, d4⟩ := HG.dims
  have HCN : Cans ax ay bx by' := ⟨ha.1, by have := ha.2.1; omega, ha.2.2.1, by have := ha.2.2.2; omega, hb.1, by have := hb.2.1; omega, hb.2.2.1, by have := hb.2.2.2; omega⟩
  have hnb := (r_bd HCN).2.2
  rw [← hn] at hnb
  have hva := atV_in (f := f) ha
  have hca := atC_in ha
  have hvb := atV_in (f := f) hb
  have hcb := atC_in hb
  have HN := Lib.hid hn
  have HCA := Lib.hid HCN
  clear ha hb hn HCN
  have hi0 : ∀ w : World, (Instr.index 88 (.agg #[.int .i64 ax, .int .i64 ay, .int .i64 bx, .int .i64 by']) (.int .i64 0)).run Tryd.prog w = .ok (.agg #[.int .i64 ax, .int .i64 ay]) w := fun _ => by kernel_rfl
  have hi1 : ∀ w : World, (Instr.index 88 (.agg #[.int .i64 ax, .int .i64 ay, .int .i64 bx, .int .i64 by']) (.int .i64 1)).run Tryd.prog w = .ok (.agg #[.int .i64 bx, .int .i64 by']) w := fun _ => by kernel_rfl
  go_enter Tryd.func24, Tryd.ntmps24
  go_wp2_with fail
  have n_B := (below_alloc (below_alloc1 W (.cells #[.int .i64 ax, .int .i64 ay] 24)) (.cells #[.int .i64 bx, .int .i64 by'] 24))
  have n_0 : ((W.alloc (.cells #[.int .i64 ax, .int .i64 ay] 24)).alloc (.cells #[.int .i64 bx, .int .i64 by'] 24)).heap[W.heap.size]? = some (.cells #[.int .i64 ax, .int .i64 ay] 24) := below_blk (below_alloc1 (W.alloc (.cells #[.int .i64 ax, .int .i64 ay] 24)) (.cells #[.int .i64 bx, .int .i64 by'] 24)) (blk_new_at (W := W) (o := .cells #[.int .i64 ax, .int .i64 ay] 24) (by simp))
  have n_1 : ((W.alloc (.cells #[.int .i64 ax, .int .i64 ay] 24)).alloc (.cells #[.int .i64 bx, .int .i64 by'] 24)).heap[W.heap.size + 1]? = some (.cells #[.int .i64 bx, .int .i64 by'] 24) := (blk_new_at (W := (W.alloc (.cells #[.int .i64 ax, .int .i64 ay] 24))) (o := .cells #[.int .i64 bx, .int .i64 by'] 24) (by simp))
  obtain ⟨w1, hw1⟩ : ∃ w1, ((W.alloc (.cells #[.int .i64 ax, .int .i64 ay] 24)).alloc (.cells #[.int .i64 bx, .int .i64 by'] 24)) = w1 := ⟨_, rfl⟩
  rw [hw1] at n_0 n_1 n_B ⊢
  clear hw1
  have HG1 := Lib.hid (HG.below n_B)
  clear HG
  go_loopg [22] 2 (fun q v22 wr => ∃ j : Nat, Hid (j + q = 2) ∧ v22 = .int .i64 (j : Int) ∧ Below w1.heap.size w1 wr)
  case atStart => exact ⟨0, rfl, rfl, Below.refl _ _⟩
  case round =>
    obtain ⟨j, hj, rfl, hbr⟩ := hrel
    rcases (show j = 0 ∨ j = 1 ∨ j = 2 by have := hj.out; omega) with rfl | rfl | rfl
    · go_wp2_with fail
      refine (grid_At_any g F w h ax ay f _ ((HG1.out.below hbr).below (below_alloc1 _ _))).mono ?_
      rw [hva, hca]
      rintro e w4 ⟨rfl, hb4⟩
      have hb5 := hbr.trans ((below_next (below_alloc1 _ _) hb4).mono hbr.size)
      go_wp2_with fail
      go_roundg 1
      case measure => have := hj.out; omega
      case rel => exact ⟨1, rfl, rfl, hb5⟩
    · go_wp2_with fail
      refine (grid_At_any g F w h bx by' f _ ((HG1.out.below hbr).below (below_alloc1 _ _))).mono ?_
      rw [hvb, hcb]
      rintro e w4 ⟨rfl, hb4⟩
      have hb5 := hbr.trans ((below_next (below_alloc1 _ _) hb4).mono hbr.size)
      go_wp2_with fail
      go_roundg 0
      case measure => have := hj.out; omega
      case rel => exact ⟨2, rfl, rfl, hb5⟩
    · have n0r := below_blk hbr n_0
      have n1r := below_blk hbr n_1
      have hBr := below_next n_B hbr
      have HG2 := HG1.out.below hbr
      clear hi0 hi1 hva hca hvb hcb hbr n_0 n_1 n_B HG1
      have i_0 := cells_w n0r 0 rfl
      have i_1 := cells_w n0r 1 rfl
      have l_0 := cells_w n1r 0 rfl
      have l_1 := cells_w n1r 1 rfl
      go_wp2_with fail
      refine (ray_row_ok ax ay bx by' n wr HCA.out HN.out).mono ?_
      rintro e w3 ⟨v, rfl, hb3, hown⟩
      obtain ⟨k1, cap1, rfl, hc1, hk1, hcl⟩ := pairs_cells hown (by omega)
      have HG3 := HG2.below hb3
      have hB3 := below_next hBr hb3
      have HCL := Lib.hid hcl
      clear hb3 hown hBr HG2 hcl i_0 i_1 l_0 l_1 n0r n1r
      obtain ⟨N, hN⟩ : ∃ N, n + 1 = N := ⟨_, rfl⟩
      have hNI : (n : Int) + 1 = (N : Int) := by omega
      rw [hN] at HCL hc1 ⊢
      have HNN := Lib.hid hN
      have hNb : N ≤ 1024 := by omega
      clear hN hNI
      go_wp2_with (at_make; refine make_one rfl (.tmp 42) (.tmp 42) 22 rfl 2 (.int .i64 0) 8 Tryd.underlying22 info_int64 rfl N rfl rfl (by omega) (by omega) ?_)
      have nR := blk_new w3 (.cells (Array.replicate N (.int .i64 0)) 2)
      have hbA := below_alloc1 w3 (.cells (Array.replicate N (.int .i64 0)) 2)
      obtain ⟨w5, hw5⟩ : ∃ w5, w3.alloc (.cells (Array.replicate N (.int .i64 0)) 2) = w5 := ⟨_, rfl⟩
      obtain ⟨R, hR⟩ : ∃ R, w3.heap.size = R := ⟨_, rfl⟩
      rw [hw5] at nR hbA ⊢
      rw [hR] at nR ⊢
      have hFR : Hid (∀ t, F t → t ≠ R) := fun t ht e => by have := HG3.lt t ht; omega
      have HG5 := Lib.hid (HG3.below hbA)
      have hB5 := below_next hB3 hbA
      have hWR : Hid (W.heap.size ≤ R) := by
        show W.heap.size ≤ R
        have := hB3.size; omega
      have hkR : Hid (k1 ≠ R) := by
        show k1 ≠ R
        have := World.block_lt_of_cell? w3 _ (HCL.out 0 (by have := HNN.out; omega)).1
        simp at this
        omega
      have HCL5 : Hid (∀ q, q < N → w5.cell? ⟨k1, q * 2, none⟩ = some (.int .i64 (rX ax ay bx by' (q : Int))) ∧ w5.cell? ⟨k1, q * 2 + 1, none⟩ = some (.int .i64 (rY ax ay bx by' (q : Int)))) := fun q hq => ⟨below_cell hbA (HCL.out q hq).1, below_cell hbA (HCL.out q hq).2⟩
      clear hw5 hR hbA HG3 hB3 HCL
      go_wp2_with fail
      go_loopg [46] N (fun q v46 wr => ∃ (j : Nat) (cs : Array Value), Hid (j + q = N) ∧ v46 = .int .i64 (j : Int) ∧ Mod (fun k => k = R) w5 wr ∧ wr.heap[R]? = some (.cells cs 2 (0, 0)) ∧ Hid (cs.size = N ∧ ∀ q, q < j → cs[q]? = some (.int .i64 (rayV f w h ax ay bx by' q))))
      case atStart => exact ⟨0, _, Nat.zero_add _, rfl, Mod.refl _ _, nR, by simp, fun q hq => by omega⟩
      case round =>
        clear nR hj
        obtain ⟨j, cs, hj, rfl, hmod, nR, HCS⟩ := hrel
        cases gk with
        | zero =>
          have ej : j = N := hj.out
          have ht : decide (j < N) = false := decide_eq_false (by omega)
          have ht2 : decide ((j : Int) < (N : Int)) = false := decide_eq_false (by omega)
          subst ej
          go_wp2_with fail
          go_ret2
          exact ⟨R, by rw [HNN.out]; rfl, hB5.trans (hmod.below hB5.size (fun k hk => by have := hWR.out; omega)), fun i hi => (blk_cell nR i).trans (HCS.out.2 i (by rw [HNN.out] at hi; exact hi))⟩
        | succ m =>
          have hjn : j < N := by have := hj.out; omega
          have ht : decide (j < N) = true := decide_eq_true hjn
          have ht2 : decide ((j : Int) < (N : Int)) = true := decide_eq_true (by omega)
          have hjn2 : (j : Int) < (N : Int) := by omega
          have c1 := hmod.cell (HCL5.out j hjn).1 hkR.out
          have c2 := hmod.cell (HCL5.out j hjn).2 hkR.out
          have HGr := Lib.hid (HG5.out.mod hmod hFR.out)
          go_wp2_with fail
          have hbA := below_alloc1 wr (.cells #[.int .i64 (rX ax ay bx by' (j : Int)), .int .i64 (rY ax ay bx by' (j : Int))] 24)
          refine (grid_At_any g F w h (rX ax ay bx by' (j : Int)) (rY ax ay bx by' (j : Int)) f _ (HGr.out.below hbA)).mono ?_
          rw [show atV f w h (rX ax ay bx by' (j : Int)) (rY ax ay bx by' (j : Int)) = rayV f w h ax ay bx by' j from rfl]
          rintro e w6 ⟨rfl, hb6⟩
          have hb7 := below_next hbA hb6
          have nR7 := below_blk hb7 nR
          have hM7 := hmod.then_below hb7
          clear hbA hb6 hb7 nR hmod HGr c1 c2
          obtain ⟨o1, ho1⟩ : ∃ v, cs[j]? = some v := ⟨cs[j]'(by have := HCS.out.1; omega), Array.getElem?_eq_getElem _⟩
          have c1 := cells_w nR7 j ho1
          have z1 := blk_frozen nR7 j
          clear ho1
          go_wp2_with fail
          go_roundg m
          case measure => omega
          case rel =>
            refine ⟨j + 1, _, by have := hj.out; exact (show j + 1 + m = N by omega), congrArg (Value.int .i64) (by push_cast; omega), hM7.setCell (p := ⟨R, j, none⟩) (.inl rfl) _, blk_set nR7 _ _, by simp only [Array.size_setIfInBounds]; exact HCS.out.1, fun q hq => ?_⟩
            have hsz := HCS.out.1
            by_cases e : q = j
            · subst e
              rw [Array.getElem?_setIfInBounds_self_of_lt (by omega)]
            · rw [Array.getElem?_setIfInBounds_ne (by omega)]
              exact HCS.out.2 q (by omega)
end Go.Proofs.YtcomnpmkedabeaaDoor

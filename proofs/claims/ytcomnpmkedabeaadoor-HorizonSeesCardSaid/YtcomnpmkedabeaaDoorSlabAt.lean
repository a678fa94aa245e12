/- slab.At. -/
import Derived.Test.YtcomnpmkedabeaaDoorSlab
set_option linter.unusedVariables false
set_option linter.unusedSimpArgs false
namespace Go.Proofs.YtcomnpmkedabeaaDoor
open Go.RowKit

theorem flat_at (v i : Int) (w : World) :
    Calls Tryd.prog 104 #[.int .i32 v, .int .i64 i] w fun e w' => e = .returned (.int .i64 (wrap64 v)) ∧ w = w' := by
  go_enter Tryd.func104, Tryd.ntmps104
  go_wp2
  go_ret
  exact ⟨rfl, rfl⟩
theorem rough_at (k n cap : Nat) (i v : Int) (w : World) (h0 : 0 ≤ i) (h1 : i < n) (hn : (n : Int) ≤ 1048576) (hc : w.cell? ⟨k, i.toNat, none⟩ = some (.int .i32 v)) :
    Calls Tryd.prog 105 #[.slice (some ⟨k, 0, none⟩) n cap, .int .i64 i] w fun e w' => e = .returned (.int .i64 (wrap64 v)) ∧ w = w' := by
  go_enter Tryd.func105, Tryd.ntmps105
  go_wp2
  go_ret
  exact ⟨rfl, rfl⟩

set_option maxHeartbeats 1000000 in
theorem slab_At_ok (b : Nat) (F : Nat → Prop) (w h x y : Int) (f : Int → Int → Int) (W : World) (H : SlabAt W b F w h f) (hx : 0 ≤ x) (hx2 : x < w) (hy : 0 ≤ y) (hy2 : y < h) :
    Calls Tryd.prog 59 #[.pointer (some ⟨b, 0, none⟩), .agg #[.int .i64 x, .int .i64 y]] W fun e W' => e = .returned (.tuple #[.int .i64 (f x y), .int .i64 0]) ∧ Below W.heap.size W W' := by
  obtain ⟨c, hb, hl⟩ := H.blk
  have w1 := H.w1
  have w2 := H.w2
  have h1 := H.h1
  have h2 := H.h2
  have bd := H.bd x y hx hx2 hy hy2
  rcases hl with ⟨v, rfl, hv1, hv2, hv⟩ | ⟨k, n, cap, cs, rfl, hF, hlt, hn, hcap, hk, hcs⟩
  · have hfv := hv x y hx hx2 hy hy2
    clear hv
    go_enter Tryd.func59, Tryd.ntmps59
    go_wp2_with fail
    refine (slab_spot_any _ _ _).mono ?_
    rintro e w1' ⟨rfl, hb1⟩
    have n0 := below_blk hb1 (below_blk (below_alloc1 _ _) hb)
    have n1 := below_blk hb1 (blk_new _ _)
    have hB := below_next (below_alloc1 _ _) hb1
    clear hb1
    go_wp2_with fail
    refine (slab_check_any b w h _ _ _ _ _ _ n0 w1 w2 h1 h2).mono ?_
    rw [withinC_ok.2 ⟨hx, Int.le_refl _, hx2, hy, Int.le_refl _, hy2⟩]
    rintro e w2' ⟨rfl, hb2⟩
    replace n0 := below_blk hb2 n0
    replace n1 := below_blk hb2 n1
    replace hB := below_next hB hb2
    clear hb2
    go_wp2_with fail
    have k_0 := cells_q n0 0 rfl
    have k_1 := cells_q n0 1 rfl
    have k_2 := cells_q n0 2 rfl
    have j_0 := cells_q n1 0 rfl
    have j_1 := cells_q n1 1 rfl
    have hm := mul_bd (A := 16) (B := 16) hy (by omega) (show 0 ≤ w by omega) w2
    obtain ⟨hm0, hm1⟩ := hm
    have hw := wrap64_id (x := y * w) (by omega) (by omega)
    refine wp_quiet (by kernel_rfl) (by kernel_rfl) ?_
    repeat (go_big_quiet_step ((first | (go_at_call 104; exact Calls.quiet ((flat_at _ _ _).mono (fun e w' h => ⟨h.1, by rw [← h.2]; exact Below.refl _ _⟩))))))
    refine wpQuiet_nil ?_
    intro w3 hb3
    go_wp2_with fail
    go_ret2
    exact ⟨ret2_int ((wrap64_id (by omega) (by omega)).trans hfv.symm), below_next hB hb3⟩
  · have hci := hcs x y hx hx2 hy hy2
    clear hcs
    go_enter Tryd.func59, Tryd.ntmps59
    go_wp2_with fail
    refine (slab_spot_any _ _ _).mono ?_
    rintro e w1' ⟨rfl, hb1⟩
    have n0 := below_blk hb1 (below_blk (below_alloc1 _ _) hb)
    have n1 := below_blk hb1 (blk_new _ _)
    have hB := below_next (below_alloc1 _ _) hb1
    have n2 := below_blk hb1 (below_blk (below_alloc1 _ _) hk)
    clear hb1
    go_wp2_with fail
    refine (slab_check_any b w h _ _ _ _ _ _ n0 w1 w2 h1 h2).mono ?_
    rw [withinC_ok.2 ⟨hx, Int.le_refl _, hx2, hy, Int.le_refl _, hy2⟩]
    rintro e w2' ⟨rfl, hb2⟩
    replace n0 := below_blk hb2 n0
    replace n1 := below_blk hb2 n1
    replace n2 := below_blk hb2 n2
    replace hB := below_next hB hb2
    clear hb2
    go_wp2_with fail
    have k_0 := cells_q n0 0 rfl
    have k_1 := cells_q n0 1 rfl
    have k_2 := cells_q n0 2 rfl
    have j_0 := cells_q n1 0 rfl
    have j_1 := cells_q n1 1 rfl
    have hm := mul_bd (A := 16) (B := 16) hy (by omega) (show 0 ≤ w by omega) w2
    obtain ⟨hm0, hm1⟩ := hm
    have hw := wrap64_id (x := y * w) (by omega) (by omega)
    have hi0 : y * w + x < w * h := by
      have := Int.mul_le_mul_of_nonneg_right (show y + 1 ≤ h by omega) (show 0 ≤ w by omega)
      rw [Int.add_mul] at this
      rw [Int.mul_comm w h]
      omega
    have hm2 := mul_bd (A := 16) (B := 16) (show 0 ≤ w by omega) w2 (show 0 ≤ h by omega) h2
    have hI := Lib.hid hi0
    have hN := Lib.hid hn
    clear hi0 hn
    have q := cells_q n2 _ hci
    refine wp_quiet (by kernel_rfl) (by kernel_rfl) ?_
    repeat (go_big_quiet_step ((first | (go_at_call 105; exact Calls.quiet ((rough_at k n cap _ (f x y) _ (by omega) (by have := hN.out; have := hI.out; omega) (by have := hN.out; omega) (q _ _)).mono (fun e w' h => ⟨h.1, by rw [← h.2]; exact Below.refl _ _⟩))))))
    refine wpQuiet_nil ?_
    intro w3 hb3
    go_wp2_with fail
    go_ret2
    exact ⟨ret2_int (wrap64_id (by omega) (by omega)), below_next hB hb3⟩
end Go.Proofs.YtcomnpmkedabeaaDoor

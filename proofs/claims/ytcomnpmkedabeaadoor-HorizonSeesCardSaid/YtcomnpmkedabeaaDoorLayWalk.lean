/- paint.lay. -/
import Derived.Test.YtcomnpmkedabeaaDoorLay
set_option linter.unusedVariables false
set_option linter.unusedSimpArgs false
namespace Go.Proofs.YtcomnpmkedabeaaDoor
open Go.RowKit

set_option maxHeartbeats 2000000 in
set_option maxRecDepth 100000 in
theorem paint_lay_ok (g : Nat) (F : Nat → Prop) (w h x0 y0 x1 y1 : Int) (f : Int → Int → Int) (W : World) (H : GridAt W g F w h f) (a0 : 0 ≤ x0) (a1 : x0 ≤ x1) (a2 : x1 < w) (a3 : 0 ≤ y0) (a4 : y0 ≤ y1) (a5 : y1 < h)
    (rw rh : Nat) (hrw : (rw : Int) = x1 - x0 + 1) (hrh : (rh : Int) = y1 - y0 + 1) (ad : Addr) (cap : Nat) (u : Nat → Int) (hu : ∀ j, j < rw * rh → -2147483648 ≤ u j ∧ u j ≤ 2147483647) (hrow : RowAt W ad (rw * rh) u) (hF : ¬ F ad.block) :
    Calls Tryd.prog 49 #[.pointer (some ⟨g, 0, none⟩), .agg #[.int .i64 x0, .int .i64 y0, .int .i64 x1, .int .i64 y1], .slice (some ad) (rw * rh) cap] W fun e W' => e = .returned (.tuple #[]) ∧ Filled g F w h (pasteF f x0 y0 x1 y1 rw u) W W' := by
  obtain ⟨d1, d2, d3, d4⟩ := H.dims
  have hm := Nat.mul_le_mul (show rw ≤ 1024 by omega) (show rh ≤ 1024 by omega)
  obtain ⟨N, hN⟩ : ∃ N, rw * rh = N := ⟨_, rfl⟩
  rw [hN] at hm hrow hu ⊢
  have hrw1 : 1 ≤ rw := by omega
  have HN := Lib.hid hN
  have Hrw := Lib.hid hrw
  have Hrh := Lib.hid hrh
  have HU := Lib.hid hu
  clear hN hu hrh
  go_enter Tryd.func49, Tryd.ntmps49
  go_wp2_with fail
  obtain ⟨w1, hw1⟩ : ∃ w1, W.alloc (.cells #[.int .i64 x0, .int .i64 y0, .int .i64 x1, .int .i64 y1] 73) = w1 := ⟨_, rfl⟩
  have n1 := blk_new W (.cells #[.int .i64 x0, .int .i64 y0, .int .i64 x1, .int .i64 y1] 73)
  have hB := below_alloc1 W (.cells #[.int .i64 x0, .int .i64 y0, .int .i64 x1, .int .i64 y1] 73)
  have hs1 := alloc_size W (.cells #[.int .i64 x0, .int .i64 y0, .int .i64 x1, .int .i64 y1] 73)
  rw [hw1] at n1 hB hs1 ⊢
  have hrow1 := hrow.below hB
  have H1 := H.below hB
  have hFW : ¬ F W.heap.size := fun hk => by have := H.lt _ hk; omega
  clear hw1 hrow
  go_loopg [6] N (fun q v6 wr => ∃ i : Nat, Hid (i + q = N) ∧ v6 = .int .i64 (i : Int) ∧ Filled g F w h (layF f x0 y0 x1 y1 rw u i) w1 wr)
  case atStart => exact ⟨0, Nat.zero_add _, rfl, F, Mod.refl _ _, fun k hk => .inl hk, by rw [lay_zero]; exact H1⟩
  case round =>
    obtain ⟨i, hi, rfl, F1, hM, hF1, HG⟩ := hrel
    obtain ⟨kk, hkk⟩ : ∃ kk, gk = kk := ⟨_, rfl⟩
    have HK := Lib.hid hkk
    rw [hkk] at hi
    clear hkk
    have nr := hM.blk n1 hFW
    have hrr := hrow1.mod hM hF
    by_cases hlt : i < N
    · have ht : decide (i < N) = true := decide_eq_true hlt
      have k_0 := cells_w nr 0 rfl
      have k_1 := cells_w nr 1 rfl
      have k_2 := cells_w nr 2 rfl
      have k_3 := cells_w nr 3 rfl
      go_wp2_with fail
      refine (nth_ok x0 y0 x1 y1 i _ a0 a1 (by omega) a3 a4 (by omega) (by omega) (by have h8 := Hrh.out; have h9 := HN.out; rw [← hrw, ← h8]; have : ((rw * rh : Nat) : Int) = rw * rh := by { push_cast; rfl }; omega)).mono ?_
      rw [← hrw, show (i : Int) % (rw : Int) = ((i % rw : Nat) : Int) by push_cast; rfl, show (i : Int) / (rw : Int) = ((i / rw : Nat) : Int) by push_cast; rfl]
      rintro e w2 ⟨rfl, hb⟩
      replace nr := below_blk hb nr
      replace hrr := hrr.below hb
      replace HG := HG.below hb
      replace hM := hM.then_below hb
      clear k_0 k_1 k_2 k_3 hb
      have hIm : i % rw < rw := Nat.mod_lt i (by omega)
      have hJd : i / rw < rh := Nat.div_lt_of_lt_mul (by rw [HN.out]; exact hlt)
      have hij := Nat.div_add_mod i rw
      have hij2 := Nat.mul_le_mul_left rw (show i / rw + 1 ≤ rh by omega)
      rw [Nat.mul_add, HN.out] at hij2
      have hNi : i + (rw - i % rw) ≤ N := by omega
      have Hst := Lib.hid (fun (c : Int) (n : Nat) => lay_step (f := f) (u := u) (x0 := x0) (y0 := y0) (x1 := x1) (y1 := y1) (c := c) (n := n) Hrw.out Hrh.out hrw1 (show i < rw * rh by rw [HN.out]; exact hlt))
      generalize hI : i % rw = I at *
      generalize hJ : i / rw = J at *
      have hJh := Lib.hid Hrh.out
      clear hij hij2 hI hJ
      go_wp2_with fail
      obtain ⟨w3, hw3⟩ : ∃ w3, w2.alloc (.cells #[.int .i64 (x0 + (I : Int)), .int .i64 (y0 + (J : Int))] 24) = w3 := ⟨_, rfl⟩
      have hb3 := below_alloc1 w2 (.cells #[.int .i64 (x0 + (I : Int)), .int .i64 (y0 + (J : Int))] 24)
      have n7 := blk_new w2 (.cells #[.int .i64 (x0 + (I : Int)), .int .i64 (y0 + (J : Int))] 24)
      rw [hw3] at hb3 n7 ⊢
      replace nr := below_blk hb3 nr
      replace hrr := hrr.below hb3
      replace HG := HG.below hb3
      replace hM := hM.then_below hb3
      clear hb3 hw3
      have HIm := Lib.hid hIm
      have HNi := Lib.hid hNi
      have hb3 := Below.refl w3.heap.size w3
      go_loopg [9] (rw - I - 1) (fun q v9 wi => ∃ n : Nat, Hid (I + n + q = rw) ∧ 1 ≤ n ∧ v9 = .int .i64 (n : Int) ∧ Hid (∀ t, t < n → u (i + t) = u i) ∧ Below w3.heap.size w3 wi)
      case atStart => exact ⟨1, show I + 1 + (rw - I - 1) = rw by omega, Nat.le_refl _, rfl, fun t ht => by rw [show t = 0 by omega, Nat.add_zero], hb3⟩
      case round =>
        clear hb3
        obtain ⟨n, hn, hn1, rfl, hrun, hb3⟩ := hrel
        have hnI : I + n ≤ rw := by have := hn.out; omega
        replace nr := below_blk hb3 nr
        replace n7 := below_blk hb3 n7
        replace hrr := hrr.below hb3
        replace HG := HG.below hb3
        replace hM := hM.then_below hb3
        have wq : IntKind.i64.wrap (x0 + (I : Int) + (n : Int)) = x0 + (I : Int) + (n : Int) := IntWalk.i64_in _ (by omega)
        have wp : IntKind.i64.wrap ((i : Int) + (n : Int)) = ((i + n : Nat) : Int) := by rw [IntWalk.i64_in _ (by omega)]; push_cast; rfl
        have wr2 : IntKind.i64.wrap (x0 + (I : Int) + (n : Int) - 1) = x0 + (I : Int) + (n : Int) - 1 := IntWalk.i64_in _ (by omega)
        have hinN : (i : Int) < (N : Int) := by omega
        have hci := hrr i hlt
        have qi := fun d os => cell_regrown hci d os
        have j7_0 := cells_q n7 0 rfl
        have j7_1 := cells_q n7 1 rfl
        have kr_0 := cells_q nr 0 rfl
        have kr_1 := cells_q nr 1 rfl
        have kr_2 := cells_q nr 2 rfl
        have kr_3 := cells_q nr 3 rfl
        cases gk with
        | zero =>
          have ht2 : decide (x0 + (I : Int) + (n : Int) ≤ x1) = false := decide_eq_false (by have := hn.out; omega)
          go_wp2_with fail
          refine wp_quiet (by kernel_rfl) (by kernel_rfl) ?_
          repeat (go_big_quiet_step ((first | fail)))
          refine wpQuiet_nil ?_
          intro w5 hb5
          clear j7_0 j7_1 kr_0 kr_1 kr_2 kr_3 qi
          replace nr := below_blk hb5 nr
          replace n7 := below_blk hb5 n7
          replace hrr := hrr.below hb5
          replace HG := HG.below hb5
          replace hM := hM.then_below hb5
          clear hb5
          go_wp2_with fail
          have hci := hrr i hlt
          have qi := fun d os => cell_regrown hci d os
          have j7_0 := cells_q n7 0 rfl
          have j7_1 := cells_q n7 1 rfl
          have kr_0 := cells_q nr 0 rfl
          have kr_1 := cells_q nr 1 rfl
          have kr_2 := cells_q nr 2 rfl
          have kr_3 := cells_q nr 3 rfl
          refine wp_tail 17 (by kernel_rfl) (by kernel_rfl) ?_
          simp only [List.take_succ_cons, List.take_zero, List.drop_succ_cons, List.drop_zero]
          repeat (go_big_quiet_step ((first | fail)))
          refine wpQuiet_nil ?_
          intro w6 hb6
          clear j7_0 j7_1 kr_0 kr_1 kr_2 kr_3 qi
          replace HG := HG.below hb6
          replace hM := hM.then_below hb6
          go_wp2_with fail
          refine (grid_Fill_ok g F1 w h (x0 + (I : Int)) (y0 + (J : Int)) (x0 + (I : Int) + (n : Int) - 1) (y0 + (J : Int)) (u i) _ w6 HG (by omega) (by omega) (by omega) (by omega) (by omega) (by have := hJh.out; omega) (HU.out i hlt).1 (HU.out i hlt).2).mono ?_
          rintro e w7 ⟨F2, rfl, hM2, hF2, HG2⟩
          rw [Hst.out (u i) n hn1 hnI hrun.out] at HG2
          have hM7 := hM.size
          go_wp2_with fail
          go_roundg (kk - n)
          case measure => have := HK.out; have := HNi.out; have := hi.out; omega
          case rel =>
            refine ⟨i + n, ?_, ?_, F2, hM.trans hM2 hF1, fun k hk => ?_, HG2⟩
            · have h1 := hi.out
              exact (show i + n + (kk - n) = N by omega)
            · exact congrArg (Value.int .i64) (by push_cast; omega)
            · rcases hF2 k hk with h1 | h1
              · exact hF1 k h1
              · exact .inr (by omega)
        | succ q =>
          have ht2 : decide (x0 + (I : Int) + (n : Int) ≤ x1) = true := decide_eq_true (by have := hn.out; omega)
          have hin2 : i + n < N := by have := hn.out; omega
          have hin3 : ((i + n : Nat) : Int) < (N : Int) := by omega
          have hcn := hrr (i + n) hin2
          have qn := fun d os => cell_regrown hcn d os
          by_cases he : u (i + n) = u i
          · have hbe : (u (i + n) == u i) = true := by simp [he]
            have HE := Lib.hid he
            clear he
            go_wp2_with fail
            refine wp_quiet (by kernel_rfl) (by kernel_rfl) ?_
            repeat (go_big_quiet_step ((first | fail)))
            refine wpQuiet_nil ?_
            intro w5 hb5
            clear j7_0 j7_1 kr_0 kr_1 kr_2 kr_3 qi qn
            go_wp2_with fail
            go_roundg q
            case measure => omega
            case rel =>
              refine ⟨n + 1, ?_, by omega, congrArg (Value.int .i64) (by push_cast; omega), ?_, hb3.trans (hb5.mono hb3.size)⟩
              · have h1 := hn.out
                exact (show I + (n + 1) + q = rw by omega)
              · intro t ht
                by_cases e : t = n
                · subst e; exact HE.out
                · exact hrun.out t (by omega)
          · have hbe : (u (i + n) == u i) = false := by simp [he]
            clear he
            go_wp2_with fail
            refine wp_quiet (by kernel_rfl) (by kernel_rfl) ?_
            repeat (go_big_quiet_step ((first | fail)))
            refine wpQuiet_nil ?_
            intro w5 hb5
            clear j7_0 j7_1 kr_0 kr_1 kr_2 kr_3 qi
            replace nr := below_blk hb5 nr
            replace n7 := below_blk hb5 n7
            replace hrr := hrr.below hb5
            replace HG := HG.below hb5
            replace hM := hM.then_below hb5
            clear hb5
            go_wp2_with fail
            have hci := hrr i hlt
            have qi := fun d os => cell_regrown hci d os
            have j7_0 := cells_q n7 0 rfl
            have j7_1 := cells_q n7 1 rfl
            have kr_0 := cells_q nr 0 rfl
            have kr_1 := cells_q nr 1 rfl
            have kr_2 := cells_q nr 2 rfl
            have kr_3 := cells_q nr 3 rfl
            refine wp_tail 17 (by kernel_rfl) (by kernel_rfl) ?_
            simp only [List.take_succ_cons, List.take_zero, List.drop_succ_cons, List.drop_zero]
            repeat (go_big_quiet_step ((first | fail)))
            refine wpQuiet_nil ?_
            intro w6 hb6
            clear j7_0 j7_1 kr_0 kr_1 kr_2 kr_3 qi
            replace HG := HG.below hb6
            replace hM := hM.then_below hb6
            go_wp2_with fail
            refine (grid_Fill_ok g F1 w h (x0 + (I : Int)) (y0 + (J : Int)) (x0 + (I : Int) + (n : Int) - 1) (y0 + (J : Int)) (u i) _ w6 HG (by omega) (by omega) (by omega) (by omega) (by omega) (by have := hJh.out; omega) (HU.out i hlt).1 (HU.out i hlt).2).mono ?_
            rintro e w7 ⟨F2, rfl, hM2, hF2, HG2⟩
            rw [Hst.out (u i) n hn1 hnI hrun.out] at HG2
            have hM7 := hM.size
            go_wp2_with fail
            go_roundg (kk - n)
            case measure => have := HK.out; have := HNi.out; have := hi.out; omega
            case rel =>
              refine ⟨i + n, ?_, ?_, F2, hM.trans hM2 hF1, fun k hk => ?_, HG2⟩
              · have h1 := hi.out
                exact (show i + n + (kk - n) = N by omega)
              · exact congrArg (Value.int .i64) (by push_cast; omega)
              · rcases hF2 k hk with h1 | h1
                · exact hF1 k h1
                · exact .inr (by omega)
    · have ht : decide (i < N) = false := decide_eq_false hlt
      have ei : i = N := by have := hi.out; omega
      have HE := Lib.hid ei
      clear ei
      go_wp2_with fail
      refine bodyPost_end (results_none rfl _ _ _) rfl ?_
      have hM2 := (Mod.of_below (S := F) hB).trans hM (fun _ x => .inl x)
      refine ⟨rfl, F1, hM2, fun k hk => (hF1 k hk).imp id (fun h => by omega), ?_⟩
      rw [HE.out, ← HN.out, lay_all Hrw.out Hrh.out] at HG
      exact HG
end Go.Proofs.YtcomnpmkedabeaaDoor

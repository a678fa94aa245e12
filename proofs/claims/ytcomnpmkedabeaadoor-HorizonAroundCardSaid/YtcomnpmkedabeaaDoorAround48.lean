/- hachurelaw48.HorizonAround: the walk. -/
import Derived.Test.YtcomnpmkedabeaaDoorRef48
import Derived.Test.YtcomnpmkedabeaaDoorAwake48
import Derived.Test.YtcomnpmkedabeaaDoorAround
import Derived.Test.YtcomnpmkedabeaaDoorMade
set_option linter.unusedVariables false
set_option linter.unusedSimpArgs false
namespace Go.Proofs.YtcomnpmkedabeaaDoor
open Go.RowKit

set_option maxHeartbeats 4000000 in
set_option maxRecDepth 100000 in
theorem around48_any (w h x y hi : Int) (v : Value) (n : Nat) (u : Nat → Int) (W : World) (hv : ArgAt W v n u) (hst : StepsAt W) :
    Calls Tryd.prog 4 #[.int .i64 w, .int .i64 h, v, .agg #[.int .i64 x, .int .i64 y], .int .i64 hi] W fun e W' => e = .returned (.bool true) ∧ Below W.heap.size W W' := by
  go_enter Tryd.func4, Tryd.ntmps4
  go_wp2_with fail
  have n_B := (below_alloc1 W (.cells #[.int .i64 x, .int .i64 y] 24))
  have n_0 : (W.alloc (.cells #[.int .i64 x, .int .i64 y] 24)).heap[W.heap.size]? = some (.cells #[.int .i64 x, .int .i64 y] 24) := (blk_new_at (W := W) (o := .cells #[.int .i64 x, .int .i64 y] 24) (by simp))
  obtain ⟨w1, hw1⟩ : ∃ w1, (W.alloc (.cells #[.int .i64 x, .int .i64 y] 24)) = w1 := ⟨_, rfl⟩
  rw [hw1] at n_0 n_B ⊢
  clear hw1
  refine (awake48_ok _ (hst.below n_B)).mono ?_
  rintro e w2 ⟨rfl, hb⟩
  replace n_0 := below_blk hb n_0
  have hB := below_next n_B hb
  have hst2 := Lib.hid (hst.below hB)
  clear hb n_B hst
  go_wp2_with fail
  refine (land_any w h 1000 v n u w2 (hv.below hB)).mono ?_
  rintro e w3 ⟨hb, ⟨hland, rfl⟩ | ⟨hno, rfl⟩⟩
  rotate_left
  · replace hB := below_next hB hb
    go_wp2_with fail
    go_ret
    exact ⟨rfl, below_alloc hB _⟩
  obtain ⟨o, cap0, rfl, hn1, hn2⟩ := hv.below hB
  obtain ⟨c1, c2, c3, c4, c5, c6, c7⟩ := hland
  have hm1 := Int.mul_le_mul c1 c2 (by omega) (by omega)
  obtain ⟨ad, rfl, hr⟩ := hn2 (by omega)
  replace hr := hr.below hb
  have hst3 := Lib.hid (hst2.out.below hb)
  replace n_0 := below_blk hb n_0
  replace hB := below_next hB hb
  obtain ⟨wn, rfl⟩ : ∃ wn : Nat, w = wn := ⟨w.toNat, by omega⟩
  obtain ⟨hn, rfl⟩ : ∃ hn : Nat, h = hn := ⟨h.toNat, by omega⟩
  have c8 : n = wn * hn := by have : ((wn * hn : Nat) : Int) = wn * hn := by { push_cast; rfl }; omega
  subst c8
  have HC := Lib.hid c6
  have hM := fun j hj => mayB_iff.1 (c7 j hj)
  have hmay : ∀ x y, inG wn hn x y → -2147483648 ≤ (fun x y => u ((y * (wn : Int) + x).toNat)) x y ∧ (fun x y => u ((y * (wn : Int) + x).toNat)) x y ≤ 2147483647 := fun x y hin => by
    obtain ⟨b0, b1, b2, b3⟩ := hin
    have := idx_lt b0 b1 b2 b3
    exact hM _ (by omega)
  have HM := Lib.hid hM
  have HMAY := Lib.hid hmay
  clear hb hv hn2 c6 c7 hm1 c5 hn1 hM hmay hst2
  obtain ⟨N, hN⟩ : ∃ N, wn * hn = N := ⟨_, rfl⟩
  rw [hN] at hr HC HM ⊢
  have HN := Lib.hid hN
  clear hN
  go_wp2_with fail
  have nM := blk_new w3 (.cells #[.int .i64 (wn : Int), .int .i64 (hn : Int), .slice (some ad) N cap0] 27)
  have hb := below_alloc1 w3 (.cells #[.int .i64 (wn : Int), .int .i64 (hn : Int), .slice (some ad) N cap0] 27)
  obtain ⟨w4, hw4⟩ : ∃ w4, w3.alloc (.cells #[.int .i64 (wn : Int), .int .i64 (hn : Int), .slice (some ad) N cap0] 27) = w4 := ⟨_, rfl⟩
  obtain ⟨M, hM⟩ : ∃ M, w3.heap.size = M := ⟨_, rfl⟩
  rw [hM] at nM
  rw [hw4] at nM hb
  rw [hM, hw4]
  replace hr := hr.below hb
  have hst4 := Lib.hid (hst3.out.below hb)
  replace n_0 := below_blk hb n_0
  replace hB := below_next hB hb
  clear hb hw4 hM hst3
  have hm7 := made_ok wn hn w4 (by omega) (by omega) (by omega) (by omega) ad cap0 u (by rw [HN.out]; exact HM.out) (by rw [HN.out]; exact hr)
  rw [HN.out] at hm7
  refine hm7.mono ?_
  clear hm7
  rintro e w5 ⟨g, Fg, rfl, hb, hFg, HG⟩
  replace hr := hr.below hb
  replace nM := below_blk hb nM
  replace n_0 := below_blk hb n_0
  have hst5 := Lib.hid (hst4.out.below hb)
  have hB5 := below_next hB hb
  clear hb hB hFg hst4
  have p_0 := cells_w n_0 0 rfl
  have p_1 := cells_w n_0 1 rfl
  go_wp2_with fail
  by_cases hbad : mayC wn hn x y hi = 0
  rotate_left
  · have hmb : (mayC wn hn x y hi == 0) = false := by simp [hbad]
    have hmb2 : (mayC wn hn x y hi != 0) = true := by simp [hbad]
    refine (around_bad g Fg wn hn x y hi _ w5 HG (HMAY.out x y) hbad).mono ?_
    rintro e w6 ⟨rfl, hb⟩
    replace nM := below_blk hb nM
    replace n_0 := below_blk hb n_0
    replace hr := hr.below hb
    have hB6 := below_next hB5 hb
    have HG6 := HG.below hb
    clear hb p_0 p_1 HG
    have p_0 := cells_w n_0 0 rfl
    have p_1 := cells_w n_0 1 rfl
    go_wp2_with fail
    refine (open_bad g Fg wn hn x y hi _ w6 HG6 (HMAY.out x y) hbad).mono ?_
    rintro e w7 ⟨rfl, hb⟩
    replace nM := below_blk hb nM
    replace n_0 := below_blk hb n_0
    replace hr := hr.below hb
    replace hB6 := below_next hB6 hb
    clear hb p_0 p_1 HG6 hbad
    have i_0 := cells_w nM 0 rfl
    have i_1 := cells_w nM 1 rfl
    have i_2 := cells_w nM 2 rfl
    have p_0 := cells_w n_0 0 rfl
    have p_1 := cells_w n_0 1 rfl
    go_wp2_with fail
    refine (may25_any ad cap0 N u wn hn x y hi w7 (by omega) (by omega) (by omega) (by omega) HC.out hr).mono ?_
    rintro e w8 ⟨rfl, hb⟩
    replace hB6 := below_next hB6 hb
    go_wp2_with fail
    go_ret
    refine ⟨?_, hB6⟩
    first | rfl | simp
  · have hex : ∀ k, ∃ nr, k < 8 → Run wn hn x y (dX k) (dY k) nr := fun k => by
      by_cases hk : k < 8
      · obtain ⟨nr, hrun⟩ := run_ex (w := wn) (h := hn) (cx := x) (cy := y) c3 c4 (dir_ok hk) (mayC_0.1 hbad).1
        exact ⟨nr, fun _ => hrun⟩
      · exact ⟨0, fun h => absurd h hk⟩
    obtain ⟨nr, hrun⟩ := Classical.axiomOfChoice hex
    have HRUN := Lib.hid hrun
    have HMC := Lib.hid hbad
    clear hbad hrun hex
    refine (around_ok g Fg wn hn x y hi nr _ w5 HG HMAY.out hst5.out HMC.out HRUN.out).mono ?_
    have h48 := fun k => ref48_ok ad cap0 N u wn hn x y hi k (nr k)
    have hop := open_ok g Fg wn hn x y hi nr (fun x y => u ((y * (wn : Int) + x).toNat))
    unfold Ref48Out bestRow at h48
    have eU : ∀ k, bUp (fun x y => u ((y * (wn : Int) + x).toNat)) x y (dX k) (dY k) (u ((y * (wn : Int) + x).toNat) + hi) (nr k) = upD (fun x y => u ((y * (wn : Int) + x).toNat)) x y (u ((y * (wn : Int) + x).toNat) + hi) nr k := fun k => rfl
    have eO : ∀ k, best (rise (fun x y => u ((y * (wn : Int) + x).toNat)) x y (dX k) (dY k) (u ((y * (wn : Int) + x).toNat) + hi)) (nr k) = onD (fun x y => u ((y * (wn : Int) + x).toNat)) x y (u ((y * (wn : Int) + x).toNat) + hi) nr k := fun k => rfl
    have hzero : ∀ k, onD (fun x y => u ((y * (wn : Int) + x).toNat)) x y (u ((y * (wn : Int) + x).toNat) + hi) nr k = 0 → upD (fun x y => u ((y * (wn : Int) + x).toNat)) x y (u ((y * (wn : Int) + x).toNat) + hi) nr k = 0 := fun k hk => by
      show bUp _ _ _ _ _ _ _ = 0
      unfold bUp
      exact if_pos hk
    obtain ⟨U, hU⟩ : ∃ U, upD (fun x y => u ((y * (wn : Int) + x).toNat)) x y (u ((y * (wn : Int) + x).toNat) + hi) nr = U := ⟨_, rfl⟩
    obtain ⟨On, hOn⟩ : ∃ On, onD (fun x y => u ((y * (wn : Int) + x).toNat)) x y (u ((y * (wn : Int) + x).toNat) + hi) nr = On := ⟨_, rfl⟩
    rw [hU] at hop hzero
    rw [hOn] at hzero
    rw [hU, hOn]
    have h49 : ∀ (k : Nat) (W : World), k < 8 → RowAt W ad N u → ∃ a b : Int, Calls Tryd.prog 11 #[.agg #[.int .i64 wn, .int .i64 hn, .slice (some ad) N cap0], .agg #[.int .i64 x, .int .i64 y], .int .i64 hi, .int .i64 (k : Int)] W fun e W' => e = .returned (.agg #[.int .i64 (U k), .int .i64 ((On k : Nat) : Int), .int .i64 a, .int .i64 b]) ∧ Below W.heap.size W W' := fun k W hk hrw => by
      have := h48 k W c1 c3 c2 c4 HC.out hrw HM.out HMC.out hk (HRUN.out k hk)
      rw [eU k, eO k, hU, hOn] at this
      exact ⟨_, _, this⟩
    have H49 := Lib.hid h49
    have HOP := Lib.hid (fun W h1 h2 => hop W h1 HMAY.out h2 HMC.out HRUN.out)
    have HZ := Lib.hid hzero
    clear h48 hop eU eO h49 hzero hU hOn
    rintro e w6 ⟨K, rfl, hb, hS⟩
    replace nM := below_blk hb nM
    replace n_0 := below_blk hb n_0
    replace hr := hr.below hb
    have hB6 := below_next hB5 hb
    have HG6 := HG.below hb
    have hst6 := hst5.out.below hb
    clear hb p_0 p_1 HG
    have p_0 := cells_w n_0 0 rfl
    have p_1 := cells_w n_0 1 rfl
    go_wp2_with fail
    refine (HOP.out w6 HG6 hst6).mono ?_
    rintro e w7 ⟨rfl, hb⟩
    replace nM := below_blk hb nM
    replace n_0 := below_blk hb n_0
    replace hr := hr.below hb
    replace hS := hS.below hb
    replace hB6 := below_next hB6 hb
    clear hb p_0 p_1 HG6 hst6
    have i_0 := cells_w nM 0 rfl
    have i_1 := cells_w nM 1 rfl
    have i_2 := cells_w nM 2 rfl
    have p_0 := cells_w n_0 0 rfl
    have p_1 := cells_w n_0 1 rfl
    go_wp2_with fail
    refine (may25_any ad cap0 N u wn hn x y hi w7 (by omega) (by omega) (by omega) (by omega) HC.out hr).mono ?_
    rw [HMC.out]
    rintro e w8 ⟨rfl, hb⟩
    replace nM := below_blk hb nM
    replace n_0 := below_blk hb n_0
    have HRW := Lib.hid (hr.below hb)
    have HS := Lib.hid (hS.below hb)
    replace hB6 := below_next hB6 hb
    clear hb hr hS i_0 i_1 i_2 p_0 p_1
    go_wp2_with fail
    go_loopg [19, 20] 8 (fun q v19 v20 wr => ∃ j : Nat, Hid (j + q = 8) ∧ v19 = .int .i64 (cntU U j) ∧ v20 = .int .i64 (j : Int) ∧ Below w8.heap.size w8 wr)
    case atStart => exact ⟨0, Nat.zero_add _, rfl, rfl, Below.refl _ _⟩
    case round =>
      obtain ⟨j, hj, rfl, rfl, hbr⟩ := hrel
      cases gk with
      | zero =>
        have ej : j = 8 := hj.out
        subst ej
        go_wp2_with fail
        go_ret
        refine ⟨?_, below_next hB6 hbr⟩
        first | rfl | simp
      | succ m =>
        have hj8 : j < 8 := by have := hj.out; omega
        have ht : decide (j < 8) = true := decide_eq_true hj8
        have ht2 : decide ((j : Int) < 8) = true := decide_eq_true (by omega)
        have kk : (j : Int) < 8 := by omega
        have nMr := below_blk hbr nM
        have n0r := below_blk hbr n_0
        have hcb := cntU_bd U j
        have wc : wrap64 (cntU U j + 1) = cntU U j + 1 := wrap64_id (by omega) (by omega)
        have i_0 := cells_w nMr 0 rfl
        have i_1 := cells_w nMr 1 rfl
        have i_2 := cells_w nMr 2 rfl
        have p_0 := cells_w n0r 0 rfl
        have p_1 := cells_w n0r 1 rfl
        go_wp2_with fail
        obtain ⟨a, b, hcall⟩ := H49.out j wr hj8 (HRW.out.below hbr)
        refine hcall.mono ?_
        rintro e w9 ⟨rfl, hb⟩
        have hb9 := hbr.trans (hb.mono hbr.size)
        clear hb hbr nMr n0r i_0 i_1 i_2 p_0 p_1 hcall
        go_wp2_with fail
        have nD := blk_new w9 (.cells #[.int .i64 (U j), .int .i64 ((On j : Nat) : Int), .int .i64 a, .int .i64 b] 40)
        have hb10 := below_alloc' hb9 (.cells #[.int .i64 (U j), .int .i64 ((On j : Nat) : Int), .int .i64 a, .int .i64 b] 40)
        obtain ⟨w10, hw10⟩ : ∃ w10, w9.alloc (.cells #[.int .i64 (U j), .int .i64 ((On j : Nat) : Int), .int .i64 a, .int .i64 b] 40) = w10 := ⟨_, rfl⟩
        rw [hw10] at nD hb10 ⊢
        obtain ⟨s1, s2⟩ := (HS.out.below hb10) j hj8
        have qs1 := fun d os => cell_regrown s1 d os
        have qs2 := fun d os => cell_regrown s2 d os
        clear hw10 hb9 s1 s2
        have i_0 := cells_q nD 0 rfl
        have i_1 := cells_q nD 1 rfl
        refine wp_quiet (by kernel_rfl) (by kernel_rfl) ?_
        repeat (go_big_quiet_step ((first | fail)))
        refine wpQuiet_nil ?_
        intro w11 hb11
        have hb12 := hb10.trans (hb11.mono hb10.size)
        have nD2 := below_blk hb11 nD
        clear i_0 i_1 qs1 qs2 nD hb11 hb10
        have i_0 := cells_w nD2 0 rfl
        have i_1 := cells_w nD2 1 rfl
        by_cases hu : U j ≤ 0
        · have tu := decide_eq_true hu
          have HE := Lib.hid (cntU_yes hu)
          clear hu
          by_cases ho : On j = 0
          · have to1 : (((On j : Nat) : Int) == 0) = true := by simp [ho]
            have to2 : (On j == 0) = true := by simp [ho]
            clear ho
            go_wp2_with fail
            go_roundg m
            case measure => omega
            case rel => exact ⟨j + 1, by have := hj.out; exact (show j + 1 + m = 8 by omega), by rw [HE.out], congrArg (Value.int .i64) (by push_cast; omega), hb12⟩
          · have to1 : (((On j : Nat) : Int) == 0) = false := by simp [ho]
            have to2 : (On j == 0) = false := by simp [ho]
            clear ho
            go_wp2_with fail
            go_roundg m
            case measure => omega
            case rel => exact ⟨j + 1, by have := hj.out; exact (show j + 1 + m = 8 by omega), by rw [HE.out], congrArg (Value.int .i64) (by push_cast; omega), hb12⟩
        · have tu := decide_eq_false hu
          have HE := Lib.hid (cntU_no hu)
          have ho : On j ≠ 0 := fun z => hu (by rw [HZ.out j z]; omega)
          have to1 : (((On j : Nat) : Int) == 0) = false := by simp [ho]
          have to2 : (On j == 0) = false := by simp [ho]
          clear hu ho
          go_wp2_with fail
          go_roundg m
          case measure => omega
          case rel => exact ⟨j + 1, by have := hj.out; exact (show j + 1 + m = 8 by omega), by rw [HE.out], congrArg (Value.int .i64) (by push_cast; omega), hb12⟩
end Go.Proofs.YtcomnpmkedabeaaDoor

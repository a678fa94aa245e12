/- Texts of this claim, joined: FenOf, Within07, Lev. -/
import Derived.Test.YtfnflgcalhiamaaPackSz1
import Derived.Test.YtfnflgcalhiamaaPackSz2
import Derived.Test.YtfnflgcalhiamaaPackSz7
/- fen.Of. -/
set_option linter.unusedVariables false
set_option linter.unusedSimpArgs false
namespace Go.Proofs.Ytfnflgcalhiamaa
open Go.RowKit

theorem wrap_small {J h : Nat} (h1 : J < h) (h2 : h ≤ 1024) : wrap64 (J : Int) = J ∧ wrap64 ((J : Int) + 1) = (J : Int) + 1 := ⟨wrap64_id (by omega) (by omega), wrap64_id (by omega) (by omega)⟩
set_option maxHeartbeats 4000000 in
set_option maxRecDepth 100000 in
theorem fen_Of_ok (g : Nat) (F : Nat → Prop) (w h : Nat) (f : Int → Int → Int) (W : World) (HG : GridAt W g F w h f) (hmay : FenB f w h) :
    Calls Try.prog 9 #[.pointer (some ⟨g, 0, none⟩)] W (FenNew w h (fenS f) W) := by
  obtain ⟨d1, d2, d3, d4⟩ := HG.dims
  have HBF := Lib.hid hmay
  clear hmay
  go_enter Try.func9, Try.ntmps9
  go_wp2_with fail
  refine (grid_Size_ok g F w h f _ HG).mono ?_
  rintro e w2 ⟨rfl, hb⟩
  replace HG := HG.below hb
  have hB := hb
  clear hb
  go_wp2_with fail
  refine (fen_New_ok w h w2 (by omega) (by omega) (by omega) (by omega)).mono ?_
  rintro e w3 ⟨b, A, rfl, hb, hb1, hA1, HF⟩
  replace HG := HG.below hb
  have hbW : W.heap.size ≤ b := by have := hB.size; omega
  have hAW : W.heap.size ≤ A := by have := hB.size; omega
  replace hB := below_next hB hb
  clear hb hb1 hA1
  go_wp2_with fail
  refine (grid_All_ok g F w h f _ HG).mono ?_
  rintro e w4 ⟨rfl, hb⟩
  replace HG := HG.below hb
  replace HF := HF.below hb
  replace hB := below_next hB hb
  clear hb
  go_wp2_with fail
  refine (grid_Values_ok g F w h 0 0 ((w : Int) - 1) ((h : Int) - 1) f w4 HG (by omega) (by omega) (by omega) (by omega) (by omega) (by omega) w h (by omega) (by omega)).mono ?_
  rintro e w5 ⟨k, capv, csv, rfl, hcv, hk, hb, hrow, hvals⟩
  have hFA := HF.lt.2
  replace HF := HF.below hb
  obtain ⟨N, cap, cs0, HR⟩ := HF
  have hkA : k ≠ A := by
    have := hFA
    omega
  have hd := HR.head
  have hB5 := below_next hB hb
  have HBW := Lib.hid hB5
  have hrowA : Hid (∃ M, w * h = M ∧ (w : Int) * (h : Int) = (M : Int) ∧ M ≤ 1048576) := ⟨_, rfl, by push_cast; rfl, Nat.mul_le_mul (show w ≤ 1024 by omega) (show h ≤ 1024 by omega)⟩
  obtain ⟨M, hM, hMI, hMb⟩ := hrowA.out
  rw [hM] at hvals hcv ⊢
  have HM := Lib.hid hM
  have HV := Lib.hid hvals
  have HR0 : Hid (FenRaw w5 b A N cap w h cs0 (setS f w 0)) := HR.congr (fun x y a1 a2 a3 a4 => by unfold setS; rw [if_neg (by omega)])
  have hhw := HR.w2
  have hhh := HR.h2
  have hcap := HR.cap_le
  have hbA := HR.ne
  have hNb : N ≤ 1050625 := by
    rw [HR.n_eq]
    exact Nat.mul_le_mul (show w + 1 ≤ 1025 by omega) (show h + 1 ≤ 1025 by omega)
  clear hrowA hM hMI hvals HR hb HG hB hFA hB5 hd
  go_wp2_with fail
  go_loopg [37] M (fun q v37 wr => ∃ (j : Nat) (cs : Array Value), Hid (j + q = M) ∧ v37 = .int .i64 (j : Int) ∧ Mod (fun t => t = A) w5 wr ∧ Hid (FenRaw wr b A N cap w h cs (setS f w j)))
  case atStart => exact ⟨0, cs0, Nat.zero_add _, rfl, Mod.refl _ _, HR0⟩
  case round =>
    clear HR0
    obtain ⟨j, cs, hj, rfl, hmod, HR⟩ := hrel
    cases gk with
    | zero =>
      have ej : j = M := hj.out
      have ht : decide (j < M) = false := decide_eq_false (by omega)
      have ht2 : decide ((j : Int) < (M : Int)) = false := decide_eq_false (by omega)
      subst ej
      have HR1 : Hid (FenRaw wr b A N cap w h cs (rowS f 1 0)) := HR.out.congr (fun x y a1 a2 a3 a4 => by
        rw [← HM.out, ← setS_all a1 a2 a3 a4]
        unfold rowS
        rw [if_neg (by omega)]
        split <;> rfl)
      have hB1 := HBW.out.trans (hmod.below HBW.out.size (fun t ht => by omega))
      clear HR hmod hrow HV HM hcv
      go_wp2_with fail
      go_loopg [12] h (fun q v12 wy => ∃ (y : Nat) (cs : Array Value), Hid (y + q = h + 1 ∧ 1 ≤ y) ∧ v12 = .int .i64 (y : Int) ∧ Below W.heap.size W wy ∧ Hid (FenRaw wy b A N cap w h cs (rowS f y 0)))
      case atStart => exact ⟨1, cs, ⟨by omega, Nat.le_refl _⟩, rfl, hB1, HR1⟩
      case round =>
        clear HR1 hB1 hj
        obtain ⟨y, cs, hy, rfl, hBy, HR⟩ := hrel
        have hdr := HR.out.head
        cases gk with
        | zero =>
          have ht : decide (y ≤ h) = false := decide_eq_false (by have := hy.out; omega)
          have ht2 : decide ((y : Int) ≤ (h : Int)) = false := decide_eq_false (by have := hy.out; omega)
          have HR2 : Hid (FenRaw wr b A N cap w h cs (colS f 0 0)) := HR.out.congr (fun X Y a1 a2 a3 a4 => by
            rw [colS_zero a1]
            unfold rowS
            rw [if_pos (by have := hy.out; omega)])
          have l_0 := cells_w hdr 0 rfl
          have l_1 := cells_w hdr 1 rfl
          go_wp2_with fail
          clear l_0 l_1 hdr HR ht ht2 hy
          go_loopg [15] h (fun q v15 wc => ∃ (y : Nat) (cs : Array Value), Hid (y + q = h + 1 ∧ 1 ≤ y) ∧ v15 = .int .i64 (y : Int) ∧ Below W.heap.size W wc ∧ Hid (FenRaw wc b A N cap w h cs (colS f (y - 1) 0)))
          case atStart => exact ⟨1, cs, ⟨by omega, Nat.le_refl _⟩, rfl, hBy, HR2⟩
          case round =>
            clear HR2 hBy
            obtain ⟨y, cs, hy, rfl, hBy, HR⟩ := hrel
            have hdr := HR.out.head
            cases gk with
            | zero =>
              have ht : decide (y ≤ h) = false := decide_eq_false (by have := hy.out; omega)
              have ht2 : decide ((y : Int) ≤ (h : Int)) = false := decide_eq_false (by have := hy.out; omega)
              have l_0 := cells_w hdr 0 rfl
              have l_1 := cells_w hdr 1 rfl
              go_wp2_with fail
              go_ret2
              have ey : y - 1 = h := by have := hy.out; omega
              refine ⟨b, A, rfl, hBy, hbW, hAW, N, cap, cs, HR.out.congr (fun X Y a1 a2 a3 a4 => ?_)⟩
              rw [ey]
              exact colS_done hhh a1 a3 a4
            | succ my =>
              obtain ⟨hyq, hy1⟩ := hy.out
              clear hy
              have hyh : y ≤ h := by omega
              have ht : decide (y ≤ h) = true := decide_eq_true hyh
              have ht2 : decide ((y : Int) ≤ (h : Int)) = true := decide_eq_true (by omega)
              obtain ⟨u, hu⟩ : ∃ u, y + lb y = u := ⟨_, rfl⟩
              obtain ⟨wn, wu⟩ := up_go hy1 (by omega) hu
              have HU := Lib.hid hu
              clear hu
              have l_0 := cells_w hdr 0 rfl
              have l_1 := cells_w hdr 1 rfl
              by_cases huh : u ≤ h
              rotate_left
              · have hs : decide (u ≤ h) = false := decide_eq_false huh
                have hs2 : decide ((u : Int) ≤ (h : Int)) = false := decide_eq_false (by omega)
                go_wp2_with fail
                go_roundg my
                case measure => omega
                case rel => exact ⟨y + 1, cs, ⟨by omega, by omega⟩, congrArg (Value.int .i64) (by push_cast; omega), hBy, HR.out.congr (fun X Y a1 a2 a3 a4 => by rw [Nat.add_sub_cancel]; exact colS_same2 hy1 a1 a4 (by rw [HU.out]; omega))⟩
              · have hs : decide (u ≤ h) = true := decide_eq_true huh
                have hs2 : decide ((u : Int) ≤ (h : Int)) = true := decide_eq_true (by omega)
                go_wp2_with fail
                rw [wu]
                clear l_0 l_1 hdr ht ht2 hs hs2 wn wu
                go_loopg [17] w (fun q v17 wi => ∃ (x : Nat) (cs : Array Value), Hid (x + q = w + 1 ∧ 1 ≤ x) ∧ v17 = .int .i64 (x : Int) ∧ Below W.heap.size W wi ∧ Hid (FenRaw wi b A N cap w h cs (colS f (y - 1) (x - 1))))
                case atStart => exact ⟨1, cs, ⟨by omega, Nat.le_refl _⟩, rfl, hBy, HR⟩
                case round =>
                  clear HR hBy
                  obtain ⟨x, cs, hx, rfl, hBx, HR⟩ := hrel
                  have hdr := HR.out.head
                  cases gk with
                  | zero =>
                    have ht : decide (x ≤ w) = false := decide_eq_false (by have := hx.out; omega)
                    have ht2 : decide ((x : Int) ≤ (w : Int)) = false := decide_eq_false (by have := hx.out; omega)
                    have ex : x - 1 = w := by have := hx.out; omega
                    have l_0 := cells_w hdr 0 rfl
                    have l_1 := cells_w hdr 1 rfl
                    go_wp2_with fail
                    go_roundg my
                    case measure => omega
                    case rel => exact ⟨y + 1, cs, ⟨by omega, by omega⟩, congrArg (Value.int .i64) (by push_cast; omega), hBx, HR.out.congr (fun X Y a1 a2 a3 a4 => by rw [Nat.add_sub_cancel, ex]; exact colS_next2 hy1 a1 a2)⟩
                  | succ mx =>
                    obtain ⟨hxq, hx1⟩ := hx.out
                    clear hx
                    have hxw : x ≤ w := by omega
                    have ht : decide (x ≤ w) = true := decide_eq_true hxw
                    have ht2 : decide ((x : Int) ≤ (w : Int)) = true := decide_eq_true (by omega)
                    have hp1 := place_bd hhw hhh hxw huh
                    have hp2 := place_bd hhw hhh hxw hyh
                    rw [← HR.out.n_eq] at hp1 hp2
                    have hat1 := fun W' (hdd : W'.heap[b]? = some (.cells #[.int .i64 (w : Int), .int .i64 (h : Int), .slice (some ⟨A, 0, none⟩) N cap] 77 (0, 0))) => fen_at_ok b w h x u _ W' hdd hhw hhh (by omega) (by omega)
                    have hat2 := fun W' (hdd : W'.heap[b]? = some (.cells #[.int .i64 (w : Int), .int .i64 (h : Int), .slice (some ⟨A, 0, none⟩) N cap] 77 (0, 0))) => fen_at_ok b w h x y _ W' hdd hhw hhh (by omega) (by omega)
                    have v1 := HR.out.val x u hx1 hxw (by have := HU.out; omega) huh
                    have v2 := HR.out.val x y hx1 hxw hy1 hyh
                    have b1 := cols_bd HBF.out hhw hhh (j := y - 1) (i := x - 1) hx1 hxw (show 1 ≤ u by have := HU.out; omega) huh
                    have b2 := cols_bd HBF.out hhw hhh (j := y - 1) (i := x - 1) hx1 hxw hy1 hyh
                    have HST := Lib.hid (fun X Y => colS_step2 (f := f) (X := X) (Y := Y) hy1 hx1)
                    rw [HU.out] at HST
                    have i_0 := cells_q hdr 0 rfl
                    have i_1 := cells_q hdr 1 rfl
                    have i_2 := cells_q hdr 2 rfl
                    have l_0 := cells_w hdr 0 rfl
                    have l_1 := cells_w hdr 1 rfl
                    obtain ⟨P1, hP1⟩ : ∃ P, u * (w + 1) + x = P := ⟨_, rfl⟩
                    obtain ⟨P2, hP2⟩ : ∃ P, y * (w + 1) + x = P := ⟨_, rfl⟩
                    rw [hP1] at hat1 hp1 v1
                    rw [hP2] at hat2 hp2 v2
                    obtain ⟨s1, hs1⟩ : ∃ s, colS f (y - 1) (x - 1) x u = s := ⟨_, rfl⟩
                    obtain ⟨s2, hs2'⟩ : ∃ s, colS f (y - 1) (x - 1) x y = s := ⟨_, rfl⟩
                    rw [hs1] at v1 b1 HST
                    rw [hs2'] at v2 b2 HST
                    have vS : IntKind.i64.wrap (s1 + s2) = s1 + s2 := IntWalk.i64_in _ (by omega)
                    have wS : wrap64 (s1 + s2) = s1 + s2 := wrap64_id (by omega) (by omega)
                    have n1 : (P1 : Int) < (N : Int) := by omega
                    have n2 : (P2 : Int) < (N : Int) := by omega
                    have c1 := (blk_cell HR.out.row P1).trans v1
                    have c2 := (blk_cell HR.out.row P2).trans v2
                    have q1 := fun d os => cell_regrown c1 d os
                    have q2 := fun d os => cell_regrown c2 d os
                    have HP1 := Lib.hid hP1
                    have HA1 := Lib.hid hat1
                    have HA2 := Lib.hid hat2
                    have hs22 := v1
                    clear hP1 hP2 hat1 hat2 hs1 hs2' b1 b2 v1 v2 c1 c2 hp1 hp2
                    go_wp2_with fail
                    refine wp_tail 22 (by kernel_rfl) (by kernel_rfl) ?_
                    simp only [List.take_succ_cons, List.take_zero, List.drop_succ_cons, List.drop_zero]
                    repeat (go_big_quiet_step ((first | (go_at_call 27; with_reducible exact Calls.quiet (HA1.out _ (below_blk (below_regrown _ _ _) hdr))) | (go_at_call 27; with_reducible exact Calls.quiet (HA2.out _ (below_blk (below_regrown _ _ _) hdr))))))
                    refine wpQuiet_nil ?_
                    intro w7 hb7
                    have hB7 := below_next hBx hb7
                    have HR7 := Lib.hid (FenRaw.below HR.out hb7)
                    clear i_0 i_1 i_2 l_0 l_1 q1 q2 HA1 HA2 hb7 HR hBx hdr vS
                    have c1 := cells_w HR7.out.row P1 hs22
                    have z1 := blk_frozen HR7.out.row P1
                    go_wp2_with fail
                    try rw [wS]
                    go_roundg mx
                    case measure => omega
                    case rel =>
                      refine ⟨x + 1, cs.setIfInBounds P1 (.int .i64 (s1 + s2)), ⟨by omega, by omega⟩, congrArg (Value.int .i64) (by push_cast; omega), hB7.setCell (p := ⟨A, P1, none⟩) hAW _, ?_⟩
                      refine (FenRaw.put HR7.out (x := x) (y := u) (by omega) (by omega) HP1.out (s1 + s2)).congr (fun X Y a1 a2 a3 a4 => ?_)
                      rw [Nat.add_sub_cancel]
                      exact HST.out X Y
        | succ my =>
          obtain ⟨hyq, hy1⟩ := hy.out
          clear hy
          have hyh : y ≤ h := by omega
          have ht : decide (y ≤ h) = true := decide_eq_true hyh
          have ht2 : decide ((y : Int) ≤ (h : Int)) = true := decide_eq_true (by omega)
          have l_0 := cells_w hdr 0 rfl
          have l_1 := cells_w hdr 1 rfl
          go_wp2_with fail
          clear l_0 l_1 hdr ht ht2
          go_loopg [13] w (fun q v13 wi => ∃ (x : Nat) (cs : Array Value), Hid (x + q = w + 1 ∧ 1 ≤ x) ∧ v13 = .int .i64 (x : Int) ∧ Below W.heap.size W wi ∧ Hid (FenRaw wi b A N cap w h cs (rowS f y (x - 1))))
          case atStart => exact ⟨1, cs, ⟨by omega, Nat.le_refl _⟩, rfl, hBy, HR⟩
          case round =>
            clear HR hBy
            obtain ⟨x, cs, hx, rfl, hBx, HR⟩ := hrel
            have hdr := HR.out.head
            cases gk with
            | zero =>
              have ht : decide (x ≤ w) = false := decide_eq_false (by have := hx.out; omega)
              have ht2 : decide ((x : Int) ≤ (w : Int)) = false := decide_eq_false (by have := hx.out; omega)
              have ex : x - 1 = w := by have := hx.out; omega
              have l_0 := cells_w hdr 0 rfl
              have l_1 := cells_w hdr 1 rfl
              go_wp2_with fail
              go_roundg my
              case measure => omega
              case rel => exact ⟨y + 1, cs, ⟨by omega, by omega⟩, congrArg (Value.int .i64) (by push_cast; omega), hBx, HR.out.congr (fun X Y a1 a2 a3 a4 => by rw [ex]; exact rowS_next hhw a1 a2)⟩
            | succ mx =>
              obtain ⟨hxq, hx1⟩ := hx.out
              clear hx
              have hxw : x ≤ w := by omega
              have ht : decide (x ≤ w) = true := decide_eq_true hxw
              have ht2 : decide ((x : Int) ≤ (w : Int)) = true := decide_eq_true (by omega)
              obtain ⟨u, hu⟩ : ∃ u, x + lb x = u := ⟨_, rfl⟩
              obtain ⟨wn, wu⟩ := up_go hx1 (by omega) hu
              have HU := Lib.hid hu
              clear hu
              have l_0 := cells_w hdr 0 rfl
              have l_1 := cells_w hdr 1 rfl
              by_cases huw : u ≤ w
              rotate_left
              · have hs : decide (u ≤ w) = false := decide_eq_false huw
                have hs2 : decide ((u : Int) ≤ (w : Int)) = false := decide_eq_false (by omega)
                go_wp2_with fail
                go_roundg mx
                case measure => omega
                case rel => exact ⟨x + 1, cs, ⟨by omega, by omega⟩, congrArg (Value.int .i64) (by push_cast; omega), hBx, HR.out.congr (fun X Y a1 a2 a3 a4 => by rw [Nat.add_sub_cancel]; exact rowS_same2 hx1 a2 (by rw [HU.out]; omega))⟩
              · have hs : decide (u ≤ w) = true := decide_eq_true huw
                have hs2 : decide ((u : Int) ≤ (w : Int)) = true := decide_eq_true (by omega)
                have hp1 := place_bd hhw hhh huw hyh
                have hp2 := place_bd hhw hhh hxw hyh
                rw [← HR.out.n_eq] at hp1 hp2
                have hat1 := fun W' (hdd : W'.heap[b]? = some (.cells #[.int .i64 (w : Int), .int .i64 (h : Int), .slice (some ⟨A, 0, none⟩) N cap] 77 (0, 0))) => fen_at_ok b w h u y _ W' hdd hhw hhh (by omega) (by omega)
                have hat2 := fun W' (hdd : W'.heap[b]? = some (.cells #[.int .i64 (w : Int), .int .i64 (h : Int), .slice (some ⟨A, 0, none⟩) N cap] 77 (0, 0))) => fen_at_ok b w h x y _ W' hdd hhw hhh (by omega) (by omega)
                have v1 := HR.out.val u y (by have := HU.out; omega) huw hy1 hyh
                have v2 := HR.out.val x y hx1 hxw hy1 hyh
                have b1 := rows_bd HBF.out hhw (y := y) (j := x - 1) (show 1 ≤ u by have := HU.out; omega) huw hy1 hyh
                have b2 := rows_bd HBF.out hhw (y := y) (j := x - 1) hx1 hxw hy1 hyh
                have HST := Lib.hid (fun X Y => rowS_step2 (f := f) (y := y) (X := X) (Y := Y) hx1)
                rw [HU.out] at HST
                clear l_0 l_1
                have i_0 := cells_q hdr 0 rfl
                have i_1 := cells_q hdr 1 rfl
                have i_2 := cells_q hdr 2 rfl
                have l_0 := cells_w hdr 0 rfl
                have l_1 := cells_w hdr 1 rfl
                obtain ⟨P1, hP1⟩ : ∃ P, y * (w + 1) + u = P := ⟨_, rfl⟩
                obtain ⟨P2, hP2⟩ : ∃ P, y * (w + 1) + x = P := ⟨_, rfl⟩
                rw [hP1] at hat1 hp1 v1
                rw [hP2] at hat2 hp2 v2
                obtain ⟨s1, hs1⟩ : ∃ s, rowS f y (x - 1) u y = s := ⟨_, rfl⟩
                obtain ⟨s2, hs2'⟩ : ∃ s, rowS f y (x - 1) x y = s := ⟨_, rfl⟩
                rw [hs1] at v1 b1 HST
                rw [hs2'] at v2 b2 HST
                have vS : IntKind.i64.wrap (s1 + s2) = s1 + s2 := IntWalk.i64_in _ (by omega)
                have wS : wrap64 (s1 + s2) = s1 + s2 := wrap64_id (by omega) (by omega)
                have n1 : (P1 : Int) < (N : Int) := by omega
                have n2 : (P2 : Int) < (N : Int) := by omega
                have c1 := (blk_cell HR.out.row P1).trans v1
                have c2 := (blk_cell HR.out.row P2).trans v2
                have q1 := fun d os => cell_regrown c1 d os
                have q2 := fun d os => cell_regrown c2 d os
                have HP1 := Lib.hid hP1
                have HA1 := Lib.hid hat1
                have HA2 := Lib.hid hat2
                have hs22 := v1
                clear hP1 hP2 hat1 hat2 hs1 hs2' b1 b2 v1 v2 c1 c2 hp1 hp2
                go_wp2_with fail
                refine wp_tail 22 (by kernel_rfl) (by kernel_rfl) ?_
                simp only [List.take_succ_cons, List.take_zero, List.drop_succ_cons, List.drop_zero]
                repeat (go_big_quiet_step ((first | (go_at_call 27; with_reducible exact Calls.quiet (HA1.out _ (below_blk (below_regrown _ _ _) hdr))) | (go_at_call 27; with_reducible exact Calls.quiet (HA2.out _ (below_blk (below_regrown _ _ _) hdr))))))
                refine wpQuiet_nil ?_
                intro w7 hb7
                have hB7 := below_next hBx hb7
                have HR7 := Lib.hid (FenRaw.below HR.out hb7)
                clear i_0 i_1 i_2 l_0 l_1 q1 q2 HA1 HA2 hb7 HR hBx hdr vS
                have c1 := cells_w HR7.out.row P1 hs22
                have z1 := blk_frozen HR7.out.row P1
                go_wp2_with fail
                try rw [wS]
                go_roundg mx
                case measure => omega
                case rel =>
                  refine ⟨x + 1, cs.setIfInBounds P1 (.int .i64 (s1 + s2)), ⟨by omega, by omega⟩, congrArg (Value.int .i64) (by push_cast; omega), hB7.setCell (p := ⟨A, P1, none⟩) hAW _, ?_⟩
                  refine (FenRaw.put HR7.out (x := u) (y := y) (by omega) (by omega) HP1.out (s1 + s2)).congr (fun X Y a1 a2 a3 a4 => ?_)
                  rw [Nat.add_sub_cancel]
                  exact HST.out X Y
    | succ m =>
      have hjM : j < M := by have := hj.out; omega
      have ht : decide (j < M) = true := decide_eq_true hjM
      have ht2 : decide ((j : Int) < (M : Int)) = true := decide_eq_true (by omega)
      have hjI : (j : Int) < (M : Int) := by omega
      have hIm : j % w < w := Nat.mod_lt j (by omega)
      have hJd : j / w < h := Nat.div_lt_of_lt_mul (by rw [HM.out]; exact hjM)
      have c1 := cells_w (hmod.blk hrow hkA) j (HV.out j hjM)
      have hdr := HR.out.head
      go_wp2_with fail
      have i_0 := cells_q hdr 0 rfl
      have i_1 := cells_q hdr 1 rfl
      refine wp_quiet (by kernel_rfl) (by kernel_rfl) ?_
      repeat (go_big_quiet_step ((first | fail)))
      refine wpQuiet_nil ?_
      intro w6 hb6
      clear i_0 i_1 hdr
      have hM6 := hmod.then_below hb6
      have HR6 := Lib.hid (FenRaw.below HR.out hb6)
      clear hmod hb6 HR c1
      have HS := Lib.hid (fun x y a1 a2 a3 => setS_step (f := f) (w := w) (j := j) (x := x) (y := y) (by omega) a1 a2 a3)
      obtain ⟨I, hI⟩ : ∃ I, j % w = I := ⟨_, rfl⟩
      obtain ⟨J, hJ⟩ : ∃ J, j / w = J := ⟨_, rfl⟩
      have eg : rowG f 0 0 w j = f (0 + (I : Nat)) (0 + (J : Nat)) := by rw [← hI, ← hJ]; rfl
      rw [hI] at hIm HS
      rw [hJ] at hJd HS
      have m1 : (j : Int) % (w : Int) = (I : Int) := by rw [← hI]; push_cast; rfl
      have m2 : (j : Int) / (w : Int) = (J : Int) := by rw [← hJ]; push_cast; rfl
      obtain ⟨wJ, wJ1⟩ := wrap_small hJd hhh
      rw [m1, m2, wJ, wJ1]
      clear m2 hI hJ wJ wJ1
      obtain ⟨v, hv⟩ : ∃ v, f (0 + (I : Nat)) (0 + (J : Nat)) = v := ⟨_, rfl⟩
      rw [hv] at eg HS
      rw [eg]
      clear eg hv
      have hdr := HR6.out.head
      have hp := place_bd hhw hhh (show I + 1 ≤ w by omega) (show J + 1 ≤ h by omega)
      rw [← HR6.out.n_eq] at hp
      have hat := fun W' (hdd : W'.heap[b]? = some (.cells #[.int .i64 (w : Int), .int .i64 (h : Int), .slice (some ⟨A, 0, none⟩) N cap] 77 (0, 0))) => fen_at_ok b w h (I + 1) (J + 1) _ W' hdd hhw hhh (by omega) (by omega)
      obtain ⟨z0, hz0⟩ : ∃ z, cs[(J + 1) * (w + 1) + (I + 1)]? = some z := ⟨_, HR6.out.val (I + 1) (J + 1) (by omega) (by omega) (by omega) (by omega)⟩
      obtain ⟨P, hP⟩ : ∃ P, (J + 1) * (w + 1) + (I + 1) = P := ⟨_, rfl⟩
      rw [hP] at hat hp hz0
      have hPN : (P : Int) < (N : Int) := by omega
      have HP := Lib.hid hP
      push_cast at hat
      have HAT := Lib.hid hat
      clear hat hP
      go_wp2_with fail
      have i_0 := cells_q hdr 0 rfl
      have i_1 := cells_q hdr 1 rfl
      have i_2 := cells_q hdr 2 rfl
      refine wp_tail 10 (by kernel_rfl) (by kernel_rfl) ?_
      simp only [List.take_succ_cons, List.take_zero, List.drop_succ_cons, List.drop_zero]
      repeat (go_big_quiet_step ((first | (go_at_call 27; with_reducible exact Calls.quiet (HAT.out _ (below_blk (below_regrown _ _ _) hdr))))))
      refine wpQuiet_nil ?_
      intro w7 hb7
      clear i_0 i_1 i_2 HAT
      have hM7 := hM6.then_below hb7
      have HR7 := Lib.hid (FenRaw.below HR6.out hb7)
      clear hM6 hb7 HR6
      have c0 := cells_w HR7.out.row P hz0
      have z0 := blk_frozen HR7.out.row P
      go_wp2_with fail
      go_roundg m
      case measure => omega
      case rel =>
        refine ⟨j + 1, cs.setIfInBounds P (.int .i64 v), by have := hj.out; exact (show j + 1 + m = M by omega), congrArg (Value.int .i64) (by push_cast; omega), hM7.setCell (p := ⟨A, P, none⟩) (.inl rfl) _, ?_⟩
        refine (FenRaw.put HR7.out (x := I + 1) (y := J + 1) (by omega) (by omega) HP.out v).congr (fun x y a1 a2 a3 a4 => ?_)
        exact HS.out x y a1 a2 a3
end Go.Proofs.Ytfnflgcalhiamaa
/- hachureref07.Within: the code of a rectangle in a grid whose size can be. -/
set_option linter.unusedVariables false
set_option linter.unusedSimpArgs false
namespace Go.Proofs.Ytfnflgcalhiamaa
open Go.RowKit

set_option maxHeartbeats 2000000 in
set_option maxRecDepth 100000 in
theorem within07_any (x0 y0 x1 y1 w h : Int) (W : World) (w1 : 1 ≤ w) (w2 : w ≤ 1024) (h1 : 1 ≤ h) (h2 : h ≤ 1024) :
    Calls Try.prog 74 #[.agg #[.int .i64 x0, .int .i64 y0, .int .i64 x1, .int .i64 y1], .int .i64 w, .int .i64 h] W fun r w' => r = .returned (.int .i64 (withinC x0 y0 x1 y1 w h)) ∧ Below W.heap.size W w' := by
  have d1 : decide (w < 1) = false := decide_eq_false (by omega)
  have d2 : decide (1024 < w) = false := decide_eq_false (by omega)
  have d3 : decide (h < 1) = false := decide_eq_false (by omega)
  have d4 : decide (1024 < h) = false := decide_eq_false (by omega)
  have D := And.intro w1 (And.intro w2 (And.intro h1 h2))
  have HD := Lib.hid D
  clear w1 w2 h1 h2 D
  by_cases c1 : x0 < 0
  · have t1 : decide (x0 < 0) = true := decide_eq_true c1
    rw [show withinC x0 y0 x1 y1 w h = 4 from by unfold withinC; rw [if_neg (by omega)]]
    go_enter Try.func74, Try.ntmps74
    go_wp2_with fail
    go_ret
    exact ⟨rfl, below_alloc1 _ _⟩
  have t1 : decide (x0 < 0) = false := decide_eq_false c1
  by_cases c2 : w ≤ x0
  · have t2 : decide (w ≤ x0) = true := decide_eq_true c2
    rw [show withinC x0 y0 x1 y1 w h = 4 from by unfold withinC; rw [if_neg (by omega)]]
    go_enter Try.func74, Try.ntmps74
    go_wp2_with fail
    go_ret
    exact ⟨rfl, below_alloc1 _ _⟩
  have t2 : decide (w ≤ x0) = false := decide_eq_false c2
  by_cases c3 : x1 < 0
  · have t3 : decide (x1 < 0) = true := decide_eq_true c3
    rw [show withinC x0 y0 x1 y1 w h = 4 from by unfold withinC; rw [if_neg (by omega)]]
    go_enter Try.func74, Try.ntmps74
    go_wp2_with fail
    go_ret
    exact ⟨rfl, below_alloc1 _ _⟩
  have t3 : decide (x1 < 0) = false := decide_eq_false c3
  by_cases c4 : w ≤ x1
  · have t4 : decide (w ≤ x1) = true := decide_eq_true c4
    rw [show withinC x0 y0 x1 y1 w h = 4 from by unfold withinC; rw [if_neg (by omega)]]
    go_enter Try.func74, Try.ntmps74
    go_wp2_with fail
    go_ret
    exact ⟨rfl, below_alloc1 _ _⟩
  have t4 : decide (w ≤ x1) = false := decide_eq_false c4
  by_cases c5 : y0 < 0
  · have t5 : decide (y0 < 0) = true := decide_eq_true c5
    rw [show withinC x0 y0 x1 y1 w h = 4 from by unfold withinC; rw [if_neg (by omega)]]
    go_enter Try.func74, Try.ntmps74
    go_wp2_with fail
    go_ret
    exact ⟨rfl, below_alloc1 _ _⟩
  have t5 : decide (y0 < 0) = false := decide_eq_false c5
  by_cases c6 : h ≤ y0
  · have t6 : decide (h ≤ y0) = true := decide_eq_true c6
    rw [show withinC x0 y0 x1 y1 w h = 4 from by unfold withinC; rw [if_neg (by omega)]]
    go_enter Try.func74, Try.ntmps74
    go_wp2_with fail
    go_ret
    exact ⟨rfl, below_alloc1 _ _⟩
  have t6 : decide (h ≤ y0) = false := decide_eq_false c6
  by_cases c7 : y1 < 0
  · have t7 : decide (y1 < 0) = true := decide_eq_true c7
    rw [show withinC x0 y0 x1 y1 w h = 4 from by unfold withinC; rw [if_neg (by omega)]]
    go_enter Try.func74, Try.ntmps74
    go_wp2_with fail
    go_ret
    exact ⟨rfl, below_alloc1 _ _⟩
  have t7 : decide (y1 < 0) = false := decide_eq_false c7
  by_cases c8 : h ≤ y1
  · have t8 : decide (h ≤ y1) = true := decide_eq_true c8
    rw [show withinC x0 y0 x1 y1 w h = 4 from by unfold withinC; rw [if_neg (by omega)]]
    go_enter Try.func74, Try.ntmps74
    go_wp2_with fail
    go_ret
    exact ⟨rfl, below_alloc1 _ _⟩
  have t8 : decide (h ≤ y1) = false := decide_eq_false c8
  by_cases c9 : x1 < x0
  · have t9 : decide (x1 < x0) = true := decide_eq_true c9
    rw [show withinC x0 y0 x1 y1 w h = 5 from by unfold withinC; rw [if_pos (by omega), if_neg (by omega)]]
    go_enter Try.func74, Try.ntmps74
    go_wp2_with fail
    go_ret
    exact ⟨rfl, below_alloc1 _ _⟩
  have t9 : decide (x1 < x0) = false := decide_eq_false c9
  by_cases c10 : y1 < y0
  · have t10 : decide (y1 < y0) = true := decide_eq_true c10
    rw [show withinC x0 y0 x1 y1 w h = 5 from by unfold withinC; rw [if_pos (by omega), if_neg (by omega)]]
    go_enter Try.func74, Try.ntmps74
    go_wp2_with fail
    go_ret
    exact ⟨rfl, below_alloc1 _ _⟩
  have t10 : decide (y1 < y0) = false := decide_eq_false c10
  rw [show withinC x0 y0 x1 y1 w h = 0 from by unfold withinC; rw [if_pos (by omega), if_pos (by omega)]]
  go_enter Try.func74, Try.ntmps74
  go_wp2_with fail
  go_ret
  exact ⟨rfl, below_alloc1 _ _⟩
end Go.Proofs.Ytfnflgcalhiamaa
/- Levels' sizes: plain, without the program's text. -/
set_option linter.unusedVariables false
set_option linter.unusedSimpArgs false
namespace Go.Proofs.Ytfnflgcalhiamaa

/-- A side of level k. -/
def lw (w : Int) (k : Nat) : Int := (w - 1) / 2 ^ k + 1
theorem lw0 (w : Int) : lw w 0 = w := by unfold lw; simp
theorem lw_succ (w : Int) (k : Nat) : (lw w k + 1) / 2 = lw w (k + 1) := by
  unfold lw
  rw [Int.pow_succ, ← Int.ediv_ediv_of_nonneg (Int.pow_nonneg (by omega))]
  omega
theorem pow2_pos (k : Nat) : (0 : Int) < 2 ^ k := Int.pow_pos (by omega)
theorem lw_bd {w : Int} (hw : 1 ≤ w) (k : Nat) : 1 ≤ lw w k ∧ lw w k ≤ w := by
  unfold lw
  have h0 := Int.ediv_nonneg (a := w - 1) (b := 2 ^ k) (by omega) (Int.le_of_lt (pow2_pos k))
  have h1 := Int.ediv_le_self (a := w - 1) (2 ^ k) (by omega)
  omega
theorem lw_gt {w : Int} (hw : 1 ≤ w) (k : Nat) : 1 < lw w k ↔ 2 ^ k ≤ w - 1 := by
  unfold lw
  have h0 := Int.le_ediv_iff_mul_le (a := 1) (b := w - 1) (pow2_pos k)
  rw [Int.one_mul] at h0
  omega
/-- How many binary digits. -/
def bl (m : Nat) : Nat := if m = 0 then 0 else m.log2 + 1
theorem bl_lt (m : Nat) : m < 2 ^ bl m := by
  unfold bl
  split
  · subst m; decide
  · exact Nat.lt_log2_self
theorem bl_le {m k : Nat} (h : k < bl m) : 2 ^ k ≤ m := by
  unfold bl at h
  split at h
  · omega
  · rename_i hm
    exact Nat.le_trans (Nat.pow_le_pow_right (by omega) (by omega)) (Nat.log2_self_le hm)
/-- How many levels. -/
def levs (w h : Int) : Nat := bl (imax w h - 1).toNat + 1
theorem levs_bd {w h : Int} (w1 : 1 ≤ w) (w2 : w ≤ 1024) (h1 : 1 ≤ h) (h2 : h ≤ 1024) : 1 ≤ levs w h ∧ levs w h ≤ 11 := by
  unfold levs
  refine ⟨by omega, ?_⟩
  rcases Nat.lt_or_ge 10 (bl (imax w h - 1).toNat) with hlt | hge
  · have := bl_le hlt
    unfold imax at this
    split at this <;> omega
  · omega
theorem more_levs {w h : Int} (w1 : 1 ≤ w) (h1 : 1 ≤ h) (j : Nat) : (1 < lw w j ∨ 1 < lw h j) ↔ j + 1 < levs w h := by
  rw [lw_gt w1, lw_gt h1]
  unfold levs
  constructor
  · intro hc
    rcases Nat.lt_or_ge j (bl (imax w h - 1).toNat) with hlt | hge
    · omega
    · exfalso
      have a := bl_lt (imax w h - 1).toNat
      have b := Nat.pow_le_pow_right (n := 2) (by omega) hge
      have e : ((2 ^ j : Nat) : Int) = 2 ^ j := by push_cast; rfl
      have : (imax w h - 1).toNat < 2 ^ j := by omega
      unfold imax at this
      split at this <;> omega
  · intro hc
    have a := bl_le (show j < bl (imax w h - 1).toNat by omega)
    have e : ((2 ^ j : Nat) : Int) = 2 ^ j := by push_cast; rfl
    unfold imax at a
    split at a
    · right; omega
    · left; omega
end Go.Proofs.Ytfnflgcalhiamaa

/- Texts of this claim, joined: Repair, Build. -/
import Derived.Test.YtfnflgcalhiamaaPackSz7
import Derived.Test.YtfnflgcalhiamaaPackSz12
import Derived.Test.YtfnflgcalhiamaaPackSz14
import Derived.Deep.RegionLaw
/- pyr.Repair, in a rectangle that is in the grid. -/
set_option linter.unusedVariables false
set_option linter.unusedSimpArgs false
namespace Go.Proofs.Ytfnflgcalhiamaa
open Go.RowKit

/-- The first level's cells are laid up to there. -/
def LayStR (w3 : World) (s0 : Nat) (w h x0 y0 x1 y1 : Int) (rw : Nat) (fm f : Int → Int → Int) (i : Nat) (wr : World) : Prop :=
  Mod (fun t => t = s0) w3 wr ∧ CellsAt wr s0 (lw w 0) (lw h 0) (LayR x0 y0 x1 y1 rw i (Rng fm w h 0) (Rng f w h 0))
/-- A pyramid behind a repair. -/
def Repaired (p : Nat) (F : Nat → Prop) (w h : Int) (fm : Int → Int → Int) (W : World) (e : Ending) (W' : World) : Prop := e = .returned (.int .i64 0) ∧ Mod F W W' ∧ PyrAt W' p F w h fm

set_option maxHeartbeats 4000000 in
set_option maxRecDepth 100000 in
theorem repair_ok (p : Nat) (F : Nat → Prop) (g : Nat) (Fg : Nat → Prop) (w h x0 y0 x1 y1 : Int) (f' f : Int → Int → Int) (W : World) (HP : PyrAt W p F w h f) (HG : GridAt W g Fg w h f') (a0 : 0 ≤ x0) (a1 : x0 ≤ x1) (a2 : x1 < w) (a3 : 0 ≤ y0) (a4 : y0 ≤ y1) (a5 : y1 < h) :
    Calls Try.prog 23 #[.pointer (some ⟨p, 0, none⟩), .pointer (some ⟨g, 0, none⟩), .agg #[.int .i64 x0, .int .i64 y0, .int .i64 x1, .int .i64 y1]] W (Repaired p F w h (mixF x0 y0 x1 y1 f' f) W) := by
  obtain ⟨A, cap, ps, s, HR⟩ := HP
  obtain ⟨d1, d2, d3, d4⟩ := HG.dims
  have hL := levs_bd d1 d2 d3 d4
  have hw0 := lw0 w
  have hh0 := lw0 h
  obtain ⟨rw, hrw⟩ : ∃ rw : Nat, (rw : Int) = x1 - x0 + 1 := ⟨(x1 - x0 + 1).toNat, by omega⟩
  obtain ⟨rh, hrh⟩ : ∃ rh : Nat, (rh : Int) = y1 - y0 + 1 := ⟨(y1 - y0 + 1).toNat, by omega⟩
  have Hrw := Lib.hid hrw
  have Hrh := Lib.hid hrh
  have hm := Nat.mul_le_mul (show rw ≤ 1024 by omega) (show rh ≤ 1024 by omega)
  have hrw1 : 1 ≤ rw := by omega
  clear hrw hrh
  obtain ⟨e0, e1, e2⟩ := HR.lev 0 (by omega)
  rw [hw0] at e0
  rw [hh0] at e1
  rw [Nat.zero_mul] at e0 e1 e2
  have hNA : (area w h 0 : Int) = w * h := by unfold area; rw [hw0, hh0]; have := mul_bd (a := w) (b := h) (A := 1024) (B := 1024) (by omega) (by omega) (by omega) (by omega); omega
  obtain ⟨NA, hNA2⟩ : ∃ NA, area w h 0 = NA := ⟨_, rfl⟩
  rw [hNA2] at hNA e2
  have HNA := Lib.hid hNA
  obtain ⟨L, hLe⟩ : ∃ L, levs w h = L := ⟨_, rfl⟩
  have HL := Lib.hid hLe
  have hd := below_blk (below_alloc1 W (.cells #[.int .i64 x0, .int .i64 y0, .int .i64 x1, .int .i64 y1] 71)) HR.head
  have hr := below_blk (below_alloc1 W (.cells #[.int .i64 x0, .int .i64 y0, .int .i64 x1, .int .i64 y1] 71)) HR.row
  rw [hLe] at hd hL
  have hLp : 0 < L := by omega
  have c0 := (blk_cell hr 0).trans e0
  have c1 := (blk_cell hr (0 + 1)).trans e1
  have c2 := (blk_cell hr (0 + 2)).trans e2
  have k_0 := cells_w hd 0 rfl
  clear e0 e1 e2 hNA hNA2 hLe
  go_enter Try.func23, Try.ntmps23
  go_wp2_with fail
  have n5 := below_blk (below_alloc1 _ (.cells #[.int .i64 w, .int .i64 h, .slice (some ⟨s 0, 0, none⟩) NA NA] 68)) (blk_new W (.cells #[.int .i64 x0, .int .i64 y0, .int .i64 x1, .int .i64 y1] 71))
  have n7 := blk_new2 W (.cells #[.int .i64 x0, .int .i64 y0, .int .i64 x1, .int .i64 y1] 71) (.cells #[.int .i64 w, .int .i64 h, .slice (some ⟨s 0, 0, none⟩) NA NA] 68)
  have hB := below_alloc (below_alloc1 W (.cells #[.int .i64 x0, .int .i64 y0, .int .i64 x1, .int .i64 y1] 71)) (.cells #[.int .i64 w, .int .i64 h, .slice (some ⟨s 0, 0, none⟩) NA NA] 68)
  obtain ⟨E, hE⟩ : ∃ E, W.heap.size = E := ⟨_, rfl⟩
  rw [hE] at n5 n7 ⊢
  obtain ⟨W1, hW1⟩ : ∃ W1, ((W.alloc (.cells #[.int .i64 x0, .int .i64 y0, .int .i64 x1, .int .i64 y1] 71)).alloc (.cells #[.int .i64 w, .int .i64 h, .slice (some ⟨s 0, 0, none⟩) NA NA] 68)) = W1 := ⟨_, rfl⟩
  rw [hW1] at n5 n7 hB ⊢
  clear hW1 hd hr c0 c1 c2 k_0
  have HG1 := HG.below hB
  refine (grid_Size_ok g Fg w h f' W1 HG1).mono ?_
  rintro e w2 ⟨rfl, hb⟩
  replace n5 := below_blk hb n5
  replace n7 := below_blk hb n7
  replace HG1 := HG1.below hb
  replace hB := below_next hB hb
  clear hb
  have k_0 := cells_w n5 0 rfl
  have k_1 := cells_w n5 1 rfl
  have k_2 := cells_w n5 2 rfl
  have k_3 := cells_w n5 3 rfl
  have l_0 := cells_w n7 0 rfl
  have l_1 := cells_w n7 1 rfl
  have l_2 := cells_w n7 2 rfl
  go_wp2_with fail
  refine (grid_Values_ok g Fg w h x0 y0 x1 y1 f' w2 HG1 a0 a1 a2 a3 a4 a5 rw rh Hrw.out Hrh.out).mono ?_
  rintro e w3 ⟨k3, cap3, cs3, rfl, hcap3, hk3, hb, hrow3, hcs3⟩
  have hk3e : E + 2 ≤ k3 := by have := blk_lt n7; omega
  replace n5 := below_blk hb n5
  replace n7 := below_blk hb n7
  replace hB := below_next hB hb
  have HR3 := HR.below hB
  clear hb k_0 k_1 k_2 k_3 l_0 l_1 l_2 HG1 HG
  obtain ⟨N, hN⟩ : ∃ N, rw * rh = N := ⟨_, rfl⟩
  have HN := Lib.hid hN
  rw [hN] at hm hcap3 hcs3 ⊢
  clear hN
  go_wp2_with fail
  have hs0 := HR.lt (s 0) (HR.owns 0 (by have := HL.out; omega))
  rw [hE] at hs0
  have hFE : ∀ t, F t → t < E := fun t ht => by have := HR.lt t ht; omega
  have HFE := Lib.hid hFE
  clear hFE
  have l7 := blk_lt n7
  have hk3s : k3 ≠ s 0 := by omega
  have hsz3 := hB.size
  obtain ⟨fm, hfm⟩ : ∃ fm, mixF x0 y0 x1 y1 f' f = fm := ⟨_, rfl⟩
  have HFM := Lib.hid hfm
  rw [hfm]
  have hcs0 : CellsAt w3 (s 0) (lw w 0) (lw h 0) (LayR x0 y0 x1 y1 rw 0 (Rng fm w h 0) (Rng f w h 0)) := (HR3.cells 0 (by have := HL.out; omega)).weaken (fun x y a c _ _ _ _ hr => layR_zero hr)
  have HC0 := Lib.hid hcs0
  have HCS := Lib.hid hcs3
  have HR3' := Lib.hid HR3
  have HW0 := Lib.hid (And.intro hw0 hh0)
  clear hfm hcs0 hcs3 HR3 HR hk3 hw0 hh0
  go_loopg [55] N (fun q v55 wr => ∃ i : Nat, Hid (i + q = N) ∧ v55 = .int .i64 (i : Int) ∧ Hid (LayStR w3 (s 0) w h x0 y0 x1 y1 rw fm f i wr))
  case atStart => exact ⟨0, Nat.zero_add _, rfl, Mod.refl _ _, HC0.out⟩
  case round =>
    obtain ⟨i, hi, rfl, hSt⟩ := hrel
    have m5 := hSt.out.1.blk n5 (by omega)
    have m7 := hSt.out.1.blk n7 (by omega)
    have mr := hSt.out.1.blk hrow3 hk3s
    cases gk with
    | zero =>
      have ht : decide (i < N) = false := decide_eq_false (by have := hi.out; omega)
      have ht2 : decide ((i : Int) < (N : Int)) = false := decide_eq_false (by have := hi.out; omega)
      have ei : i = N := hi.out
      have hC0 := hSt.out.2
      rw [ei, ← HN.out] at hC0
      have hC1 : CellsAt wr (s 0) (lw w 0) (lw h 0) (Rng fm w h 0) := hC0.weaken (fun x y a c _ _ _ _ hr => by
        have h8 := layR_all Hrw.out Hrh.out hr
        rw [← HFM.out] at h8 ⊢
        refine mix_rng ?_
        rw [div_zero', div_zero', div_zero', div_zero']
        exact h8)
      have hP1 := (HR3'.out.turn (R' := lvl fm f w h 0) (fun k _ x y a c _ _ _ _ hr => by rw [lvl_ge (by omega)]; exact hr)).step (by have := HL.out; omega) hSt.out.1 hC1
      have HP1 := Lib.hid hP1
      have hM1 : Mod (fun t => F t ∨ t = E) w3 wr := hSt.out.1.mono (fun t ht => .inl (by rw [ht]; exact HR3'.out.owns 0 (by have := HL.out; omega)))
      have HM1 := Lib.hid hM1
      clear ei hC0 hC1 hP1 hM1 m7 mr hSt
      go_wp2_with fail
      go_loopg [16] (L - 1) (fun q v16 wz => ∃ (kk : Nat) (X0 Y0 X1 Y1 : Int), Hid (kk + 1 + q = L) ∧ v16 = .int .i64 ((kk : Int) + 1) ∧ Hid (X0 = x0 / 2 ^ kk ∧ Y0 = y0 / 2 ^ kk ∧ X1 = x1 / 2 ^ kk ∧ Y1 = y1 / 2 ^ kk) ∧ wz.heap[E]? = some (.cells #[.int .i64 X0, .int .i64 Y0, .int .i64 X1, .int .i64 Y1] 71 (0, 0)) ∧ Hid (PyrRaw wz p F w h (lvl fm f w h (kk + 1)) A cap ps s) ∧ Hid (Mod (fun t => F t ∨ t = E) w3 wz))
      case atStart => exact ⟨0, x0, y0, x1, y1, show 0 + 1 + (L - 1) = L by omega, rfl, ⟨(div_zero' _).symm, (div_zero' _).symm, (div_zero' _).symm, (div_zero' _).symm⟩, m5, HP1.out, HM1.out⟩
      case round =>
        clear HP1 HM1 m5
        obtain ⟨kk, X0, Y0, X1, Y1, hk, rfl, hXY, r5, hP, hM⟩ := hrel
        have hd := hP.out.head
        rw [HL.out] at hd
        have k_0 := cells_w hd 0 rfl
        cases gk with
        | zero =>
          have ht3 : decide ((kk : Int) + 1 < (L : Int)) = false := decide_eq_false (by have := hk.out; omega)
          go_wp2_with fail
          go_ret
          have ek : kk + 1 = L := hk.out
          have hP2 := hP.out
          rw [ek, ← HL.out] at hP2
          refine ⟨rfl, (Mod.of_below (S := F) hB).trans hM.out (fun t ht => ht.elim .inl (fun e => .inr (by omega))), A, cap, ps, s, hP2.turn (fun k hk x y a c _ _ _ _ hr => by rw [lvl_lt hk] at hr; rw [HFM.out]; exact hr)⟩
        | succ q =>
          have hkL : kk + 1 < L := by have := hk.out; omega
          have hkL2 : (kk : Int) + 1 < (L : Int) := by omega
          have ht3 : decide ((kk : Int) + 1 < (L : Int)) = true := decide_eq_true hkL2
          have bX : 0 ≤ X0 ∧ X0 ≤ X1 ∧ X1 < 1024 := by have h8 := rect_lv (k := kk) a0 a1 a2; have h9 := lw_bd d1 kk; obtain ⟨e1, e2, e3, e4⟩ := hXY.out; omega
          have bY : 0 ≤ Y0 ∧ Y0 ≤ Y1 ∧ Y1 < 1024 := by have h8 := rect_lv (k := kk) a3 a4 a5; have h9 := lw_bd d3 kk; obtain ⟨e1, e2, e3, e4⟩ := hXY.out; omega
          have l_0 := cells_w r5 0 rfl
          have l_1 := cells_w r5 1 rfl
          have l_2 := cells_w r5 2 rfl
          have l_3 := cells_w r5 3 rfl
          have z_0 := blk_frozen r5 0
          have z_1 := blk_frozen r5 1
          have z_2 := blk_frozen r5 2
          have z_3 := blk_frozen r5 3
          go_wp2_with fail
          have s5 : ((((wr.setCell ⟨E, 0, none⟩ (.int .i64 (X0 / 2))).setCell ⟨E, 1, none⟩ (.int .i64 (Y0 / 2))).setCell ⟨E, 2, none⟩ (.int .i64 (X1 / 2))).setCell ⟨E, 3, none⟩ (.int .i64 (Y1 / 2))).heap[E]? = some (.cells #[.int .i64 (X0 / 2), .int .i64 (Y0 / 2), .int .i64 (X1 / 2), .int .i64 (Y1 / 2)] 71 (0, 0)) := by simpa using blk_set (blk_set (blk_set (blk_set r5 0 (.int .i64 (X0 / 2))) 1 (.int .i64 (Y0 / 2))) 2 (.int .i64 (X1 / 2))) 3 (.int .i64 (Y1 / 2))
          have hME : Mod (fun t => t = E) wr ((((wr.setCell ⟨E, 0, none⟩ (.int .i64 (X0 / 2))).setCell ⟨E, 1, none⟩ (.int .i64 (Y0 / 2))).setCell ⟨E, 2, none⟩ (.int .i64 (X1 / 2))).setCell ⟨E, 3, none⟩ (.int .i64 (Y1 / 2))) := ((((Mod.refl (fun t => t = E) wr).setCell (p := ⟨E, 0, none⟩) (.inl rfl) _).setCell (p := ⟨E, 1, none⟩) (.inl rfl) _).setCell (p := ⟨E, 2, none⟩) (.inl rfl) _).setCell (p := ⟨E, 3, none⟩) (.inl rfl) _
          obtain ⟨w6, hw6⟩ : ∃ w6, ((((wr.setCell ⟨E, 0, none⟩ (.int .i64 (X0 / 2))).setCell ⟨E, 1, none⟩ (.int .i64 (Y0 / 2))).setCell ⟨E, 2, none⟩ (.int .i64 (X1 / 2))).setCell ⟨E, 3, none⟩ (.int .i64 (Y1 / 2))) = w6 := ⟨_, rfl⟩
          rw [hw6] at s5 hME ⊢
          have hP6 := hP.out.keep hME.size (fun t ht => hME.block t (hP.out.lt t ht) (fun e => by have := HFE.out t ht; omega))
          have hM6 : Mod (fun t => F t ∨ t = E) w3 w6 := hM.out.trans hME (fun t ht => .inl (.inr ht))
          have HP6 := Lib.hid hP6
          have HM6 := Lib.hid hM6
          clear hw6 hME r5 hd l_0 l_1 l_2 l_3 z_0 z_1 z_2 z_3 k_0 hP hM hM6
          have hd := hP6.head
          have hr := hP6.row
          rw [HL.out] at hd
          obtain ⟨e0, e1, e2⟩ := hP6.lev kk (by have := HL.out; omega)
          obtain ⟨e3, e4, e5⟩ := hP6.lev (kk + 1) (by have := HL.out; omega)
          have q0 := fun d os => cell_regrown ((blk_cell hr _).trans e0) d os
          have q1 := fun d os => cell_regrown ((blk_cell hr _).trans e1) d os
          have q2 := fun d os => cell_regrown ((blk_cell hr _).trans e2) d os
          have q3 := fun d os => cell_regrown ((blk_cell hr _).trans e3) d os
          have q4 := fun d os => cell_regrown ((blk_cell hr _).trans e4) d os
          have q5 := fun d os => cell_regrown ((blk_cell hr _).trans e5) d os
          clear hP6 e0 e1 e2 e3 e4 e5 hr
          have k_0 := cells_q hd 0 rfl
          have l_0 := cells_q s5 0 rfl
          have l_1 := cells_q s5 1 rfl
          have l_2 := cells_q s5 2 rfl
          have l_3 := cells_q s5 3 rfl
          refine wp_tail 16 (by kernel_rfl) (by kernel_rfl) ?_
          simp only [List.take_succ_cons, List.take_zero, List.drop_succ_cons, List.drop_zero]
          repeat (go_big_quiet_step ((first | fail)))
          refine wpQuiet_nil ?_
          intro w7 hb7
          clear q0 q1 q2 q3 q4 q5 k_0 l_0 l_1 l_2 l_3
          go_wp2_with fail
          have hP7 := HP6.out.below hb7
          have hkl : kk < levs w h := by have := HL.out; omega
          have hkl1 : kk + 1 < levs w h := by have := HL.out; omega
          have hcB := hP7.cells (kk + 1) hkl1
          have hcU := hP7.cells kk hkl
          rw [lvl_ge (by omega)] at hcB
          rw [lvl_lt (by omega)] at hcU
          have hne := hP7.inj (kk + 1) kk hkl1 hkl (by omega)
          have s7 := below_blk hb7 s5
          have hM7 := HM6.out.then_below hb7
          obtain ⟨e1, e2, e3, e4⟩ := hXY.out
          have g1 : X0 / 2 = x0 / 2 ^ (kk + 1) := by rw [e1, div_half]
          have g2 : Y0 / 2 = y0 / 2 ^ (kk + 1) := by rw [e2, div_half]
          have g3 : X1 / 2 = x1 / 2 ^ (kk + 1) := by rw [e3, div_half]
          have g4 : Y1 / 2 = y1 / 2 ^ (kk + 1) := by rw [e4, div_half]
          have hG := Lib.hid (And.intro g1 (And.intro g2 (And.intro g3 g4)))
          have rX := rect_lv (k := kk + 1) a0 a1 a2
          have rY := rect_lv (k := kk + 1) a3 a4 a5
          rw [← g1, ← g3] at rX
          rw [← g2, ← g4] at rY
          refine (mend_ok (s (kk + 1)) (s kk) w h kk (X0 / 2) (Y0 / 2) (X1 / 2) (Y1 / 2) fm (Rng f w h (kk + 1)) w7 d1 d2 d3 d4 hne hcB hcU rX.1 rX.2.1 rX.2.2 rY.1 rY.2.1 rY.2.2).mono ?_
          rintro e w8 ⟨rfl, hM8, hC8⟩
          have hC9 : CellsAt w8 (s (kk + 1)) (lw w (kk + 1)) (lw h (kk + 1)) (Rng fm w h (kk + 1)) := hC8.weaken (fun x y a c _ _ _ _ hr => by
            rw [hG.out.1, hG.out.2.1, hG.out.2.2.1, hG.out.2.2.2] at hr
            rw [← HFM.out] at hr ⊢
            exact mix_rng hr)
          have hP8 := hP7.step hkl1 hM8 hC9
          have hFs := hP7.owns (kk + 1) hkl1
          have hsE : s (kk + 1) ≠ E := by have := HFE.out _ hFs; omega
          have HP8 := Lib.hid hP8
          have HM8 := Lib.hid (hM7.trans hM8 (fun t ht => .inl (.inl (by rw [ht]; exact hFs))))
          have s8 := hM8.blk s7 (fun e => hsE e.symm)
          clear e1 e2 e3 e4 g1 g2 g3 g4 hP7 hP8 hC8 hC9 hcB hcU hM7 hM8
          go_wp2_with fail
          go_roundg q
          case measure => omega
          case rel =>
            exact ⟨kk + 1, X0 / 2, Y0 / 2, X1 / 2, Y1 / 2, by have := hk.out; exact (show kk + 1 + 1 + q = L by omega), by first | rfl | (exact congrArg (Value.int .i64) (by push_cast; omega)), hG.out, s8, HP8.out, HM8.out⟩
    | succ q =>
      have hlt : i < N := by have := hi.out; omega
      have hlt2 : (i : Int) < (N : Int) := by omega
      have ht : decide (i < N) = true := decide_eq_true hlt
      have ht2 : decide ((i : Int) < (N : Int)) = true := decide_eq_true hlt2
      have hci := (blk_cell mr i).trans (HCS.out i hlt)
      have k_0 := cells_w m5 0 rfl
      have k_1 := cells_w m5 1 rfl
      have k_2 := cells_w m5 2 rfl
      have k_3 := cells_w m5 3 rfl
      go_wp2_with fail
      refine (nth_ok x0 y0 x1 y1 i _ a0 a1 (by omega) a3 a4 (by omega) (by omega) (by have h8 := Hrh.out; have h9 := HN.out; rw [← Hrw.out, ← h8]; have : ((rw * rh : Nat) : Int) = rw * rh := by { push_cast; rfl }; omega)).mono ?_
      rw [← Hrw.out, show (i : Int) % (rw : Int) = ((i % rw : Nat) : Int) by push_cast; rfl, show (i : Int) / (rw : Int) = ((i / rw : Nat) : Int) by push_cast; rfl]
      rintro e w4 ⟨rfl, hb⟩
      replace m5 := below_blk hb m5
      replace m7 := below_blk hb m7
      have hSt4 : LayStR w3 (s 0) w h x0 y0 x1 y1 rw fm f i w4 := ⟨hSt.out.1.then_below hb, hSt.out.2.keep (hb.block _ (by obtain ⟨cs, hc, _⟩ := hSt.out.2; exact blk_lt hc))⟩
      clear k_0 k_1 k_2 k_3 hb hSt hci mr
      have hIm : i % rw < rw := Nat.mod_lt i (by omega)
      have hJd : i / rw < rh := Nat.div_lt_of_lt_mul (by rw [HN.out]; exact hlt)
      have hij := Nat.div_add_mod i rw
      generalize hI : i % rw = I at *
      generalize hJ : i / rw = J at *
      have HIJ := Lib.hid hij
      clear hij hI hJ
      have hXY : x0 + (I : Int) < w ∧ y0 + (J : Int) < h := by have h8 := Hrw.out; have h9 := Hrh.out; omega
      have hx0 : 0 ≤ x0 + (I : Int) := by omega
      have hy0 : 0 ≤ y0 + (J : Int) := by omega
      have hCB := hSt4.2
      rw [HW0.out.1, HW0.out.2] at hCB
      have hCB2 := hCB
      obtain ⟨cb, hcb, hvb⟩ := hCB2
      obtain ⟨oa, oc, f1, f2, _⟩ := hvb (x0 + (I : Int)) (y0 + (J : Int)) hx0 hXY.1 hy0 hXY.2
      have g0 := (blk_cell hcb _).trans f1
      have g1 := (blk_cell hcb _).trans f2
      have z0 := blk_frozen hcb (((y0 + (J : Int)) * w + (x0 + (I : Int))).toNat * 2)
      have z1 := blk_frozen hcb (((y0 + (J : Int)) * w + (x0 + (I : Int))).toNat * 2 + 1)
      have hix := idx_lt (x := x0 + (I : Int)) (y := y0 + (J : Int)) (w := w) (h := h) hx0 hXY.1 hy0 hXY.2
      have hmm := mul_bd (a := y0 + (J : Int)) (b := w) (A := 1024) (B := 1024) (by omega) (by omega) (by omega) (by omega)
      have hwh := mul_bd (a := w) (b := h) (A := 1024) (B := 1024) (by omega) (by omega) (by omega) (by omega)
      have u1 : wrap64 ((y0 + (J : Int)) * w) = (y0 + (J : Int)) * w := wrap64_id (by omega) (by omega)
      have u2 : wrap64 ((y0 + (J : Int)) * w + (x0 + (I : Int))) = (y0 + (J : Int)) * w + (x0 + (I : Int)) := wrap64_id (by omega) (by omega)
      have hI0 := hix.1
      have hI1 : (y0 + (J : Int)) * w + (x0 + (I : Int)) < (NA : Int) := by have := HNA.out; omega
      have lB := blk_lt hcb
      have l_0 := cells_w m7 0 rfl
      have l_1 := cells_w m7 1 rfl
      have l_2 := cells_w m7 2 rfl
      have HCB := Lib.hid hCB
      have HS4 := Lib.hid hSt4.1
      have HXY := Lib.hid hXY
      clear hCB hvb f1 f2 hix hwh hSt4
      have ga := fun o => cell_alloc (o := o) g0
      have gb := fun o => cell_alloc (o := o) g1
      have la := fun o => cell_alloc (o := o) l_0
      have lb := fun o => cell_alloc (o := o) l_1
      have lc := fun o => cell_alloc (o := o) l_2
      have za := fun o => blk_frozen (below_blk (below_alloc1 w4 o) hcb) (((y0 + (J : Int)) * w + (x0 + (I : Int))).toNat * 2)
      have zb := fun o => blk_frozen (below_blk (below_alloc1 w4 o) hcb) (((y0 + (J : Int)) * w + (x0 + (I : Int))).toNat * 2 + 1)
      go_wp2_with fail
      go_roundg q
      case measure => omega
      case rel =>
        have hiv : rowG f' x0 y0 rw i = f' (x0 + (I : Int)) (y0 + (J : Int)) := by rw [← HIJ.out]; exact rowG_at f' x0 y0 hIm
        have hin : inR x0 y0 x1 y1 (x0 + (I : Int)) (y0 + (J : Int)) := by have h8 := Hrw.out; have h9 := Hrh.out; unfold inR; omega
        have hfv : fm (x0 + (I : Int)) (y0 + (J : Int)) = f' (x0 + (I : Int)) (y0 + (J : Int)) := by rw [← HFM.out]; exact mix_in hin
        have hrn := rng0 (f := fm) (w := w) (h := h) hx0 HXY.out.1 hy0 HXY.out.2
        rw [hfv, ← hiv] at hrn
        refine ⟨i + 1, by have := hi.out; exact (show i + 1 + q = N by omega), by first | rfl | (exact congrArg (Value.int .i64) (by push_cast; omega)), ?_, ?_⟩
        · exact ((HS4.out.setCell (.inl rfl) _).setCell (.inl rfl) _).then_below (below_alloc1 _ _)
        · rw [HW0.out.1, HW0.out.2]
          have hC := HCB.out
          rw [← HIJ.out] at hC ⊢
          refine CellsAt.keep (W := ((w4.setCell ⟨s 0, ((y0 + (J : Int)) * w + (x0 + (I : Int))).toNat * 2, none⟩ (.int .i64 (rowG f' x0 y0 rw i))).setCell ⟨s 0, ((y0 + (J : Int)) * w + (x0 + (I : Int))).toNat * 2 + 1, none⟩ (.int .i64 (rowG f' x0 y0 rw i)))) ?_ ?_
          · rw [← HIJ.out] at hrn ⊢
            exact hC.put hx0 HXY.out.1 hy0 HXY.out.2 (layR_this hIm hin hrn) (fun x y a' c' _ _ _ _ hne hr => layR_next Hrw.out hIm hne hr)
          · rw [← HIJ.out]
            exact (below_alloc1 _ _).block _ (by simpa using lB)
end Go.Proofs.Ytfnflgcalhiamaa
/- pyr.Build. -/
set_option linter.unusedVariables false
set_option linter.unusedSimpArgs false
namespace Go.Proofs.Ytfnflgcalhiamaa
open Go.RowKit

/-- The levels so far, as cells. -/
def plist (w h : Int) (s : Nat → Nat) (j : Nat) : List Value := (List.range j).flatMap fun k => [.int .i64 (lw w k), .int .i64 (lw h k), .slice (some ⟨s k, 0, none⟩) (area w h k) (area w h k)]
theorem plist_succ (w h : Int) (s : Nat → Nat) (j b : Nat) : plist w h (fun i => if i = j then b else s i) (j + 1) = plist w h s j ++ [.int .i64 (lw w j), .int .i64 (lw h j), .slice (some ⟨b, 0, none⟩) (area w h j) (area w h j)] := by
  simp only [plist, List.range_succ, List.flatMap_append, List.flatMap_cons, List.flatMap_nil, List.append_nil, if_pos]
  congr 1
  rw [List.flatMap_def, List.flatMap_def]
  congr 1
  refine List.map_congr_left (fun i hi => ?_)
  rw [if_neg (by have := List.mem_range.1 hi; omega)]
theorem plist_length (w h : Int) (s : Nat → Nat) (n : Nat) : (plist w h s n).length = n * 3 := by
  induction n with
  | zero => rfl
  | succ n ih =>
    have hs : plist w h s (n + 1) = plist w h s n ++ [.int .i64 (lw w n), .int .i64 (lw h n), .slice (some ⟨s n, 0, none⟩) (area w h n) (area w h n)] := by simp [plist, List.range_succ]
    rw [hs, List.length_append, ih]
    simp
    omega
theorem plist_get (w h : Int) (s : Nat → Nat) : ∀ (n q : Nat), q < n → (plist w h s n)[q * 3]? = some (.int .i64 (lw w q)) ∧ (plist w h s n)[q * 3 + 1]? = some (.int .i64 (lw h q)) ∧ (plist w h s n)[q * 3 + 2]? = some (.slice (some ⟨s q, 0, none⟩) (area w h q) (area w h q))
  | n + 1, q, hq => by
    have hl := plist_length w h s n
    have hs : plist w h s (n + 1) = plist w h s n ++ [.int .i64 (lw w n), .int .i64 (lw h n), .slice (some ⟨s n, 0, none⟩) (area w h n) (area w h n)] := by simp [plist, List.range_succ]
    rw [hs]
    by_cases e : q = n
    · subst e
      rw [List.getElem?_append_right (by omega), List.getElem?_append_right (by omega), List.getElem?_append_right (by omega), hl]
      simp
    · rw [List.getElem?_append_left (by omega), List.getElem?_append_left (by omega), List.getElem?_append_left (by omega)]
      exact plist_get w h s n q (by omega)
/-- The first j levels of a new pyramid. -/
def BuildStep (w3 : World) (P : Nat) (w h : Int) (j : Nat) (wr : World) : Prop :=
  ∃ (vj : Value) (s : Nat → Nat), wr.heap[P]? = some (.cells #[vj] 60 (0, 0)) ∧ Hid (wr.ownsRow w3.heap.size 68 3 vj j (plist w h s j)) ∧
    Hid ((∀ i, i < j → CellsAt wr (s i) (lw w i) (lw h i) (Rng (fun _ _ => 0) w h i)) ∧ (∀ i, i < j → w3.heap.size ≤ s i ∧ vj.ownBlock ≠ some (s i)) ∧ ∀ i i2, i < j → i2 < j → i ≠ i2 → s i ≠ s i2) ∧ Mod (fun k => k = P) w3 wr
/-- A new pyramid. -/
def PyrMade (w h : Int) (f : Int → Int → Int) (W : World) (e : Ending) (W' : World) : Prop :=
  ∃ p F, e = .returned (.tuple #[.pointer (some ⟨p, 0, none⟩), .int .i64 0]) ∧ Below W.heap.size W W' ∧ (∀ k, F k → W.heap.size ≤ k) ∧ PyrAt W' p F w h f
theorem info_level : (Try.prog.info? 68).map (fun i => (i.zero, i.size, i.bytes)) = some (some (.agg #[.int .i64 0, .int .i64 0, .slice none 0 0]), 3, 40) := by kernel_rfl
theorem info_Range : (Try.prog.info? 83).map (fun i => (i.zero, i.size, i.bytes)) = some (some (.agg #[.int .i64 0, .int .i64 0]), 2, 16) := by kernel_rfl

/-- One element is appended to a row of the call's own, as one step of a region that draws its order. -/
theorem wp_append_own_new {P : Program} {o : Oper} {a : Act} {w : World} {K : Act → World → Prop} {Q : Exit → Act → World → Prop} (base : Nat) (s x : Operand) (t e : TypeId) (z : Value) (size bytes : Nat)
    (ho : o.op = .call { callee := .builtin .append, args := #[s, x], argTypes := #[t, t] })
    (ht : P.underlying t = some (.slice e)) (hinfo : (P.info? e).map (fun i => (i.zero, i.size, i.bytes)) = some (some z, size, bytes)) (hz : z.cells.size = size) (hsz : 0 < size)
    (v : Value) (n : Nat) (xs : List Value) (ys : List Value) (hs : a.eval s = v) (B : Nat) (hx : a.eval x = .slice (some ⟨B, 0, none⟩) 1 1) (hblk : w.heap[B]? = some (.cells ys.toArray e (0, 0))) (hys : ys.length = size) (h1 : ∀ u ∈ ys, u.oneCell' = true)
    (HO : w.ownsRow base e size v n xs) (hbase : base ≤ w.heap.size) (hl : (n + 1) * bytes ≤ 140737488355328) (hn : n + 1 ≤ 9223372036854775807)
    (h : ∀ k8 cap8 w1, Hid (w1.ownsRow base e size (.slice (some ⟨k8, 0, none⟩) (n + 1) cap8) (n + 1) (xs ++ ys) ∧ Mod (fun k => v.ownBlock = some k) w w1 ∧ (∀ k, k = k8 → v.ownBlock = some k ∨ w.heap.size ≤ k)) → K (a.put o.dst (.slice (some ⟨k8, 0, none⟩) (n + 1) cap8)) w1) : o.wp P a w K Q := by
  obtain ⟨i0, hi, hzz⟩ := Option.map_eq_some_iff.1 hinfo
  simp only [Prod.mk.injEq] at hzz
  obtain ⟨hz0, hz1, hz2⟩ := hzz
  obtain ⟨v', w', hr, h2, h3, h4, h5⟩ := run_append_own_at (P := P) w base t o.type e i0 z size bytes ht hi hz0 hz1 hz2 hz hsz v n xs HO ⟨B, 0, none⟩ 1 1 ys (by simpa using hys) (World.news_of_block (fr := (0, 0)) hblk) h1 (by simp only [maxLen]; omega) hl hbase
  obtain ⟨k8, cap8, cs8, rfl, hc1, hc2, hc3, hc4⟩ := own_rowS h2 (by omega)
  have hK := h k8 cap8 w' ⟨h2, ⟨h3.os, h3.tape, h3.output, h3.size, fun k hk hn => h3.block k hk (fun e => hn e.symm)⟩, fun k hk => ?_⟩
  · unfold Oper.wp execOp
    simp only [ho, resolve, invoke, builtin, Sem.run_bind, Sem.run_pure, Result.andThen_ok, List.map_toArray, List.map_cons, List.map_nil, hs, hx, hr]
    exact hK
  · subst hk
    rcases h5 with h5 | h5
    · exact .inl h5.symm
    · have := Option.some.inj h5
      exact .inr (by simp at this; omega)
theorem step_append_own_new {P : Program} {ops : Array Oper} {E : Prop} {o : Oper} {a : Act} {w : World} {K : Act → World → Prop} {Q : Exit → Act → World → Prop} (base : Nat) (hgd : o.guard = none) (s x : Operand) (t e : TypeId) (z : Value) (size bytes : Nat)
    (ho : o.op = .call { callee := .builtin .append, args := #[s, x], argTypes := #[t, t] })
    (ht : P.underlying t = some (.slice e)) (hinfo : (P.info? e).map (fun i => (i.zero, i.size, i.bytes)) = some (some z, size, bytes)) (hz : z.cells.size = size) (hsz : 0 < size)
    (v : Value) (n : Nat) (xs : List Value) (ys : List Value) (hs : a.eval s = v) (B : Nat) (hx : a.eval x = .slice (some ⟨B, 0, none⟩) 1 1) (hblk : w.heap[B]? = some (.cells ys.toArray e (0, 0))) (hys : ys.length = size) (h1 : ∀ u ∈ ys, u.oneCell' = true)
    (HO : w.ownsRow base e size v n xs) (hbase : base ≤ w.heap.size) (hl : (n + 1) * bytes ≤ 140737488355328) (hn : n + 1 ≤ 9223372036854775807)
    (h : ∀ k8 cap8 w1, Hid (w1.ownsRow base e size (.slice (some ⟨k8, 0, none⟩) (n + 1) cap8) (n + 1) (xs ++ ys) ∧ Mod (fun k => v.ownBlock = some k) w w1 ∧ (∀ k, k = k8 → v.ownBlock = some k ∨ w.heap.size ≤ k)) → K (a.put o.dst (.slice (some ⟨k8, 0, none⟩) (n + 1) cap8)) w1) :
    if Region.wanted o (yielded ops a.tmps) = true then o.wp P a w K Q else E := by
  have hw : Region.wanted o (yielded ops a.tmps) = true := by simp [Region.wanted, hgd]
  rw [if_pos hw]
  exact wp_append_own_new base s x t e z size bytes ho ht hinfo hz hsz v n xs ys hs B hx hblk hys h1 HO hbase hl hn h
theorem make_range (n : Nat) (hn : n ≤ 1048576) : ∃ Z : Array Value, (∀ i, i < n → Z[i * 2]? = some (.int .i64 0) ∧ Z[i * 2 + 1]? = some (.int .i64 0)) ∧
    ∀ w, (Instr.makeSlice 66 (.int .i64 (n : Int)) (.int .i64 (n : Int))).run Try.prog w = .ok (.slice (some ⟨w.heap.size, 0, none⟩) n n) (w.alloc (.cells Z 83)) := by
  obtain ⟨i0, hi, hzz⟩ := Option.map_eq_some_iff.1 info_Range
  simp only [Prod.mk.injEq] at hzz
  obtain ⟨hz0, hz1, hz2⟩ := hzz
  refine ⟨madeCells #[.int .i64 0, .int .i64 0] (n * 2), fun i hi => ?_, fun w => ?_⟩
  · constructor
    · simp [madeCells, show i * 2 < n * 2 by omega]
    · simp [madeCells, show i * 2 + 1 < n * 2 by omega, show (i * 2 + 1) % 2 = 1 by omega]
  · have hr := run_make (P := Try.prog) w 66 83 i0 _ Try.underlying66 hi hz0 .i64 .i64 n n (by omega) (Int.le_refl _) (by rw [hz2]; omega) (by omega)
    rw [hz1, Int.toNat_natCast] at hr
    exact hr

set_option maxHeartbeats 2000000 in
set_option maxRecDepth 100000 in
theorem build_ok (g : Nat) (Fg : Nat → Prop) (w h : Int) (f : Int → Int → Int) (W : World) (HG : GridAt W g Fg w h f) :
    Calls Try.prog 8 #[.pointer (some ⟨g, 0, none⟩)] W (PyrMade w h f W) := by
  obtain ⟨d1, d2, d3, d4⟩ := HG.dims
  have hL := levs_bd d1 d2 d3 d4
  obtain ⟨L, hLe⟩ : ∃ L, levs w h = L := ⟨_, rfl⟩
  have HL := Lib.hid hLe
  rw [hLe] at hL
  clear hLe
  go_enter Try.func8, Try.ntmps8
  go_wp2_with fail
  have nP := blk_new W (.cells #[.slice none 0 0] 60)
  have hB := below_alloc1 W (.cells #[.slice none 0 0] 60)
  have HG1 := HG.below hB
  refine (grid_Size_ok g Fg w h f _ HG1).mono ?_
  rintro e w2 ⟨rfl, hb⟩
  replace nP := below_blk hb nP
  replace HG1 := HG1.below hb
  replace hB := below_next hB hb
  clear hb
  go_wp2_with fail
  refine (levels_ok w h w2 d1 d2 d3 d4).mono ?_
  rw [HL.out]
  rintro e w3 ⟨rfl, hb⟩
  replace nP := below_blk hb nP
  replace HG1 := HG1.below hb
  replace hB := below_next hB hb
  obtain ⟨P, hP⟩ : ∃ P, W.heap.size = P := ⟨_, rfl⟩
  have hPW : P < w3.heap.size := by rw [← hP]; exact blk_lt nP
  rw [hP] at nP ⊢
  have HP := Lib.hid hP
  clear hb hP
  go_wp2_with fail
  go_loopg [29] L (fun q v29 wr => ∃ j : Nat, Hid (j + q = L) ∧ v29 = .int .i64 (j : Int) ∧ BuildStep w3 P w h j wr)
  case atStart => exact ⟨0, Nat.zero_add _, rfl, _, fun _ => 0, nP, World.ownsRow_nil w3 w3.heap.size 68 3, ⟨fun i hi => by omega, fun i hi => by omega, fun i _ hi => by omega⟩, Mod.refl _ _⟩
  case round =>
    obtain ⟨j, hj, rfl, vj, s, nr, hown, hsl, hM⟩ := hrel
    cases gk with
    | zero =>
      have ht : decide (j < L) = false := decide_eq_false (by have := hj.out; omega)
      have ht2 : decide ((j : Int) < (L : Int)) = false := decide_eq_false (by have := hj.out; omega)
      obtain ⟨k9, cap9, cs9, hv9, hc1, hc2, hc3, hc4⟩ := own_rowS hown.out (by have := hj.out; omega)
      subst hv9
      have ej : j = L := hj.out
      obtain ⟨s1, s2, s3⟩ := hsl.out
      rw [ej] at s1 s2 s3 hc1 nr hc4
      rw [← HL.out] at s1 s2 s3 hc1 nr hc4
      have hPy : PyrRaw wr P (fun k => k = P ∨ k = k9 ∨ ∃ i, i < levs w h ∧ k = s i) w h (fun k => Rng (fun _ _ => 0) w h k) k9 cap9 cs9 s := by
        refine ⟨d1, d2, d3, d4, .inl rfl, .inr (.inl rfl), fun k hk => .inr (.inr ⟨k, hk, rfl⟩), ?_, by omega, fun k hk => ⟨by have := (s2 k hk).1; omega, fun e => (s2 k hk).2 (by rw [e]; rfl)⟩, s3, hc1, nr, hc3, fun k hk => ?_, s1⟩
        · rintro k (rfl | rfl | ⟨i, hi, rfl⟩)
          · exact blk_lt nr
          · exact blk_lt hc3
          · obtain ⟨cs, hc, _⟩ := s1 i hi
            exact blk_lt hc
        · have h8 := plist_get w h s (levs w h) k hk
          exact ⟨hc4 _ _ h8.1, hc4 _ _ h8.2.1, hc4 _ _ h8.2.2⟩
      have hPy2 : PyrAt wr P (fun k => k = P ∨ k = k9 ∨ ∃ i, i < levs w h ∧ k = s i) w h (fun _ _ => 0) := ⟨k9, cap9, cs9, s, hPy⟩
      have hFP : ∀ k, (k = P ∨ k = k9 ∨ ∃ i, i < levs w h ∧ k = s i) → P ≤ k := by
        rintro k (rfl | rfl | ⟨i, hi, rfl⟩)
        · omega
        · omega
        · have := (s2 i hi).1
          omega
      have HFP := Lib.hid hFP
      have HGr := HG1.mod hM (fun k hk e => by have := HG.lt k hk; have := HP.out; omega)
      have hBr : Below W.heap.size W wr := hB.trans (hM.below hB.size (fun k hk => by have := HP.out; omega))
      clear s1 s2 s3 hc1 hc2 hc3 hc4 hPy hFP hown hsl nr ej
      go_wp2_with fail
      refine (grid_All_ok g Fg w h f wr HGr).mono ?_
      rintro e w5 ⟨rfl, hb⟩
      have HG5 := HGr.below hb
      have hP5 := hPy2.below hb
      have hB5 := below_next hBr hb
      clear hb hPy2 HGr hBr
      go_wp2_with fail
      refine (repair_ok P _ g Fg w h 0 0 (w - 1) (h - 1) f _ w5 hP5 HG5 (by omega) (by omega) (by omega) (by omega) (by omega) (by omega)).mono ?_
      rintro e w6 ⟨rfl, hM6, hP6⟩
      go_wp2_with fail
      go_ret2
      refine ⟨P, _, rfl, hB5.trans (hM6.below hB5.size (fun k hk => by have := HFP.out k hk; have := HP.out; omega)), fun k hk => by have := HFP.out k hk; have := HP.out; omega, hP6.congr (fun x y c1 c2 c3 c4 => (mix_in (by unfold inR; omega)).symm)⟩
    | succ q =>
      have hlt : j < L := by have := hj.out; omega
      have ht : decide (j < L) = true := decide_eq_true hlt
      have ht2 : decide ((j : Int) < (L : Int)) = true := decide_eq_true (by omega)
      go_wp2_with fail
      refine (tier_size_ok w h j _ d1 d2 d3 d4 (by have := HL.out; omega)).mono ?_
      rintro e w4 ⟨rfl, hb⟩
      have n4 := below_blk hb nr
      have hown4 := own_below hown.out hb
      have bw := lw_bd d1 j
      have bh := lw_bd d3 j
      have hmm := mul_bd (a := lw w j) (b := lw h j) (A := 1024) (B := 1024) (by omega) (by omega) (by omega) (by omega)
      have u1 : wrap64 (lw w j * lw h j) = (area w h j : Int) := by rw [wrap64_id (by omega) (by omega)]; unfold area; omega
      have u2 : IntKind.i64.wrap (lw w j * lw h j) = (area w h j : Int) := by rw [IntWalk.i64_in _ (by omega)]; unfold area; omega
      have k_0 := cells_w n4 0 rfl
      have z_0 := blk_frozen n4 0
      go_wp2_with fail
      obtain ⟨Z, hZ, hmk⟩ := make_range (area w h j) (by unfold area; omega)
      have HZ := Lib.hid hZ
      have HN4 := Lib.hid n4
      have HOW := Lib.hid hown4
      have cP := cells_w n4 0 rfl
      have cP1 := fun o => cell_alloc (o := o) cP
      have cP2 := fun o o2 => cell_alloc (o := o2) (cP1 o)
      have hMb := hM.then_below hb
      have hsz4 := hMb.size
      have HMb := Lib.hid hMb
      have HSL := Lib.hid hsl
      have HB4 := Lib.hid hb
      have hoP : ∀ k, vj.ownBlock = some k → k ≠ P := fun k hk e => by have := (hown4.lt k hk).1; omega
      have HOP := Lib.hid hoP
      clear hZ n4 hown4 hMb hsl hb hoP k_0 z_0 hM nr hown
      go_region_law
        (first | (refine step_append_own_new w3.heap.size rfl (.tmp 44) (.tmp 52) 58 68 _ 3 40 rfl Try.underlying58 info_level rfl (by omega) _ j _ [.int .i64 (lw w j), .int .i64 (lw h j), .slice (some ⟨w4.heap.size, 0, none⟩) (area w h j) (area w h j)] rfl _ rfl (by first | exact blk_new_at (by simp) | exact blk_drew (blk_new_at (by simp))) rfl (by intro u hu; simp at hu; rcases hu with rfl | rfl | rfl <;> rfl) (own_below HOW.out (by repeat (first | exact Below.refl _ _ | refine below_drew1 ?_ | refine below_alloc ?_ _))) (by simp; omega) (by omega) (by omega) ?_; rintro k8 cap8 w8 h8; have HN8 : Hid (w8.heap[P]? = some (.cells #[vj] 60 (0, 0))) := h8.out.2.1.blk (by repeat (first | exact HN4.out | refine blk_drew ?_ | refine below_blk (below_alloc1 _ _) ?_)) (fun e => HOP.out P e rfl); have cP8 := cells_w HN8.out 0 rfl; have zP8 := blk_frozen HN8.out 0; have HO8 : Hid (w8.ownsRow w3.heap.size 68 3 (.slice (some ⟨k8, 0, none⟩) (j + 1) cap8) (j + 1) (plist w h s j ++ [.int .i64 (lw w j), .int .i64 (lw h j), .slice (some ⟨w4.heap.size, 0, none⟩) (area w h j) (area w h j)])) := h8.out.1; have HM8 : Hid (Mod (fun k => vj.ownBlock = some k) w4 w8) := (Mod.of_below (by repeat (first | exact Below.refl _ _ | refine below_drew1 ?_ | refine below_alloc ?_ _))).trans h8.out.2.1 (fun _ x => .inl x); have HK8 : Hid (vj.ownBlock = some k8 ∨ w4.heap.size + 2 ≤ k8) := (h8.out.2.2 k8 rfl).imp id (fun hx => by simpa using hx); have HZ8 : Hid (w8.heap[w4.heap.size]? = some (.cells Z 83 (0, 0))) := h8.out.2.1.blk (by repeat (first | exact blk_new _ _ | refine blk_drew ?_ | refine below_blk (below_alloc1 _ _) ?_)) (fun e => by have := (HOW.out.lt _ e).2; omega); clear h8))
      all_goals
        go_wp2_with fail
        go_roundg q
        case measure => omega
        case rel =>
          obtain ⟨s1, s2, s3⟩ := HSL.out
          have hset : Mod (fun k => k = P) w8 (w8.setCell ⟨P, 0, none⟩ (.slice (some ⟨k8, 0, none⟩) (j + 1) cap8)) := (Mod.refl (fun k => k = P) w8).setCell (p := ⟨P, 0, none⟩) (.inl rfl) _
          have hMf : Mod (fun k => k = P) w3 (w8.setCell ⟨P, 0, none⟩ (.slice (some ⟨k8, 0, none⟩) (j + 1) cap8)) := (HMb.out.trans HM8.out (fun k hk => .inr (HOW.out.lt k hk).1)).setCell (p := ⟨P, 0, none⟩) (.inl rfl) _
          have hsG : ∀ i, i < j → s i < wr.heap.size := fun i hi => by obtain ⟨cs, hc, _⟩ := s1 i hi; exact blk_lt hc
          have hb4 := HB4.out.size
          have hrs : w3.heap.size ≤ w4.heap.size := hsz4
          refine ⟨j + 1, by have := hj.out; exact (show j + 1 + q = L by omega), by first | rfl | (exact congrArg (Value.int .i64) (by push_cast; omega)), _, fun i => if i = j then w4.heap.size else s i, by simpa using blk_set HN8.out 0 (.slice (some ⟨k8, 0, none⟩) (j + 1) cap8), ?_, ⟨?_, ?_, ?_⟩, hMf⟩
          · rw [plist_succ]
            exact own_mod HO8.out hset (fun k hk => by omega)
          · intro i hi
            by_cases e : i = j
            · subst e
              simp only [if_pos]
              refine ⟨Z, hset.blk HZ8.out (by omega), fun x y c1 c2 c3 c4 => ⟨0, 0, ?_, ?_, rng_const c1 c2 c3 c4⟩⟩
              · have := idx_lt c1 c2 c3 c4
                exact (HZ.out _ (by unfold area; omega)).1
              · have := idx_lt c1 c2 c3 c4
                exact (HZ.out _ (by unfold area; omega)).2
            · simp only [if_neg e]
              have hi2 : i < j := by omega
              have hl1 := hsG i hi2
              have hl2 := s2 i hi2
              exact (((s1 i hi2).keep (HB4.out.block _ hl1)).keep (HM8.out.block _ (by omega) hl2.2)).keep (hset.block _ (by have := HM8.out.size; omega) (by omega))
          · intro i hi
            by_cases e : i = j
            · subst e
              simp only [if_pos]
              refine ⟨by omega, fun e => ?_⟩
              have e2 := Option.some.inj e
              simp at e2
              rcases HK8.out with h8 | h8
              · have := (HOW.out.lt _ h8).2; omega
              · omega
            · simp only [if_neg e]
              have hi2 : i < j := by omega
              refine ⟨(s2 i hi2).1, fun e => ?_⟩
              have e2 := Option.some.inj e
              simp at e2
              have := hsG i hi2
              rcases HK8.out with h8 | h8
              · exact (s2 i hi2).2 (by rw [h8, e2])
              · omega
          · intro i i2 hi hi2 hne
            by_cases e : i = j
            · subst e
              have e2 : i2 ≠ i := fun x => hne x.symm
              simp only [if_pos, if_neg e2]
              have := hsG i2 (by omega)
              omega
            · by_cases e2 : i2 = j
              · subst e2
                simp only [if_pos, if_neg e]
                have := hsG i (by omega)
                omega
              · simp only [if_neg e, if_neg e2]
                exact s3 i i2 (by omega) (by omega) hne
end Go.Proofs.Ytfnflgcalhiamaa

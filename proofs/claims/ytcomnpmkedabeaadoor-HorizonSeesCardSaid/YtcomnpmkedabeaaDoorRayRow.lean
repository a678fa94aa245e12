/- ray.Row: all cells, step by step. -/
import Derived.Test.YtcomnpmkedabeaaDoorRay
import Derived.Test.YtcomnpmkedabeaaDoorGridNew
set_option linter.unusedVariables false
set_option linter.unusedSimpArgs false
namespace Go.Proofs.YtcomnpmkedabeaaDoor
open Go.RowKit

/-- All cells of a ray. -/
def RayOut (ax ay bx by' : Int) (n : Nat) (W : World) (e : Ending) (W' : World) : Prop :=
  ∃ v, e = .returned (.tuple #[v, .int .i64 0]) ∧ Below W.heap.size W W' ∧ W'.ownsRow W.heap.size 24 2 v (n + 1) (pairs (fun i => rX ax ay bx by' (i : Int)) (fun i => rY ax ay bx by' (i : Int)) (n + 1))

set_option maxHeartbeats 4000000 in
set_option maxRecDepth 100000 in
theorem ray_row_ok (ax ay bx by' : Int) (n : Nat) (W : World) (H : Cans ax ay bx by') (hn : (n : Int) = rN ax ay bx by') :
    Calls Tryd.prog 39 #[.agg #[.int .i64 ax, .int .i64 ay], .agg #[.int .i64 bx, .int .i64 by']] W (RayOut ax ay bx by' n W) := by
  have HH := Lib.hid H
  obtain ⟨m0, m1, n1⟩ := r_bd H
  obtain ⟨⟨s1, s2⟩, ⟨s3, s4⟩, ⟨s5, s6⟩, ⟨s7, s8⟩⟩ := r_steps (ax := ax) (ay := ay) (bx := bx) (by' := by')
  obtain ⟨z1, z2⟩ := rX_zero ax ay bx by' H
  have hlen := fun W => ray_len_ok ax ay bx by' W H
  have hof := fun W => ray_of_ok ax ay bx by' W H
  unfold walkV at hof
  have hbd := fun i h1 h2 => rX_bd (i := i) H h1 h2
  have hnx := fun i h => rXY_next (i := i) H h
  have hr0 := rR_zero (rN ax ay bx by') (rM ax ay bx by') (by omega)
  have hrb := fun i h => rR_bd (n := rN ax ay bx by') (m := rM ax ay bx by') (i := i) h
  obtain ⟨AX, hAX⟩ : ∃ v, rAX ax ay bx by' = v := ⟨_, rfl⟩
  obtain ⟨AY, hAY⟩ : ∃ v, rAY ax ay bx by' = v := ⟨_, rfl⟩
  obtain ⟨OX, hOX⟩ : ∃ v, rOX ax ay bx by' = v := ⟨_, rfl⟩
  obtain ⟨OY, hOY⟩ : ∃ v, rOY ax ay bx by' = v := ⟨_, rfl⟩
  obtain ⟨m, hm⟩ : ∃ v, rM ax ay bx by' = v := ⟨_, rfl⟩
  rw [← hn] at hlen hof hbd hnx hr0 hrb m1 n1
  rw [hm] at hof hnx hr0 hrb m0 m1
  rw [hAX] at hof hnx s1 s2
  rw [hAY] at hof hnx s3 s4
  rw [hOX] at hof hnx s5 s6
  rw [hOY] at hof hnx s7 s8
  obtain ⟨X, hX⟩ : ∃ X : Int → Int, rX ax ay bx by' = X := ⟨_, rfl⟩
  obtain ⟨Y, hY⟩ : ∃ Y : Int → Int, rY ax ay bx by' = Y := ⟨_, rfl⟩
  unfold RayOut
  rw [hX] at hbd hnx z1 ⊢
  rw [hY] at hbd hnx z2 ⊢
  obtain ⟨R, hR⟩ : ∃ R : Int → Int, rR (n : Int) m = R := ⟨_, rfl⟩
  rw [hR] at hnx hr0 hrb
  have HLEN := Lib.hid hlen
  have HOF := Lib.hid hof
  have HBD := Lib.hid hbd
  have HNX := Lib.hid hnx
  have HRB := Lib.hid hrb
  have HR0 := Lib.hid hr0
  clear hlen hof hbd hnx hrb hr0 hAX hAY hOX hOY hm hX hY hR H hn
  have w2m : wrap64 (2 * m) = 2 * m := wrap64_id (by omega) (by omega)
  have w2n : wrap64 (2 * (n : Int)) = 2 * (n : Int) := wrap64_id (by omega) (by omega)
  go_enter Tryd.func39, Tryd.ntmps39
  go_wp2_with fail
  have n_B := (below_alloc (below_alloc1 W (.cells #[.int .i64 ax, .int .i64 ay] 24)) (.cells #[.int .i64 bx, .int .i64 by'] 24))
  have n_0 : ((W.alloc (.cells #[.int .i64 ax, .int .i64 ay] 24)).alloc (.cells #[.int .i64 bx, .int .i64 by'] 24)).heap[W.heap.size]? = some (.cells #[.int .i64 ax, .int .i64 ay] 24) := below_blk (below_alloc1 (W.alloc (.cells #[.int .i64 ax, .int .i64 ay] 24)) (.cells #[.int .i64 bx, .int .i64 by'] 24)) (blk_new_at (W := W) (o := .cells #[.int .i64 ax, .int .i64 ay] 24) (by simp))
  have n_1 : ((W.alloc (.cells #[.int .i64 ax, .int .i64 ay] 24)).alloc (.cells #[.int .i64 bx, .int .i64 by'] 24)).heap[W.heap.size + 1]? = some (.cells #[.int .i64 bx, .int .i64 by'] 24) := (blk_new_at (W := (W.alloc (.cells #[.int .i64 ax, .int .i64 ay] 24))) (o := .cells #[.int .i64 bx, .int .i64 by'] 24) (by simp))
  obtain ⟨w1, hw1⟩ : ∃ w1, ((W.alloc (.cells #[.int .i64 ax, .int .i64 ay] 24)).alloc (.cells #[.int .i64 bx, .int .i64 by'] 24)) = w1 := ⟨_, rfl⟩
  rw [hw1] at n_0 n_1 n_B ⊢
  clear hw1
  refine (HLEN.out _).mono ?_
  rintro e w2 ⟨rfl, hb⟩
  replace n_0 := below_blk hb n_0
  replace n_1 := below_blk hb n_1
  replace n_B := below_next n_B hb
  clear hb
  have i_0 := cells_w n_0 0 rfl
  have i_1 := cells_w n_0 1 rfl
  have j_0 := cells_w n_1 0 rfl
  have j_1 := cells_w n_1 1 rfl
  go_wp2_with fail
  refine (HOF.out _).mono ?_
  rintro e w3 ⟨rfl, hb⟩
  replace n_0 := below_blk hb n_0
  replace n_B := below_next n_B hb
  clear hb i_0 i_1 j_0 j_1 n_1
  have hbA := below_alloc1 w3 (.cells #[.int .i64 (n : Int), .int .i64 m, .int .i64 AX, .int .i64 AY, .int .i64 OX, .int .i64 OY] 93)
  have nK := blk_new w3 (.cells #[.int .i64 (n : Int), .int .i64 m, .int .i64 AX, .int .i64 AY, .int .i64 OX, .int .i64 OY] 93)
  have n0b := below_blk hbA n_0
  have i0 := cells_w n0b 0 rfl
  have i1 := cells_w n0b 1 rfl
  go_wp2_with fail
  obtain ⟨w4, hw4⟩ : ∃ w4, w3.alloc (.cells #[.int .i64 (n : Int), .int .i64 m, .int .i64 AX, .int .i64 AY, .int .i64 OX, .int .i64 OY] 93) = w4 := ⟨_, rfl⟩
  have hs4 : w4.heap.size = w3.heap.size + 1 := by rw [← hw4]; simp
  rw [hw4] at nK hbA n0b ⊢
  have hown0 := own_box (W := w4) (base := w4.heap.size) (size := 2) (e := 24) (cs := #[.int .i64 ax, .int .i64 ay]) (Nat.le_refl _) rfl
  rw [hs4] at hown0
  obtain ⟨B, hB⟩ : ∃ B, W.heap.size = B := ⟨_, rfl⟩
  obtain ⟨K, hK⟩ : ∃ K, w3.heap.size = K := ⟨_, rfl⟩
  have hBK : B ≠ K := by have := blk_lt n_0; omega
  have hB4 := below_next n_B hbA
  have HBW := Lib.hid hB
  have hBlt : Hid (B < w4.heap.size) := by
    show B < w4.heap.size
    have := blk_lt n_0; omega
  rw [hK] at nK hs4 hown0 ⊢
  rw [hB] at n0b ⊢
  clear hw4 hB hK hbA n_B n_0 i0 i1
  have hM0 : Mod (fun k => k = B) w4 (w4.alloc (.cells #[.int .i64 ax, .int .i64 ay] 24)) := Mod.of_below (below_alloc1 _ _)
  have n0c := below_blk (below_alloc1 w4 (.cells #[.int .i64 ax, .int .i64 ay] 24)) n0b
  go_loopg [9, 10, 27] n (fun q v9 v10 v27 wr => ∃ j : Nat, Hid (j + q = n) ∧ v27 = .int .i64 (j : Int) ∧ v10 = .int .i64 (R (j : Int)) ∧ Mod (fun k => k = B) w4 wr ∧ wr.heap[B]? = some (.cells #[.int .i64 (X (j : Int)), .int .i64 (Y (j : Int))] 24 (0, 0)) ∧
    Hid (wr.ownsRow (K + 1) 24 2 v9 (j + 1) (pairs (fun i => X (i : Int)) (fun i => Y (i : Int)) (j + 1))))
  case atStart => exact ⟨0, Nat.zero_add _, rfl, congrArg (Value.int .i64) HR0.out.symm, hM0, by rw [show ((0 : Nat) : Int) = 0 from rfl, z1, z2]; exact n0c, Lib.hid (by simpa [pairs, z1, z2] using hown0)⟩
  case round =>
    clear hown0 n0c hM0
    obtain ⟨j, hj, rfl, rfl, hmod, nC, HO⟩ := hrel
    cases gk with
    | zero =>
      have ej : j = n := hj.out
      have ht : decide (j < n) = false := decide_eq_false (by omega)
      have ht2 : decide ((j : Int) < (n : Int)) = false := decide_eq_false (by omega)
      subst ej
      go_wp2_with fail
      go_ret2
      have hb := hB4.trans (hmod.below hB4.size (fun k hk => by have := HBW.out; omega))
      refine ⟨_, rfl, hb, own_mono HO.out (by have := hB4.size; omega)⟩
    | succ q =>
      have hjn : j < n := by have := hj.out; omega
      have ht : decide (j < n) = true := decide_eq_true hjn
      have ht2 : decide ((j : Int) < (n : Int)) = true := decide_eq_true (by omega)
      have hpos : 0 < (n : Int) := by omega
      obtain ⟨g1, g2, g3, g4⟩ := HBD.out (j : Int) (by omega) (by omega)
      obtain ⟨r1, r2⟩ := HRB.out (j : Int) hpos
      have hnx := HNX.out (j : Int) hpos
      have HNJ := Lib.hid hnx
      clear hnx
      have hnK := hmod.blk nK (show ¬ (K = B) from fun e => hBK e.symm)
      have wr1 : wrap64 (R (j : Int) + 2 * m) = R (j : Int) + 2 * m := wrap64_id (by omega) (by omega)
      have l1 : -1048576 ≤ X (j : Int) := by omega
      have l2 : X (j : Int) ≤ 1048576 := by omega
      have l3 : -1048576 ≤ Y (j : Int) := by omega
      have l4 : Y (j : Int) ≤ 1048576 := by omega
      have k0 : (0 : Int) ≤ 1 := by omega
      have k1 : (1 : Int) ≤ 1048576 := by omega
      have i_0 := cells_w nC 0 rfl
      have i_1 := cells_w nC 1 rfl
      have z_0 := blk_frozen nC 0
      have z_1 := blk_frozen nC 1
      have c2 := cells_w hnK 2 rfl
      have c3 := cells_w hnK 3 rfl
      go_wp2_with fail
      refine (ray_plus_ok (X (j : Int)) (Y (j : Int)) AX AY 1 wr l1 l2 l3 l4 s1 s2 s3 s4 k0 k1).mono ?_
      rintro e w6 ⟨rfl, hb⟩
      obtain ⟨P, hP⟩ : ∃ P, X (j : Int) + 1 * AX = P := ⟨_, rfl⟩
      obtain ⟨Q, hQ⟩ : ∃ Q, Y (j : Int) + 1 * AY = Q := ⟨_, rfl⟩
      rw [hP, hQ]
      have u1 : -1048576 ≤ P := by omega
      have u2 : P ≤ 1048576 := by omega
      have u3 : -1048576 ≤ Q := by omega
      have u4 : Q ≤ 1048576 := by omega
      have HPQ := Lib.hid (And.intro hP hQ)
      have nC6 := below_blk hb nC
      have hmod6 := hmod.then_below hb
      have hnK6 := below_blk hb hnK
      have HO6 := Lib.hid (own_below HO.out hb)
      clear hb nC hmod hnK HO i_0 i_1 z_0 z_1 c2 c3 hP hQ
      have i_0 := cells_w nC6 0 rfl
      have i_1 := cells_w nC6 1 rfl
      have z_0 := blk_frozen nC6 0
      have z_1 := blk_frozen nC6 1
      have c1 := cells_w hnK6 1 rfl
      have c4 := cells_w hnK6 4 rfl
      have c5 := cells_w hnK6 5 rfl
      have hBKb : (B = K) = False := by simp [hBK]
      by_cases hcnd : 2 * (n : Int) ≤ R (j : Int) + 2 * m
      · have tc := decide_eq_true hcnd
        have wr2 : wrap64 (R (j : Int) + 2 * m - 2 * (n : Int)) = R (j : Int) + 2 * m - 2 * (n : Int) := wrap64_id (by omega) (by omega)
        obtain ⟨x1, x2, x3⟩ := HNJ.out.1 hcnd
        have HX := Lib.hid (And.intro x1 (And.intro x2 x3))
        clear x1 x2 x3 hcnd HNJ
        go_wp2_with fail
        have nC7 := blk_set (blk_set nC6 0 (.int .i64 P)) 1 (.int .i64 Q)
        have hM7 := (hmod6.setCell (p := ⟨B, 0, none⟩) (.inl rfl) (.int .i64 P)).setCell (p := ⟨B, 1, none⟩) (.inl rfl) (.int .i64 Q)
        have hMs := ((Mod.refl (fun k => k = B) w6).setCell (p := ⟨B, 0, none⟩) (.inl rfl) (.int .i64 P)).setCell (p := ⟨B, 1, none⟩) (.inl rfl) (.int .i64 Q)
        obtain ⟨w7, hw7⟩ : ∃ w7, (w6.setCell ⟨B, 0, none⟩ (.int .i64 P)).setCell ⟨B, 1, none⟩ (.int .i64 Q) = w7 := ⟨_, rfl⟩
        rw [hw7] at nC7 hM7 hMs ⊢
        have nC8 : w7.heap[B]? = some (.cells #[.int .i64 P, .int .i64 Q] 24 (0, 0)) := by simpa using nC7
        have HO7 := Lib.hid (own_keep HO6.out hMs (fun k hk e => by have := (HO6.out.lt k hk).1; have := hBlt.out; omega))
        clear hw7 nC7 hMs HO6 nC6 hmod6 i_0 i_1 z_0 z_1 c1 c4 c5 hnK6
        refine (ray_plus_ok P Q OX OY 1 w7 u1 u2 u3 u4 s5 s6 s7 s8 k0 k1).mono ?_
        have e1 : P + 1 * OX = X ((j : Int) + 1) := by rw [HX.out.1, HPQ.out.1]
        have e2 : Q + 1 * OY = Y ((j : Int) + 1) := by rw [HX.out.2.1, HPQ.out.2]
        rw [e1, e2]
        rintro e w8 ⟨rfl, hb⟩
        have hR1 := HX.out.2.2
        obtain ⟨X1, hX1⟩ : ∃ X1, X ((j : Int) + 1) = X1 := ⟨_, rfl⟩
        obtain ⟨Y1, hY1⟩ : ∃ Y1, Y ((j : Int) + 1) = Y1 := ⟨_, rfl⟩
        rw [hX1, hY1]
        have HXY := Lib.hid (And.intro hX1 (And.intro hY1 hR1))
        have nC9 := below_blk hb nC8
        have hM9 := hM7.then_below hb
        have HO9 := Lib.hid (own_below HO7.out hb)
        clear hb e1 e2 hX1 hY1 hR1 nC8 hM7 HO7
        have i_0 := cells_w nC9 0 rfl
        have i_1 := cells_w nC9 1 rfl
        have z_0 := blk_frozen nC9 0
        have z_1 := blk_frozen nC9 1
        have nCA := blk_set (blk_set nC9 0 (.int .i64 X1)) 1 (.int .i64 Y1)
        have hMA := (hM9.setCell (p := ⟨B, 0, none⟩) (.inl rfl) (.int .i64 X1)).setCell (p := ⟨B, 1, none⟩) (.inl rfl) (.int .i64 Y1)
        have hMs := ((Mod.refl (fun k => k = B) w8).setCell (p := ⟨B, 0, none⟩) (.inl rfl) (.int .i64 X1)).setCell (p := ⟨B, 1, none⟩) (.inl rfl) (.int .i64 Y1)
        have HOA := Lib.hid (own_keep HO9.out hMs (fun k hk e => by have := (HO9.out.lt k hk).1; have := hBlt.out; omega))
        have hsA := hMA.size
        clear hMs
        go_wp2_with (at_builtin; refine append_own (K + 1) rfl (.tmp 50) (.tmp 52) 58 24 _ 2 16 rfl Tryd.underlying58 info_Cell rfl (by omega) _ _ _ [.int .i64 X1, .int .i64 Y1] rfl _ rfl (by simp) rfl ?_ HOA.out (by omega) (by omega) (by omega) ?_)
        · intro t ht; simp at ht; rcases ht with rfl | rfl <;> rfl
        · intro v1 wA hownA hMm hblkA hnnA
          have nCB := hMm.blk nCA (fun e => by have := (HOA.out.lt B e).1; have := hBlt.out; omega)
          have hMB := hMA.trans hMm (fun k hk => .inr (by have := (HOA.out.lt k hk).1; omega))
          have HOB := Lib.hid hownA
          clear hownA hMm hblkA hnnA HOA hMA nCA
          go_wp2_with fail
          go_roundg q
          case measure => omega
          case rel =>
            refine ⟨j + 1, by have := hj.out; exact (show j + 1 + q = n by omega), congrArg (Value.int .i64) (by push_cast; omega), ?_, hMB, ?_, ?_⟩
            · push_cast
              rw [HXY.out.2.2]
            · push_cast
              rw [HXY.out.1, HXY.out.2.1]
              simpa using nCB
            · rw [pairs_succ]
              push_cast
              rw [HXY.out.1, HXY.out.2.1]
              exact HOB
      · have tc := decide_eq_false hcnd
        obtain ⟨x1, x2, x3⟩ := HNJ.out.2 (by omega)
        have HX := Lib.hid (And.intro x1 (And.intro x2 x3))
        have hR1 := x3
        obtain ⟨X1, hX1⟩ : ∃ X1, X ((j : Int) + 1) = X1 := ⟨_, rfl⟩
        obtain ⟨Y1, hY1⟩ : ∃ Y1, Y ((j : Int) + 1) = Y1 := ⟨_, rfl⟩
        have HXY := Lib.hid (And.intro hX1 (And.intro hY1 hR1))
        have e1 : P = X1 := by rw [← hX1, HX.out.1, HPQ.out.1]
        have e2 : Q = Y1 := by rw [← hY1, HX.out.2.1, HPQ.out.2]
        subst e1 e2
        clear x1 x2 x3 hcnd HNJ hX1 hY1 hR1
        have nCA := blk_set (blk_set nC6 0 (.int .i64 P)) 1 (.int .i64 Q)
        have hMA := (hmod6.setCell (p := ⟨B, 0, none⟩) (.inl rfl) (.int .i64 P)).setCell (p := ⟨B, 1, none⟩) (.inl rfl) (.int .i64 Q)
        have hMs := ((Mod.refl (fun k => k = B) w6).setCell (p := ⟨B, 0, none⟩) (.inl rfl) (.int .i64 P)).setCell (p := ⟨B, 1, none⟩) (.inl rfl) (.int .i64 Q)
        have HOA := Lib.hid (own_keep HO6.out hMs (fun k hk e => by have := (HO6.out.lt k hk).1; have := hBlt.out; omega))
        have hsA := hMA.size
        clear hMs
        go_wp2_with (at_builtin; refine append_own (K + 1) rfl (.tmp 50) (.tmp 52) 58 24 _ 2 16 rfl Tryd.underlying58 info_Cell rfl (by omega) _ _ _ [.int .i64 P, .int .i64 Q] rfl _ rfl (by simp) rfl ?_ HOA.out (by omega) (by omega) (by omega) ?_)
        · intro t ht; simp at ht; rcases ht with rfl | rfl <;> rfl
        · intro v1 wA hownA hMm hblkA hnnA
          have nCB := hMm.blk nCA (fun e => by have := (HOA.out.lt B e).1; have := hBlt.out; omega)
          have hMB := hMA.trans hMm (fun k hk => .inr (by have := (HOA.out.lt k hk).1; omega))
          have HOB := Lib.hid hownA
          clear hownA hMm hblkA hnnA HOA hMA nCA
          go_wp2_with fail
          go_roundg q
          case measure => omega
          case rel =>
            refine ⟨j + 1, by have := hj.out; exact (show j + 1 + q = n by omega), congrArg (Value.int .i64) (by push_cast; omega), ?_, hMB, ?_, ?_⟩
            · push_cast
              rw [HXY.out.2.2]
            · push_cast
              rw [HXY.out.1, HXY.out.2.1]
              simpa using nCB
            · rw [pairs_succ]
              push_cast
              rw [HXY.out.1, HXY.out.2.1]
              exact HOB
end Go.Proofs.YtcomnpmkedabeaaDoor

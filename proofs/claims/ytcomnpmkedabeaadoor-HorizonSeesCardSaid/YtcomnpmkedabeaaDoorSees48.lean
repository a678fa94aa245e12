/- hachurelaw48.HorizonSees: the walk. -/
import Derived.Test.YtcomnpmkedabeaaDoorClear
import Derived.Test.YtcomnpmkedabeaaDoorAwake48
import Derived.Test.YtcomnpmkedabeaaDoorMade
set_option linter.unusedVariables false
set_option linter.unusedSimpArgs false
namespace Go.Proofs.YtcomnpmkedabeaaDoor
open Go.RowKit

theorem rO_same {b i : Int} (hb : 0 < b) : rO b b i = i := by
  unfold rO
  have e : 2 * i * b + b = 2 * b * i + b := by grind
  rw [e, Int.mul_add_ediv_left _ _ (by omega), Int.ediv_eq_zero_of_lt (by omega) (by omega)]
  omega
theorem rO_none {b i : Int} (hb : 0 < b) : rO b 0 i = 0 := by
  unfold rO
  rw [Int.mul_zero, Int.zero_add]
  exact Int.ediv_eq_zero_of_lt (by omega) (by omega)
/-- A ray in a direction. -/
theorem ray_straight {cx cy dx dy : Int} {b : Nat} (hd : Dir dx dy) (hb : 1 ≤ b) (i : Nat) :
    rN cx cy (px cx dx b) (px cy dy b) = (b : Int) ∧ rX cx cy (px cx dx b) (px cy dy b) (i : Int) = px cx dx i ∧ rY cx cy (px cx dx b) (px cy dy b) (i : Int) = px cy dy i := by
  obtain ⟨x1, x2, y1, y2, ne⟩ := hd
  have h0 : (0 : Int) < (b : Int) := by omega
  have o1 := rO_same (i := (i : Int)) h0
  have o2 := rO_none (i := (i : Int)) h0
  have sx : px cx dx b - cx = (b : Int) * dx := by unfold px; omega
  have sy : px cy dy b - cy = (b : Int) * dy := by unfold px; omega
  unfold rX rY rN rM rAX rAY rOX rOY
  rw [sx, sy]
  unfold px
  have neg : ab1 ((b : Int) * -1) = b ∧ sg1 ((b : Int) * -1) = -1 := by unfold ab1 sg1; constructor <;> split <;> omega
  have zer : ab1 ((b : Int) * 0) = 0 ∧ sg1 ((b : Int) * 0) = 1 := by unfold ab1 sg1; constructor <;> split <;> omega
  have pos : ab1 ((b : Int) * 1) = b ∧ sg1 ((b : Int) * 1) = 1 := by unfold ab1 sg1; constructor <;> split <;> omega
  have lt1 : ¬ (b : Int) < (b : Int) := by omega
  have lt2 : ¬ (b : Int) < (0 : Int) := by omega
  rcases (by omega : dx = -1 ∨ dx = 0 ∨ dx = 1) with rfl | rfl | rfl <;> rcases (by omega : dy = -1 ∨ dy = 0 ∨ dy = 1) with rfl | rfl | rfl <;>
    first
    | (exfalso; omega)
    | (simp only [neg.1, neg.2, zer.1, zer.2, pos.1, pos.2, if_neg lt1, if_neg lt2, if_pos h0, o1, o2]; exact ⟨trivial, by omega, by omega⟩)
/-- The first of the steepest is seen. -/
theorem best_seen {f : Int → Int → Int} {w h cx cy dx dy hi : Int} {nr : Nat} (hd : Dir dx dy) (hr : Run w h cx cy dx dy nr) {b : Nat} (hb : best (rise f cx cy dx dy (f cx cy + hi)) nr = b) (b1 : 1 ≤ b) (i : Nat) (i1 : 1 ≤ i) (i2 : i < b) :
    hidAt (rayV f w h cx cy (px cx dx b) (px cy dy b)) hi 0 b i = false := by
  have hbn : b ≤ nr := by rw [← hb]; exact best_le _ _
  have hv : ∀ j, j ≤ b → rayV f w h cx cy (px cx dx b) (px cy dy b) j = f (px cx dx j) (px cy dy j) := fun j hj => by
    unfold rayV
    obtain ⟨_, e1, e2⟩ := ray_straight (cx := cx) (cy := cy) hd b1 j
    rw [e1, e2]
    exact atV_in (hr.1 j (by omega))
  have hm := best_max (rise f cx cy dx dy (f cx cy + hi)) nr i i1 (by omega)
  rw [hb] at hm
  have hn : ¬ 0 < cmpS (rise f cx cy dx dy (f cx cy + hi) i) (i : Int) (rise f cx cy dx dy (f cx cy + hi) b) (b : Int) := by omega
  rw [cmpS_pos] at hn
  unfold hidAt hidB
  refine decide_eq_false (fun z => hn ?_)
  rw [hv i (by omega), hv 0 (by omega), hv b (Nat.le_refl _), px_zero, px_zero, Int.add_zero] at z
  exact z

set_option maxHeartbeats 4000000 in
set_option maxRecDepth 100000 in
theorem sees48_any (w h x y hi dir : Int) (v : Value) (n : Nat) (u : Nat → Int) (W : World) (hv : ArgAt W v n u) (hst : StepsAt W) :
    Calls Tryd.prog 5 #[.int .i64 w, .int .i64 h, v, .agg #[.int .i64 x, .int .i64 y], .int .i64 hi, .int .i64 dir] W fun e W' => e = .returned (.bool true) ∧ Below W.heap.size W W' := by
  go_enter Tryd.func5, Tryd.ntmps5
  go_wp2_with fail
  have n_B := (below_alloc1 W (.cells #[.int .i64 x, .int .i64 y] 24))
  have n_0 : (W.alloc (.cells #[.int .i64 x, .int .i64 y] 24)).heap[W.heap.size]? = some (.cells #[.int .i64 x, .int .i64 y] 24) := (blk_new_at (W := W) (o := .cells #[.int .i64 x, .int .i64 y] 24) (by simp))
  obtain ⟨w1, hw1⟩ : ∃ w1, (W.alloc (.cells #[.int .i64 x, .int .i64 y] 24)) = w1 := ⟨_, rfl⟩
  rw [hw1] at n_0 n_B ⊢
  clear hw1
  refine (awake48_ok _ (hst.below n_B)).mono ?_
  rintro e w2 ⟨rfl, hb⟩
  replace n_0 := below_blk hb n_0
  have hB := below_next n_B hb
  have hst2 := Lib.hid (hst.below hB)
  clear hb n_B hst
  go_wp2_with fail
  refine (land_any w h 1000 v n u w2 (hv.below hB)).mono ?_
  rintro e w3 ⟨hb, ⟨hland, rfl⟩ | ⟨hno, rfl⟩⟩
  rotate_left
  · replace hB := below_next hB hb
    go_wp2_with fail
    go_ret
    exact ⟨rfl, below_alloc hB _⟩
  obtain ⟨o, cap0, rfl, hn1, hn2⟩ := hv.below hB
  obtain ⟨c1, c2, c3, c4, c5, c6, c7⟩ := hland
  have hm1 := Int.mul_le_mul c1 c2 (by omega) (by omega)
  obtain ⟨ad, rfl, hr⟩ := hn2 (by omega)
  replace hr := hr.below hb
  have hst3 := Lib.hid (hst2.out.below hb)
  replace n_0 := below_blk hb n_0
  replace hB := below_next hB hb
  obtain ⟨wn, rfl⟩ : ∃ wn : Nat, w = wn := ⟨w.toNat, by omega⟩
  obtain ⟨hn, rfl⟩ : ∃ hn : Nat, h = hn := ⟨h.toNat, by omega⟩
  have c8 : n = wn * hn := by have : ((wn * hn : Nat) : Int) = wn * hn := by { push_cast; rfl }; omega
  subst c8
  have HC := Lib.hid c6
  have hM := fun j hj => mayB_iff.1 (c7 j hj)
  have hmay : ∀ x y, inG wn hn x y → -2147483648 ≤ (fun x y => u ((y * (wn : Int) + x).toNat)) x y ∧ (fun x y => u ((y * (wn : Int) + x).toNat)) x y ≤ 2147483647 := fun x y hin => by
    obtain ⟨b0, b1, b2, b3⟩ := hin
    have := idx_lt b0 b1 b2 b3
    exact hM _ (by omega)
  have HM := Lib.hid hM
  have HMAY := Lib.hid hmay
  clear hb hv hn2 c6 c7 hm1 c5 hn1 hM hmay hst2
  obtain ⟨N, hN⟩ : ∃ N, wn * hn = N := ⟨_, rfl⟩
  rw [hN] at hr HC HM ⊢
  have HN := Lib.hid hN
  clear hN
  go_wp2_with fail
  have nM := blk_new w3 (.cells #[.int .i64 (wn : Int), .int .i64 (hn : Int), .slice (some ad) N cap0] 27)
  have hb := below_alloc1 w3 (.cells #[.int .i64 (wn : Int), .int .i64 (hn : Int), .slice (some ad) N cap0] 27)
  obtain ⟨w4, hw4⟩ : ∃ w4, w3.alloc (.cells #[.int .i64 (wn : Int), .int .i64 (hn : Int), .slice (some ad) N cap0] 27) = w4 := ⟨_, rfl⟩
  obtain ⟨M, hM⟩ : ∃ M, w3.heap.size = M := ⟨_, rfl⟩
  rw [hM] at nM
  rw [hw4] at nM hb
  rw [hM, hw4]
  replace hr := hr.below hb
  have hst4 := Lib.hid (hst3.out.below hb)
  replace n_0 := below_blk hb n_0
  replace hB := below_next hB hb
  clear hb hw4 hM hst3
  have hm7 := made_ok wn hn w4 (by omega) (by omega) (by omega) (by omega) ad cap0 u (by rw [HN.out]; exact HM.out) (by rw [HN.out]; exact hr)
  rw [HN.out] at hm7
  refine hm7.mono ?_
  clear hm7
  rintro e w5 ⟨g, Fg, rfl, hb, hFg, HG⟩
  replace hr := hr.below hb
  replace nM := below_blk hb nM
  replace n_0 := below_blk hb n_0
  have hst5 := Lib.hid (hst4.out.below hb)
  have hB5 := below_next hB hb
  clear hb hB hFg hst4
  have p_0 := cells_w n_0 0 rfl
  have p_1 := cells_w n_0 1 rfl
  go_wp2_with fail
  by_cases hbad : steepC wn hn x y hi dir = 0
  rotate_left
  · have hmb : (steepC wn hn x y hi dir == 0) = false := by simp [hbad]
    have hmb2 : (steepC wn hn x y hi dir != 0) = true := by simp [hbad]
    refine (hor_steep_bad g Fg wn hn x y hi dir _ w5 HG (HMAY.out x y) hbad).mono ?_
    rintro e w6 ⟨rfl, hb⟩
    have hB6 := below_next hB5 hb
    clear hb hbad p_0 p_1 HG
    go_wp2_with fail
    go_ret
    exact ⟨rfl, below_alloc (below_alloc hB6 _) _⟩
  · obtain ⟨hm, hd1, hd2⟩ := steepC_0.1 hbad
    obtain ⟨k, rfl⟩ : ∃ k : Nat, dir = k := ⟨dir.toNat, by omega⟩
    have hk : k < 8 := by omega
    obtain ⟨nr, hrun⟩ := run_ex (w := wn) (h := hn) (cx := x) (cy := y) c3 c4 (dir_ok hk) (mayC_0.1 hm).1
    have HRUN := Lib.hid hrun
    have HMC := Lib.hid hm
    clear hbad hm hrun
    refine (hor_steep_ok g Fg wn hn x y hi k nr _ w5 HG HMAY.out hst5.out HMC.out hk HRUN.out).mono ?_
    obtain ⟨f, hf⟩ : ∃ f : Int → Int → Int, (fun x y => u ((y * (wn : Int) + x).toNat)) = f := ⟨_, rfl⟩
    have hfe : u ((y * (wn : Int) + x).toNat) = f x y := by rw [← hf]
    have hmayf : ∀ x y, inG wn hn x y → -2147483648 ≤ f x y ∧ f x y ≤ 2147483647 := by rw [← hf]; exact HMAY.out
    rw [hf] at HG
    unfold BestOut
    rw [hf, hfe]
    have HMF := Lib.hid hmayf
    clear hmayf hf hfe HMAY HM
    obtain ⟨up, hup⟩ : ∃ up, rise f x y (dX k) (dY k) (f x y + hi) = up := ⟨_, rfl⟩
    rw [hup]
    obtain ⟨b, hbe⟩ : ∃ b, best up nr = b := ⟨_, rfl⟩
    rw [hbe]
    have hble : b ≤ nr := by rw [← hbe]; exact best_le _ _
    rintro e w6 ⟨rfl, hb⟩
    replace n_0 := below_blk hb n_0
    have hB6 := below_next hB5 hb
    have HG6 := HG.below hb
    clear hb p_0 p_1 HG hB5
    rcases Nat.eq_zero_or_pos b with hb0 | hb1
    · subst hb0
      have e1 : bAt up x (dX k) nr = 0 := by unfold bAt; rw [if_pos hbe]
      have e2 : bAt up y (dY k) nr = 0 := by unfold bAt; rw [if_pos hbe]
      rw [e1, e2]
      clear e1 e2
      go_wp2_with fail
      go_ret
      exact ⟨rfl, below_alloc (below_alloc hB6 _) _⟩
    · have e1 : bAt up x (dX k) nr = px x (dX k) b := by unfold bAt; rw [hbe, if_neg (by omega)]
      have e2 : bAt up y (dY k) nr = px y (dY k) b := by unfold bAt; rw [hbe, if_neg (by omega)]
      rw [e1, e2]
      have hin := HRUN.out.1 b hble
      have hrn := (ray_straight (cx := x) (cy := y) (dir_ok hk) hb1 0).1
      have hseen := fun i h1 h2 => best_seen (f := f) (w := wn) (h := hn) (cx := x) (cy := y) (hi := hi) (nr := nr) (b := b) (dir_ok hk) HRUN.out (by rw [hup]; exact hbe) hb1 i h1 h2
      obtain ⟨X, hX⟩ : ∃ X, px x (dX k) b = X := ⟨_, rfl⟩
      obtain ⟨Y, hY⟩ : ∃ Y, px y (dY k) b = Y := ⟨_, rfl⟩
      rw [hX, hY] at hin hrn hseen
      rw [hX, hY]
      have HIN := Lib.hid hin
      have HRN := Lib.hid hrn
      have HSEE := Lib.hid hseen
      have tb : decide (0 < b) = true := decide_eq_true hb1
      clear e1 e2 hin hrn hseen hX hY hup hbe
      have p_0 := cells_w n_0 0 rfl
      have p_1 := cells_w n_0 1 rfl
      have p0 := fun o o2 => cell_alloc (o := o2) (cell_alloc (o := o) p_0)
      have p1 := fun o o2 => cell_alloc (o := o2) (cell_alloc (o := o) p_1)
      go_wp2_with fail
      obtain ⟨UU, hUU⟩ : ∃ UU, bUp f x y (dX k) (dY k) (f x y + hi) nr = UU := ⟨_, rfl⟩
      rw [hUU]
      clear hUU p0 p1 p_0 p_1
      have q_B := (below_alloc (below_alloc1 w6 (.cells #[.int .i64 UU, .int .i64 (b : Int)] 34)) (.cells #[.int .i64 X, .int .i64 Y] 24))
      have q_0 : ((w6.alloc (.cells #[.int .i64 UU, .int .i64 (b : Int)] 34)).alloc (.cells #[.int .i64 X, .int .i64 Y] 24)).heap[w6.heap.size]? = some (.cells #[.int .i64 UU, .int .i64 (b : Int)] 34) := below_blk (below_alloc1 (w6.alloc (.cells #[.int .i64 UU, .int .i64 (b : Int)] 34)) (.cells #[.int .i64 X, .int .i64 Y] 24)) (blk_new_at (W := w6) (o := .cells #[.int .i64 UU, .int .i64 (b : Int)] 34) (by simp))
      have q_1 : ((w6.alloc (.cells #[.int .i64 UU, .int .i64 (b : Int)] 34)).alloc (.cells #[.int .i64 X, .int .i64 Y] 24)).heap[w6.heap.size + 1]? = some (.cells #[.int .i64 X, .int .i64 Y] 24) := (blk_new_at (W := (w6.alloc (.cells #[.int .i64 UU, .int .i64 (b : Int)] 34))) (o := .cells #[.int .i64 X, .int .i64 Y] 24) (by simp))
      obtain ⟨w7, hw7⟩ : ∃ w7, ((w6.alloc (.cells #[.int .i64 UU, .int .i64 (b : Int)] 34)).alloc (.cells #[.int .i64 X, .int .i64 Y] 24)) = w7 := ⟨_, rfl⟩
      rw [hw7] at q_0 q_1 q_B ⊢
      clear hw7
      refine (clear_ok g Fg wn hn x y X Y hi 0 b f w7 (HG6.below q_B) HMF.out (mayC_0.1 HMC.out).1 HIN.out HRN.out.symm (mayC_0.1 HMC.out).2.1 (mayC_0.1 HMC.out).2.2 (by omega) (by omega)).mono ?_
      rintro e w8 ⟨r, cx, cy, rfl, hb, ⟨rfl, _, rfl, rfl⟩ | ⟨rfl, i, i1, i2, i3, _⟩⟩
      · have hB8 := below_next (below_next hB6 q_B) hb
        clear hb q_B
        go_wp2_with fail
        go_ret
        exact ⟨rfl, below_alloc hB8 _⟩
      · exfalso
        rw [HSEE.out i i1 i2] at i3
        cases i3
end Go.Proofs.YtcomnpmkedabeaaDoor

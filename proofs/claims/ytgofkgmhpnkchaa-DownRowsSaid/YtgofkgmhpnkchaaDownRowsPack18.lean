/- Texts of this claim, joined: DownPlain, Rows18. -/
import Derived.Test.YtgofkgmhpnkchaaDownRowsPack11
import Derived.Test.YtgofkgmhpnkchaaDownRowsPack17
/- A level of a level; the mean between the least and the greatest: plain. -/
set_option linter.unusedVariables false
set_option linter.unusedSimpArgs false
namespace Go.Proofs.Ytgofkgmhpnkchaa

theorem down_rng {f : Int → Int → Int} {w h : Int} {k : Nat} {x y : Int} (a1 : 0 ≤ x) (a2 : x < lw w k) (a3 : 0 ≤ y) (a4 : y < lw h k) : Rng f w h k x y (downF 0 f w h k x y) (downF 1 f w h k x y) := by
  have e1 := spanN_eq a1 a2
  have e2 := spanN_eq a3 a4
  have hn : 1 ≤ spanN w k x * spanN h k y := by have := Nat.mul_le_mul e1.2.2.2.2 e2.2.2.2.2; omega
  have r := rngL_lohi (rowG f (x * 2 ^ k) (y * 2 ^ k) (spanN w k x)) (spanN w k x * spanN h k y) hn
  have q := rngL_rect (x1 := imin ((x + 1) * 2 ^ k - 1) (w - 1)) (y1 := imin ((y + 1) * 2 ^ k - 1) (h - 1)) e1.1 e2.1 r
  exact RngOn.iff q (fun u v => span_rect a1 a3)
theorem lw_lw (w : Int) (k : Nat) : lw (lw w k) 1 = lw w (k + 1) := by
  rw [← lw_succ w k]
  unfold lw
  generalize (w - 1) / 2 ^ k = q
  omega
theorem span_kid {w h x y u v : Int} {k : Nat} (hs : span w h (k + 1) x y u v) : span (lw w k) (lw h k) 1 x y (u / 2 ^ k) (v / 2 ^ k) ∧ span w h k (u / 2 ^ k) (v / 2 ^ k) u v := by
  obtain ⟨b1, b2, b3, b4, b5, b6⟩ := hs
  have c1 := div_lw (k := k) b1 b2
  have c2 := div_lw (k := k) b3 b4
  refine ⟨⟨c1.1, c1.2, c2.1, c2.2, ?_, ?_⟩, b1, b2, b3, b4, rfl, rfl⟩
  · rw [Int.pow_one, Int.ediv_ediv_of_nonneg (Int.pow_nonneg (by omega)), ← Int.pow_succ]; exact b5
  · rw [Int.pow_one, Int.ediv_ediv_of_nonneg (Int.pow_nonneg (by omega)), ← Int.pow_succ]; exact b6
theorem span_up {w h x y u v p q : Int} {k : Nat} (hs : span (lw w k) (lw h k) 1 x y p q) (ht : span w h k p q u v) : span w h (k + 1) x y u v := by
  obtain ⟨b1, b2, b3, b4, b5, b6⟩ := hs
  obtain ⟨c1, c2, c3, c4, c5, c6⟩ := ht
  subst c5 c6
  refine ⟨c1, c2, c3, c4, ?_, ?_⟩
  · rw [← b5, Int.pow_one, Int.ediv_ediv_of_nonneg (Int.pow_nonneg (by omega)), ← Int.pow_succ]
  · rw [← b6, Int.pow_one, Int.ediv_ediv_of_nonneg (Int.pow_nonneg (by omega)), ← Int.pow_succ]
theorem down_step {how : Int} (hh : how = 0 ∨ how = 1) {f : Int → Int → Int} {w h : Int} {k : Nat} {x y : Int} (a1 : 0 ≤ x) (a2 : x < lw w (k + 1)) (a3 : 0 ≤ y) (a4 : y < lw h (k + 1)) :
    downF how f w h (k + 1) x y = downF how (downF how f w h k) (lw w k) (lw h k) 1 x y := by
  have R := down_rng (f := f) a1 a2 a3 a4
  have R' := down_rng (f := downF how f w h k) (w := lw w k) (h := lw h k) (k := 1) (x := x) (y := y) a1 (by rw [lw_lw]; exact a2) a3 (by rw [lw_lw]; exact a4)
  have inn : ∀ p q, span (lw w k) (lw h k) 1 x y p q → Rng f w h k p q (downF 0 f w h k p q) (downF 1 f w h k p q) := fun p q hs => down_rng hs.1 hs.2.1 hs.2.2.1 hs.2.2.2.1
  obtain ⟨r1, ⟨u1, v1, s1, e1⟩, ⟨u2, v2, s2, e2⟩⟩ := R
  obtain ⟨t1, ⟨p1, q1, k1, g1⟩, ⟨p2, q2, k2, g2⟩⟩ := R'
  rcases hh with rfl | rfl
  · have a := span_kid s1
    have b := inn _ _ a.1
    have c := b.1 _ _ a.2
    have d := t1 _ _ a.1
    obtain ⟨_, ⟨u3, v3, s3, e3⟩, _⟩ := inn _ _ k1
    have l := r1 _ _ (span_up k1 s3)
    omega
  · have a := span_kid s2
    have b := inn _ _ a.1
    have c := b.1 _ _ a.2
    have d := t1 _ _ a.1
    obtain ⟨_, _, ⟨u3, v3, s3, e3⟩⟩ := inn _ _ k2
    have l := r1 _ _ (span_up k2 s3)
    omega
theorem sum_between {g : Nat → Int} {n : Nat} {a b : Int} (h : RngL g n a b) : ∀ j, j ≤ n → a * (j : Int) ≤ sumL g j ∧ sumL g j ≤ b * (j : Int)
  | 0, _ => by show a * ((0 : Nat) : Int) ≤ 0 ∧ 0 ≤ b * ((0 : Nat) : Int); simp
  | j + 1, hj => by
    have h1 := sum_between h j (by omega)
    have h2 := h.1 j (by omega)
    rw [sumL_step]
    push_cast
    rw [Int.mul_add, Int.mul_add, Int.mul_one, Int.mul_one]
    omega
theorem mean_between {g : Nat → Int} {n : Nat} (hn : 1 ≤ n) : loL g n ≤ meanL g n ∧ meanL g n ≤ hiL g n := by
  have h := sum_between (rngL_lohi g n hn) n (Nat.le_refl _)
  unfold meanL
  refine ⟨(Int.le_ediv_iff_mul_le (by omega)).2 h.1, ?_⟩
  have := Int.ediv_lt_of_lt_mul (a := sumL g n) (b := hiL g n + 1) (c := (n : Int)) (by omega) (by rw [Int.add_mul]; omega)
  omega
theorem down_mean {f : Int → Int → Int} {w h : Int} {k : Nat} {x y : Int} (a1 : 0 ≤ x) (a2 : x < lw w k) (a3 : 0 ≤ y) (a4 : y < lw h k) : downF 0 f w h k x y ≤ downF 2 f w h k x y ∧ downF 2 f w h k x y ≤ downF 1 f w h k x y := by
  have e1 := spanN_eq a1 a2
  have e2 := spanN_eq a3 a4
  have hn : 1 ≤ spanN w k x * spanN h k y := by have := Nat.mul_le_mul e1.2.2.2.2 e2.2.2.2.2; omega
  exact mean_between hn
theorem level0_id {how : Int} (hh : 0 ≤ how ∧ how ≤ 2) {f : Int → Int → Int} {w h x y : Int} (a1 : 0 ≤ x) (a2 : x < w) (a3 : 0 ≤ y) (a4 : y < h) : downF how f w h 0 x y = f x y := by
  have r := down_rng (f := f) (w := w) (h := h) (k := 0) (x := x) (y := y) a1 (by rw [lw0]; exact a2) a3 (by rw [lw0]; exact a4)
  have q := RngOn.unique r (rng0 a1 a2 a3 a4)
  have m := down_mean (f := f) (w := w) (h := h) (k := 0) (x := x) (y := y) a1 (by rw [lw0]; exact a2) a3 (by rw [lw0]; exact a4)
  rcases (by omega : how = 0 ∨ how = 1 ∨ how = 2) with rfl | rfl | rfl
  · exact q.1
  · exact q.2
  · omega
end Go.Proofs.Ytgofkgmhpnkchaa
/- hachurelaw18.DownRows: the walk. -/
set_option linter.unusedVariables false
set_option linter.unusedSimpArgs false
namespace Go.Proofs.Ytgofkgmhpnkchaa
open Go.RowKit

set_option maxHeartbeats 4000000 in
set_option maxRecDepth 100000 in
theorem down_row_bad (how : Int) (g : Nat) (Fg : Nat → Prop) (w h : Int) (f : Int → Int → Int) (W : World) (HG : GridAt W g Fg w h f) (hh : ¬ (0 ≤ how ∧ how ≤ 2)) :
    Calls Try.prog 39 #[.pointer (some ⟨g, 0, none⟩), .int .i64 how] W fun e W' => e = .returned (.tuple #[.slice none 0 0, .int .i64 11]) ∧ Below W.heap.size W W' := by
  obtain ⟨d1, d2, d3, d4⟩ := HG.dims
  have hL := levs_bd d1 d2 d3 d4
  obtain ⟨L, hLe⟩ : ∃ L, levs w h = L := ⟨_, rfl⟩
  have HL := Lib.hid hLe
  rw [hLe] at hL
  have HH := Lib.hid hh
  clear hLe hh
  have hmx : imax (L : Int) 1 = (L : Int) := by unfold imax; split <;> omega
  have t0 : decide (0 < L) = true := decide_eq_true (by omega)
  have t1 : decide ((0 : Int) < (L : Int)) = true := decide_eq_true (by omega)
  go_enter Try.func39, Try.ntmps39
  go_wp2_with fail
  refine (grid_Size_ok g Fg w h f _ HG).mono ?_
  rintro e w2 ⟨rfl, hb⟩
  have HG2 := HG.below hb
  have hB := hb
  clear hb HG
  go_wp2_with fail
  refine (levels_ok w h _ d1 d2 d3 d4).mono ?_
  rw [HL.out]
  rintro e w3 ⟨rfl, hb⟩
  have HG3 := Lib.hid (HG2.below hb)
  replace hB := below_next hB hb
  clear hb HG2
  go_wp2_with fail
  try rw [hmx]
  go_loopg [8, 22] 0 (fun q v8 v22 wr => v22 = .int .i64 0 ∧ w3 = wr)
  case atStart => exact ⟨rfl, rfl⟩
  case round =>
    obtain ⟨rfl, rfl⟩ := hrel
    go_wp2_with fail
    refine (level_bad how 0 g Fg w h f w3 HG3.out (fun z => HH.out z.2.2)).mono ?_
    rintro e w4 ⟨rfl, hb4⟩
    go_wp2_with fail
    go_ret2
    exact ⟨rfl, below_next hB hb4⟩

set_option maxHeartbeats 4000000 in
set_option maxRecDepth 100000 in
theorem rows18_any (w h how : Int) (v : Value) (n : Nat) (u : Nat → Int) (W : World) (hv : ArgAt W v n u) :
    Calls Try.prog 10 #[.int .i64 w, .int .i64 h, v, .int .i64 how] W fun e W' => e = .returned (.bool true) ∧ Below W.heap.size W W' := by
  go_enter Try.func10, Try.ntmps10
  go_wp2_with fail
  refine (awake18_ok _).mono ?_
  rintro e w2 ⟨rfl, hB⟩
  go_wp2_with fail
  refine (land_any w h 1000 v n u w2 (hv.below hB)).mono ?_
  rintro e w3 ⟨hb, ⟨hland, rfl⟩ | ⟨hno, rfl⟩⟩
  rotate_left
  · replace hB := below_next hB hb
    go_wp2_with fail
    go_ret
    exact ⟨rfl, below_alloc hB _⟩
  obtain ⟨o, cap0, rfl, hn1, hn2⟩ := hv.below hB
  obtain ⟨c1, c2, c3, c4, c5, c6, c7⟩ := hland
  have hm1 := Int.mul_le_mul c1 c2 (by omega) (by omega)
  obtain ⟨ad, rfl, hr⟩ := hn2 (by omega)
  replace hr := hr.below hb
  replace hB := below_next hB hb
  obtain ⟨wn, rfl⟩ : ∃ wn : Nat, w = wn := ⟨w.toNat, by omega⟩
  obtain ⟨hn, rfl⟩ : ∃ hn : Nat, h = hn := ⟨h.toNat, by omega⟩
  have c8 : n = wn * hn := by have : ((wn * hn : Nat) : Int) = wn * hn := by { push_cast; rfl }; omega
  subst c8
  have HC := Lib.hid c6
  have hM := fun j hj => mayB_iff.1 (c7 j hj)
  have hmay : MayF (fun x y => u ((y * (wn : Int) + x).toNat)) wn hn := fun x y b0 b1 b2 b3 => by
    have := idx_lt b0 b1 b2 b3
    exact hM _ (by omega)
  have HM := Lib.hid hM
  have HMAY := Lib.hid hmay
  clear hb hv hn2 c6 c7 hm1 c5 hn1 hM hmay
  obtain ⟨N, hN⟩ : ∃ N, wn * hn = N := ⟨_, rfl⟩
  rw [hN] at hr HC HM ⊢
  have HN := Lib.hid hN
  clear hN
  go_wp2_with fail
  have nM := blk_new w3 (.cells #[.int .i64 (wn : Int), .int .i64 (hn : Int), .slice (some ad) N cap0] 27)
  have hb := below_alloc1 w3 (.cells #[.int .i64 (wn : Int), .int .i64 (hn : Int), .slice (some ad) N cap0] 27)
  obtain ⟨w4, hw4⟩ : ∃ w4, w3.alloc (.cells #[.int .i64 (wn : Int), .int .i64 (hn : Int), .slice (some ad) N cap0] 27) = w4 := ⟨_, rfl⟩
  obtain ⟨M, hM⟩ : ∃ M, w3.heap.size = M := ⟨_, rfl⟩
  rw [hM] at nM
  rw [hw4] at nM hb
  rw [hM, hw4]
  replace hr := hr.below hb
  replace hB := below_next hB hb
  clear hb hw4 hM
  have hm7 := made_ok wn hn w4 (by omega) (by omega) (by omega) (by omega) ad cap0 u (by rw [HN.out]; exact HM.out) (by rw [HN.out]; exact hr)
  rw [HN.out] at hm7
  refine hm7.mono ?_
  clear hm7
  rintro e w5 ⟨g, Fg, rfl, hb, hFg, HG⟩
  replace hr := hr.below hb
  replace nM := below_blk hb nM
  have hB5 := below_next hB hb
  clear hb hB hFg
  go_wp2_with fail
  by_cases hbad : ¬ (0 ≤ how ∧ how ≤ 2)
  · refine (down_row_bad how g Fg wn hn _ w5 HG hbad).mono ?_
    rintro e w6 ⟨rfl, hb⟩
    have hB6 := below_next hB5 hb
    clear hb
    by_cases k1 : how < 0
    · have t1 := decide_eq_true k1
      go_wp2_with fail
      go_ret
      exact ⟨rfl, hB6⟩
    · have t1 := decide_eq_false k1
      have t2 : decide (2 < how) = true := decide_eq_true (by omega)
      go_wp2_with fail
      go_ret
      exact ⟨rfl, hB6⟩
  · have hgood : 0 ≤ how ∧ how ≤ 2 := by omega
    have HGD := Lib.hid hgood
    have t1 : decide (how < 0) = false := decide_eq_false (by omega)
    have t2 : decide (2 < how) = false := decide_eq_false (by omega)
    have hLb := levs_bd (w := wn) (h := hn) (by omega) (by omega) (by omega) (by omega)
    clear hbad hgood
    refine (down_row_ok how g Fg wn hn _ w5 HG HMAY.out HGD.out).mono ?_
    obtain ⟨L, hLe⟩ : ∃ L, levs wn hn = L := ⟨_, rfl⟩
    have HL := Lib.hid hLe
    rw [hLe] at hLb ⊢
    clear hLe
    rintro e w6 ⟨k6, cap6, s, Fs, rfl, hcap6, hb, hrow6⟩
    replace hr := hr.below hb
    replace nM := below_blk hb nM
    have hB6 := below_next hB5 hb
    have HG6 := HG.below hb
    have HR6 := Lib.hid hrow6
    clear hb HG hB5 hrow6
    go_wp2_with fail
    refine (ref15_sizes_ok wn hn w6 (by omega) (by omega) (by omega) (by omega)).mono ?_
    rintro e w7 ⟨k0, capl, cs, rfl, hcap, hk0, hb, hrow, hcs⟩
    rw [HL.out]
    have h0 := HR6.out 0 (by omega)
    have c0 := below_cell hb h0.1
    have HG60 := Lib.hid (h0.2.below hb)
    replace hr := hr.below hb
    replace nM := below_blk hb nM
    replace HG6 := HG6.below hb
    have HR7 : Hid (∀ i, i < L → w7.cell? ⟨k6, i, none⟩ = some (.pointer (some ⟨s i, 0, none⟩)) ∧ GridAt w7 (s i) (Fs i) (lw wn i) (lw hn i) (downF how (fun x y => u ((y * (wn : Int) + x).toNat)) wn hn i)) := fun i hi => ⟨below_cell hb (HR6.out i hi).1, (HR6.out i hi).2.below hb⟩
    replace hB6 := below_next hB6 hb
    clear hb hrow hcs hcap hk0 h0 HR6
    have q1 : (0 : Int) < (L : Int) := by omega
    have q2 : ((L : Int) != (L : Int)) = false := by simp
    go_wp2_with fail
    refine (grid_same_any (s 0) g (Fs 0) Fg _ _ wn hn _ _ w7 HG60.out HG6).mono ?_
    rintro e w8 ⟨r, rfl, hr8, hb⟩
    have hr9 : r = true := hr8.2 ⟨lw0 _, lw0 _, fun X Y b0 b1 b2 b3 => level0_id (how := how) HGD.out b0 (by rw [lw0] at b1; exact b1) b2 (by rw [lw0] at b3; exact b3)⟩
    subst hr9
    replace hr := hr.below hb
    replace nM := below_blk hb nM
    have HR8 : Hid (∀ i, i < L → w8.cell? ⟨k6, i, none⟩ = some (.pointer (some ⟨s i, 0, none⟩)) ∧ GridAt w8 (s i) (Fs i) (lw wn i) (lw hn i) (downF how (fun x y => u ((y * (wn : Int) + x).toNat)) wn hn i)) := fun i hi => ⟨below_cell hb (HR7.out i hi).1, (HR7.out i hi).2.below hb⟩
    have hB8 := below_next hB6 hb
    have HRW := Lib.hid hr
    clear hb hr8 HR7 hB6 HG60 HG6 c0 hr
    go_wp2_with fail
    go_loopg [14] L (fun q v14 wr => ∃ j : Nat, Hid (j + q = L) ∧ v14 = .int .i64 (j : Int) ∧ Below w8.heap.size w8 wr)
    case atStart => exact ⟨0, Nat.zero_add _, rfl, Below.refl _ _⟩
    case round =>
      obtain ⟨j, hj, rfl, hbr⟩ := hrel
      cases gk with
      | zero =>
        have ej : j = L := hj.out
        have ht : decide (j < L) = false := decide_eq_false (by omega)
        have ht2 : decide ((j : Int) < (L : Int)) = false := decide_eq_false (by omega)
        go_wp2_with fail
        go_ret
        exact ⟨rfl, below_next hB8 hbr⟩
      | succ m =>
        have hjh : j < L := by have := hj.out; omega
        have ht : decide (j < L) = true := decide_eq_true hjh
        have ht2 : decide ((j : Int) < (L : Int)) = true := decide_eq_true (by omega)
        have hjh2 : (j : Int) < (L : Int) := by omega
        have nMr := below_blk hbr nM
        have i_0 := cells_w nMr 0 rfl
        have i_1 := cells_w nMr 1 rfl
        have i_2 := cells_w nMr 2 rfl
        go_wp2_with fail
        refine (ref18_ok how j ad cap0 N u wn hn wr (by omega) (by omega) (by omega) (by omega) HC.out (HRW.out.below hbr) HM.out (by rw [HL.out]; exact hjh) HGD.out).mono ?_
        rintro e w9 ⟨q7, n7, cap7, rfl, hn7, hrow7, hb⟩
        have hb9 := hbr.trans (hb.mono hbr.size)
        have HN7 := Lib.hid hn7
        have HRW7 := Lib.hid hrow7
        clear hb hbr hn7 hrow7 i_0 i_1 i_2 nMr
        go_wp2_with fail
        have nD := blk_new w9 (.cells #[.int .i64 (lw wn j), .int .i64 (lw hn j), .slice (some ⟨q7, 0, none⟩) n7 cap7] 27)
        have hbA := below_alloc1 w9 (.cells #[.int .i64 (lw wn j), .int .i64 (lw hn j), .slice (some ⟨q7, 0, none⟩) n7 cap7] 27)
        obtain ⟨w10, hw10⟩ : ∃ w10, w9.alloc (.cells #[.int .i64 (lw wn j), .int .i64 (lw hn j), .slice (some ⟨q7, 0, none⟩) n7 cap7] 27) = w10 := ⟨_, rfl⟩
        rw [hw10] at nD hbA ⊢
        have HRA := Lib.hid (HRW7.out.below hbA)
        have hb10 : Below w8.heap.size w8 w10 := hb9.trans (hbA.mono hb9.size)
        clear hw10 hbA hb9 HRW7
        obtain ⟨hcj, hgj⟩ := HR8.out j hjh
        have c1 := below_cell hb10 hcj
        have qc1 := fun d os => cell_regrown c1 d os
        have HGJ := Lib.hid (hgj.below hb10)
        clear hcj hgj c1
        have i_0 := cells_q nD 0 rfl
        have i_1 := cells_q nD 1 rfl
        have i_2 := cells_q nD 2 rfl
        refine wp_quiet (by kernel_rfl) (by kernel_rfl) ?_
        repeat (go_big_quiet_step ((first | (go_at_call 26; exact Calls.quiet (is09_ok (s j) (Fs j) _ _ _ ⟨q7, 0, none⟩ n7 cap7 _ (HGJ.out.below (below_regrown w10 _ _)) HN7.out (HRA.out.below (below_regrown w10 _ _)))))))
        refine wpQuiet_nil ?_
        intro w11 hb11
        have hb12 := hb10.trans (hb11.mono hb10.size)
        clear i_0 i_1 i_2 qc1 nD
        go_wp2_with fail
        go_roundg m
        case measure => omega
        case rel => exact ⟨j + 1, by have := hj.out; exact (show j + 1 + m = L by omega), congrArg (Value.int .i64) (by push_cast; omega), hb12⟩
end Go.Proofs.Ytgofkgmhpnkchaa

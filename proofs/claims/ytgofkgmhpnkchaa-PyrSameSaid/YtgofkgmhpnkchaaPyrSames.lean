/- hachurelaw16.PyrSame: the walk. -/
import Derived.Test.YtgofkgmhpnkchaaAwake16
import Derived.Test.YtgofkgmhpnkchaaMade
import Derived.Test.YtgofkgmhpnkchaaGridSame
import Derived.Test.YtgofkgmhpnkchaaPyrTwins
import Derived.Test.YtgofkgmhpnkchaaPyrNil
set_option linter.unusedVariables false
set_option linter.unusedSimpArgs false
namespace Go.Proofs.Ytgofkgmhpnkchaa
open Go.RowKit

set_option maxHeartbeats 4000000 in
set_option maxRecDepth 100000 in
theorem sames_any (w h x y cx cy x0 y0 x1 y1 : Int) (v v2 : Value) (n n2 : Nat) (u u2 : Nat → Int) (W : World) (hv : ArgAt W v n u) (hv2 : ArgAt W v2 n2 u2) :
    Calls Try.prog 8 #[.int .i64 w, .int .i64 h, v, .int .i64 x, .int .i64 y, v2, .agg #[.int .i64 cx, .int .i64 cy], .agg #[.int .i64 x0, .int .i64 y0, .int .i64 x1, .int .i64 y1]] W fun e W' => e = .returned (.bool true) ∧ Below W.heap.size W W' := by
  go_enter Try.func8, Try.ntmps8
  go_wp2_with fail
  have n14 := below_blk (below_alloc1 _ (.cells #[.int .i64 x0, .int .i64 y0, .int .i64 x1, .int .i64 y1] 45)) (blk_new W (.cells #[.int .i64 cx, .int .i64 cy] 24))
  have n15 := blk_new2 W (.cells #[.int .i64 cx, .int .i64 cy] 24) (.cells #[.int .i64 x0, .int .i64 y0, .int .i64 x1, .int .i64 y1] 45)
  have hB := below_alloc (below_alloc1 W (.cells #[.int .i64 cx, .int .i64 cy] 24)) (.cells #[.int .i64 x0, .int .i64 y0, .int .i64 x1, .int .i64 y1] 45)
  obtain ⟨E, hE⟩ : ∃ E, W.heap.size = E := ⟨_, rfl⟩
  have HE := Lib.hid hE
  refine (awake16_ok _).mono ?_
  rintro e w2 ⟨rfl, hb⟩
  replace n14 := below_blk hb n14
  replace n15 := below_blk hb n15
  replace hB := below_next hB hb
  clear hb
  go_wp2_with fail
  refine (land_any w h 1000 v n u w2 (hv.below hB)).mono ?_
  rintro e w3 ⟨hb, ⟨hland, rfl⟩ | ⟨hno, rfl⟩⟩
  rotate_left
  · replace hB := below_next hB hb
    obtain ⟨o2, cap2, rfl, hn3, hn4⟩ := hv2
    have hv2 : ArgAt W (.slice o2 n2 cap2) n2 u2 := ⟨o2, cap2, rfl, hn3, hn4⟩
    go_wp2_with fail
    refine (land_any x y 1000 (.slice o2 n2 cap2) n2 u2 _ (hv2.below (below_alloc hB _))).mono ?_
    rintro e w4 ⟨hb4, ⟨_, rfl⟩ | ⟨_, rfl⟩⟩
    · go_wp2_with fail
      go_ret
      exact ⟨rfl, below_alloc (below_next (below_alloc hB _) hb4) _⟩
    · go_wp2_with fail
      go_ret
      exact ⟨rfl, below_alloc (below_next (below_alloc hB _) hb4) _⟩
  replace hB := below_next hB hb
  replace n14 := below_blk hb n14
  replace n15 := below_blk hb n15
  obtain ⟨o, cap0, rfl, hn1, hn2⟩ := hv.below hB
  obtain ⟨c1, c2, c3, c4, c5, c6, c7⟩ := hland
  have hm1 := Int.mul_le_mul c1 c2 (by omega) (by omega)
  obtain ⟨ad, rfl, hr⟩ := hn2 (by omega)
  obtain ⟨wn, rfl⟩ : ∃ wn : Nat, w = wn := ⟨w.toNat, by omega⟩
  obtain ⟨hn, rfl⟩ : ∃ hn : Nat, h = hn := ⟨h.toNat, by omega⟩
  have c8 : n = wn * hn := by have : ((wn * hn : Nat) : Int) = wn * hn := by { push_cast; rfl }; omega
  subst c8
  have HM := Lib.hid (fun j hj => mayB_iff.1 (c7 j hj))
  have HD := Lib.hid (And.intro c1 (And.intro c3 (And.intro c2 c4)))
  clear hb hv hn2 c6 c7 c5 hm1 hn1 c1 c2 c3 c4
  go_wp2_with fail
  have hb := below_alloc1 w3 (.cells #[.int .i64 (wn : Int), .int .i64 (hn : Int), .slice (some ad) (wn * hn) cap0] 27)
  obtain ⟨w4, hw4⟩ : ∃ w4, w3.alloc (.cells #[.int .i64 (wn : Int), .int .i64 (hn : Int), .slice (some ad) (wn * hn) cap0] 27) = w4 := ⟨_, rfl⟩
  rw [hw4] at hb
  rw [hw4]
  replace hr := hr.below hb
  replace n14 := below_blk hb n14
  replace n15 := below_blk hb n15
  replace hB := below_next hB hb
  clear hb hw4
  refine (land_any x y 1000 v2 n2 u2 w4 (hv2.below hB)).mono ?_
  rintro e w5 ⟨hb, ⟨hland, rfl⟩ | ⟨hno, rfl⟩⟩
  rotate_left
  · replace hB := below_next hB hb
    go_wp2_with fail
    go_ret
    exact ⟨rfl, by first | exact below_alloc hB _ | (rw [hE] at hB; exact below_alloc hB _)⟩
  replace hB := below_next hB hb
  replace n14 := below_blk hb n14
  replace n15 := below_blk hb n15
  replace hr := hr.below hb
  obtain ⟨o2, cap2, rfl, hn3, hn4⟩ := hv2.below hB
  obtain ⟨d1, d2, d3, d4, d5, d6, d7⟩ := hland
  have hm2 := Int.mul_le_mul d1 d2 (by omega) (by omega)
  obtain ⟨ad2, rfl, hr2⟩ := hn4 (by omega)
  obtain ⟨xn, rfl⟩ : ∃ xn : Nat, x = xn := ⟨x.toNat, by omega⟩
  obtain ⟨yn, rfl⟩ : ∃ yn : Nat, y = yn := ⟨y.toNat, by omega⟩
  have d8 : n2 = xn * yn := by have : ((xn * yn : Nat) : Int) = xn * yn := by { push_cast; rfl }; omega
  subst d8
  have HM2 := Lib.hid (fun j hj => mayB_iff.1 (d7 j hj))
  have HD2 := Lib.hid (And.intro d1 (And.intro d3 (And.intro d2 d4)))
  clear hb hv2 hn4 d6 d7 d5 hm2 hn3 d1 d2 d3 d4
  go_wp2_with fail
  have hb := below_alloc1 w5 (.cells #[.int .i64 (xn : Int), .int .i64 (yn : Int), .slice (some ad2) (xn * yn) cap2] 27)
  obtain ⟨w6, hw6⟩ : ∃ w6, w5.alloc (.cells #[.int .i64 (xn : Int), .int .i64 (yn : Int), .slice (some ad2) (xn * yn) cap2] 27) = w6 := ⟨_, rfl⟩
  rw [hw6] at hb
  rw [hw6]
  replace hr := hr.below hb
  replace hr2 := hr2.below hb
  replace n14 := below_blk hb n14
  replace n15 := below_blk hb n15
  replace hB := below_next hB hb
  clear hb hw6
  obtain ⟨c1, c3, c2, c4⟩ := HD.out
  refine (made_ok wn hn w6 (by omega) (by omega) (by omega) (by omega) ad cap0 u HM.out hr).mono ?_
  rintro e w7 ⟨ga, Fa, rfl, hb, hFa, HGa⟩
  replace hr2 := hr2.below hb
  replace n14 := below_blk hb n14
  replace n15 := below_blk hb n15
  replace hB := below_next hB hb
  clear hb hr hFa
  go_wp2_with fail
  obtain ⟨d1, d3, d2, d4⟩ := HD2.out
  refine (made_ok xn yn w7 (by omega) (by omega) (by omega) (by omega) ad2 cap2 u2 HM2.out hr2).mono ?_
  rintro e w8 ⟨gb, Fb, rfl, hb, hFb, HGb⟩
  replace n14 := below_blk hb n14
  replace n15 := below_blk hb n15
  replace hB := below_next hB hb
  replace HGa := HGa.below hb
  clear hb hr2 hFb d1 d2 d3 d4 c1 c2 c3 c4 HM HM2 HD HD2
  go_wp2_with fail
  refine (build_ok ga Fa wn hn _ w8 HGa).mono ?_
  rintro e w9 ⟨p, Fp, rfl, hb, hFp, HP⟩
  replace n14 := below_blk hb n14
  replace n15 := below_blk hb n15
  replace hB := below_next hB hb
  replace HGa := HGa.below hb
  replace HGb := HGb.below hb
  clear hb hFp
  go_wp2_with fail
  refine (build_ok gb Fb xn yn _ w9 HGb).mono ?_
  rintro e w10 ⟨q, Fq, rfl, hb, hFq, HQ⟩
  replace n14 := below_blk hb n14
  replace n15 := below_blk hb n15
  replace hB := below_next hB hb
  replace HGa := HGa.below hb
  replace HGb := HGb.below hb
  replace HP := HP.below hb
  clear hb hFq
  generalize (fun (x y : Int) => u ((y * (wn : Int) + x).toNat)) = fa at *
  generalize (fun (x y : Int) => u2 ((y * (xn : Int) + x).toNat)) = fb at *
  rw [hE] at n14 n15
  obtain ⟨r, hr⟩ := some_bool ((wn : Int) = (xn : Int) ∧ (hn : Int) = (yn : Int) ∧ ∀ X Y, 0 ≤ X → X < (wn : Int) → 0 ≤ Y → Y < (hn : Int) → fa X Y = fb X Y)
  have HR := Lib.hid hr
  have hG : ∀ w11 : World, GridAt w11 ga Fa wn hn fa → GridAt w11 gb Fb xn yn fb → Calls Try.prog 35 #[.pointer (some ⟨ga, 0, none⟩), .pointer (some ⟨gb, 0, none⟩)] w11 fun e W' => e = .returned (.bool r) ∧ Below w11.heap.size w11 W' := fun w11 h1 h2 => calls_bool (grid_same_any ga gb Fa Fb wn hn xn yn fa fb w11 h1 h2) hr
  have HG := Lib.hid hG
  clear hr hG
  go_wp2_with fail
  cases r with
  | true =>
    refine (calls_bool (pyr_same_any p q Fp Fq wn hn xn yn fa fb w10 HP HQ) HR.out).mono ?_
    rintro e w11 ⟨rfl, hb⟩
    replace n14 := below_blk hb n14
    replace n15 := below_blk hb n15
    replace hB := below_next hB hb
    replace HP := HP.below hb
    replace HGa := HGa.below hb
    replace HGb := HGb.below hb
    clear hb HQ HR
    go_wp2_with fail
    refine (HG.out w11 HGa HGb).mono ?_
    rintro e w12 ⟨rfl, hb⟩
    replace n14 := below_blk hb n14
    replace n15 := below_blk hb n15
    replace hB := below_next hB hb
    replace HP := HP.below hb
    replace HGa := HGa.below hb
    replace HGb := HGb.below hb
    clear hb HG
    have c_0 := cells_w n15 0 rfl
    have c_1 := cells_w n15 1 rfl
    have c_2 := cells_w n15 2 rfl
    have c_3 := cells_w n15 3 rfl
    by_cases he : wn = xn ∧ hn = yn
    · have h1 : ((wn : Int) != (xn : Int)) = false := by simp [he.1]
      have h2 : ((hn : Int) != (yn : Int)) = false := by simp [he.2]
      clear he
      go_wp2_with fail
      clear c_0 c_1 c_2 c_3
      refine (build_nil _).mono ?_
      rintro e w14 ⟨rfl, hb⟩
      replace n14 := below_blk hb n14
      replace n15 := below_blk hb n15
      replace hB := below_next hB hb
      clear hb
      have k_0 := cells_w n14 0 rfl
      have k_1 := cells_w n14 1 rfl
      go_wp2_with fail
      refine (at_nil 0 cx cy _).mono ?_
      rintro e w15 ⟨rfl, hb⟩
      replace n15 := below_blk hb n15
      replace hB := below_next hB hb
      clear hb k_0 k_1 n14
      go_wp2_with fail
      have nR := blk_new w15 (.cells #[.int .i64 0, .int .i64 0] 39)
      have hb := below_alloc1 w15 (.cells #[.int .i64 0, .int .i64 0] 39)
      replace n15 := below_blk hb n15
      replace hB := below_next hB hb
      clear hb
      refine (size_nil _).mono ?_
      rintro e w16 ⟨rfl, hb⟩
      replace n15 := below_blk hb n15
      replace nR := below_blk hb nR
      replace hB := below_next hB hb
      clear hb
      have k_0 := cells_w nR 0 rfl
      have k_1 := cells_w nR 1 rfl
      go_wp2_with fail
      refine (levels_nil _).mono ?_
      rintro e w17 ⟨rfl, hb⟩
      replace n15 := below_blk hb n15
      replace hB := below_next hB hb
      clear hb k_0 k_1 nR
      have c_0 := cells_w n15 0 rfl
      have c_1 := cells_w n15 1 rfl
      have c_2 := cells_w n15 2 rfl
      have c_3 := cells_w n15 3 rfl
      go_wp2_with fail
      refine (repair_nil _ x0 y0 x1 y1 _).mono ?_
      rintro e w18 ⟨rfl, hb⟩
      replace n15 := below_blk hb n15
      replace hB := below_next hB hb
      clear hb c_0 c_1 c_2 c_3
      have c_0 := cells_w n15 0 rfl
      have c_1 := cells_w n15 1 rfl
      have c_2 := cells_w n15 2 rfl
      have c_3 := cells_w n15 3 rfl
      go_wp2_with fail
      refine (repair_nil2 p x0 y0 x1 y1 _).mono ?_
      rintro e w19 ⟨rfl, hb⟩
      replace hB := below_next hB hb
      clear hb c_0 c_1 c_2 c_3 n15
      go_wp2_with fail
      refine (same_nil _).mono ?_
      rintro e w20 ⟨rfl, hb⟩
      replace hB := below_next hB hb
      clear hb
      go_wp2_with fail
      refine (same_nil1 p _).mono ?_
      rintro e w21 ⟨rfl, hb⟩
      replace hB := below_next hB hb
      clear hb
      go_wp2_with fail
      refine (same_nil2 p _).mono ?_
      rintro e w22 ⟨rfl, hb⟩
      replace hB := below_next hB hb
      clear hb
      go_wp2_with fail
      go_ret
      exact ⟨rfl, hB⟩
    · have hs : (xn : Int) ≠ wn ∨ (yn : Int) ≠ hn := by
        by_cases hx : (xn : Int) = wn
        · exact .inr (fun hy => he ⟨by omega, by omega⟩)
        · exact .inl hx
      have HS := Lib.hid hs
      by_cases hx : wn = xn
      · have h1 : ((wn : Int) != (xn : Int)) = false := by simp [hx]
        have h2 : ((hn : Int) != (yn : Int)) = true := by simp; omega
        clear he hs hx
        go_wp2_with fail
        refine (repair_size p Fp gb Fb wn hn xn yn x0 y0 x1 y1 fb fa w12 HP HGb HS.out).mono ?_
        rintro e w13 ⟨rfl, hb⟩
        replace n14 := below_blk hb n14
        replace n15 := below_blk hb n15
        replace hB := below_next hB hb
        clear hb c_0 c_1 c_2 c_3
        go_wp2_with fail
        refine (build_nil _).mono ?_
        rintro e w14 ⟨rfl, hb⟩
        replace n14 := below_blk hb n14
        replace n15 := below_blk hb n15
        replace hB := below_next hB hb
        clear hb
        have k_0 := cells_w n14 0 rfl
        have k_1 := cells_w n14 1 rfl
        go_wp2_with fail
        refine (at_nil 0 cx cy _).mono ?_
        rintro e w15 ⟨rfl, hb⟩
        replace n15 := below_blk hb n15
        replace hB := below_next hB hb
        clear hb k_0 k_1 n14
        go_wp2_with fail
        have nR := blk_new w15 (.cells #[.int .i64 0, .int .i64 0] 39)
        have hb := below_alloc1 w15 (.cells #[.int .i64 0, .int .i64 0] 39)
        replace n15 := below_blk hb n15
        replace hB := below_next hB hb
        clear hb
        refine (size_nil _).mono ?_
        rintro e w16 ⟨rfl, hb⟩
        replace n15 := below_blk hb n15
        replace nR := below_blk hb nR
        replace hB := below_next hB hb
        clear hb
        have k_0 := cells_w nR 0 rfl
        have k_1 := cells_w nR 1 rfl
        go_wp2_with fail
        refine (levels_nil _).mono ?_
        rintro e w17 ⟨rfl, hb⟩
        replace n15 := below_blk hb n15
        replace hB := below_next hB hb
        clear hb k_0 k_1 nR
        have c_0 := cells_w n15 0 rfl
        have c_1 := cells_w n15 1 rfl
        have c_2 := cells_w n15 2 rfl
        have c_3 := cells_w n15 3 rfl
        go_wp2_with fail
        refine (repair_nil _ x0 y0 x1 y1 _).mono ?_
        rintro e w18 ⟨rfl, hb⟩
        replace n15 := below_blk hb n15
        replace hB := below_next hB hb
        clear hb c_0 c_1 c_2 c_3
        have c_0 := cells_w n15 0 rfl
        have c_1 := cells_w n15 1 rfl
        have c_2 := cells_w n15 2 rfl
        have c_3 := cells_w n15 3 rfl
        go_wp2_with fail
        refine (repair_nil2 p x0 y0 x1 y1 _).mono ?_
        rintro e w19 ⟨rfl, hb⟩
        replace hB := below_next hB hb
        clear hb c_0 c_1 c_2 c_3 n15
        go_wp2_with fail
        refine (same_nil _).mono ?_
        rintro e w20 ⟨rfl, hb⟩
        replace hB := below_next hB hb
        clear hb
        go_wp2_with fail
        refine (same_nil1 p _).mono ?_
        rintro e w21 ⟨rfl, hb⟩
        replace hB := below_next hB hb
        clear hb
        go_wp2_with fail
        refine (same_nil2 p _).mono ?_
        rintro e w22 ⟨rfl, hb⟩
        replace hB := below_next hB hb
        clear hb
        go_wp2_with fail
        go_ret
        exact ⟨rfl, hB⟩
      · have h1 : ((wn : Int) != (xn : Int)) = true := by simp; omega
        clear he hs hx
        go_wp2_with fail
        refine (repair_size p Fp gb Fb wn hn xn yn x0 y0 x1 y1 fb fa w12 HP HGb HS.out).mono ?_
        rintro e w13 ⟨rfl, hb⟩
        replace n14 := below_blk hb n14
        replace n15 := below_blk hb n15
        replace hB := below_next hB hb
        clear hb c_0 c_1 c_2 c_3
        go_wp2_with fail
        refine (build_nil _).mono ?_
        rintro e w14 ⟨rfl, hb⟩
        replace n14 := below_blk hb n14
        replace n15 := below_blk hb n15
        replace hB := below_next hB hb
        clear hb
        have k_0 := cells_w n14 0 rfl
        have k_1 := cells_w n14 1 rfl
        go_wp2_with fail
        refine (at_nil 0 cx cy _).mono ?_
        rintro e w15 ⟨rfl, hb⟩
        replace n15 := below_blk hb n15
        replace hB := below_next hB hb
        clear hb k_0 k_1 n14
        go_wp2_with fail
        have nR := blk_new w15 (.cells #[.int .i64 0, .int .i64 0] 39)
        have hb := below_alloc1 w15 (.cells #[.int .i64 0, .int .i64 0] 39)
        replace n15 := below_blk hb n15
        replace hB := below_next hB hb
        clear hb
        refine (size_nil _).mono ?_
        rintro e w16 ⟨rfl, hb⟩
        replace n15 := below_blk hb n15
        replace nR := below_blk hb nR
        replace hB := below_next hB hb
        clear hb
        have k_0 := cells_w nR 0 rfl
        have k_1 := cells_w nR 1 rfl
        go_wp2_with fail
        refine (levels_nil _).mono ?_
        rintro e w17 ⟨rfl, hb⟩
        replace n15 := below_blk hb n15
        replace hB := below_next hB hb
        clear hb k_0 k_1 nR
        have c_0 := cells_w n15 0 rfl
        have c_1 := cells_w n15 1 rfl
        have c_2 := cells_w n15 2 rfl
        have c_3 := cells_w n15 3 rfl
        go_wp2_with fail
        refine (repair_nil _ x0 y0 x1 y1 _).mono ?_
        rintro e w18 ⟨rfl, hb⟩
        replace n15 := below_blk hb n15
        replace hB := below_next hB hb
        clear hb c_0 c_1 c_2 c_3
        have c_0 := cells_w n15 0 rfl
        have c_1 := cells_w n15 1 rfl
        have c_2 := cells_w n15 2 rfl
        have c_3 := cells_w n15 3 rfl
        go_wp2_with fail
        refine (repair_nil2 p x0 y0 x1 y1 _).mono ?_
        rintro e w19 ⟨rfl, hb⟩
        replace hB := below_next hB hb
        clear hb c_0 c_1 c_2 c_3 n15
        go_wp2_with fail
        refine (same_nil _).mono ?_
        rintro e w20 ⟨rfl, hb⟩
        replace hB := below_next hB hb
        clear hb
        go_wp2_with fail
        refine (same_nil1 p _).mono ?_
        rintro e w21 ⟨rfl, hb⟩
        replace hB := below_next hB hb
        clear hb
        go_wp2_with fail
        refine (same_nil2 p _).mono ?_
        rintro e w22 ⟨rfl, hb⟩
        replace hB := below_next hB hb
        clear hb
        go_wp2_with fail
        go_ret
        exact ⟨rfl, hB⟩
  | false =>
    refine (calls_bool (pyr_same_any p q Fp Fq wn hn xn yn fa fb w10 HP HQ) HR.out).mono ?_
    rintro e w11 ⟨rfl, hb⟩
    replace n14 := below_blk hb n14
    replace n15 := below_blk hb n15
    replace hB := below_next hB hb
    replace HP := HP.below hb
    replace HGa := HGa.below hb
    replace HGb := HGb.below hb
    clear hb HQ HR
    go_wp2_with fail
    refine (HG.out w11 HGa HGb).mono ?_
    rintro e w12 ⟨rfl, hb⟩
    replace n14 := below_blk hb n14
    replace n15 := below_blk hb n15
    replace hB := below_next hB hb
    replace HP := HP.below hb
    replace HGa := HGa.below hb
    replace HGb := HGb.below hb
    clear hb HG
    have c_0 := cells_w n15 0 rfl
    have c_1 := cells_w n15 1 rfl
    have c_2 := cells_w n15 2 rfl
    have c_3 := cells_w n15 3 rfl
    by_cases he : wn = xn ∧ hn = yn
    · have h1 : ((wn : Int) != (xn : Int)) = false := by simp [he.1]
      have h2 : ((hn : Int) != (yn : Int)) = false := by simp [he.2]
      clear he
      go_wp2_with fail
      clear c_0 c_1 c_2 c_3
      refine (build_nil _).mono ?_
      rintro e w14 ⟨rfl, hb⟩
      replace n14 := below_blk hb n14
      replace n15 := below_blk hb n15
      replace hB := below_next hB hb
      clear hb
      have k_0 := cells_w n14 0 rfl
      have k_1 := cells_w n14 1 rfl
      go_wp2_with fail
      refine (at_nil 0 cx cy _).mono ?_
      rintro e w15 ⟨rfl, hb⟩
      replace n15 := below_blk hb n15
      replace hB := below_next hB hb
      clear hb k_0 k_1 n14
      go_wp2_with fail
      have nR := blk_new w15 (.cells #[.int .i64 0, .int .i64 0] 39)
      have hb := below_alloc1 w15 (.cells #[.int .i64 0, .int .i64 0] 39)
      replace n15 := below_blk hb n15
      replace hB := below_next hB hb
      clear hb
      refine (size_nil _).mono ?_
      rintro e w16 ⟨rfl, hb⟩
      replace n15 := below_blk hb n15
      replace nR := below_blk hb nR
      replace hB := below_next hB hb
      clear hb
      have k_0 := cells_w nR 0 rfl
      have k_1 := cells_w nR 1 rfl
      go_wp2_with fail
      refine (levels_nil _).mono ?_
      rintro e w17 ⟨rfl, hb⟩
      replace n15 := below_blk hb n15
      replace hB := below_next hB hb
      clear hb k_0 k_1 nR
      have c_0 := cells_w n15 0 rfl
      have c_1 := cells_w n15 1 rfl
      have c_2 := cells_w n15 2 rfl
      have c_3 := cells_w n15 3 rfl
      go_wp2_with fail
      refine (repair_nil _ x0 y0 x1 y1 _).mono ?_
      rintro e w18 ⟨rfl, hb⟩
      replace n15 := below_blk hb n15
      replace hB := below_next hB hb
      clear hb c_0 c_1 c_2 c_3
      have c_0 := cells_w n15 0 rfl
      have c_1 := cells_w n15 1 rfl
      have c_2 := cells_w n15 2 rfl
      have c_3 := cells_w n15 3 rfl
      go_wp2_with fail
      refine (repair_nil2 p x0 y0 x1 y1 _).mono ?_
      rintro e w19 ⟨rfl, hb⟩
      replace hB := below_next hB hb
      clear hb c_0 c_1 c_2 c_3 n15
      go_wp2_with fail
      refine (same_nil _).mono ?_
      rintro e w20 ⟨rfl, hb⟩
      replace hB := below_next hB hb
      clear hb
      go_wp2_with fail
      refine (same_nil1 p _).mono ?_
      rintro e w21 ⟨rfl, hb⟩
      replace hB := below_next hB hb
      clear hb
      go_wp2_with fail
      refine (same_nil2 p _).mono ?_
      rintro e w22 ⟨rfl, hb⟩
      replace hB := below_next hB hb
      clear hb
      go_wp2_with fail
      go_ret
      exact ⟨rfl, hB⟩
    · have hs : (xn : Int) ≠ wn ∨ (yn : Int) ≠ hn := by
        by_cases hx : (xn : Int) = wn
        · exact .inr (fun hy => he ⟨by omega, by omega⟩)
        · exact .inl hx
      have HS := Lib.hid hs
      by_cases hx : wn = xn
      · have h1 : ((wn : Int) != (xn : Int)) = false := by simp [hx]
        have h2 : ((hn : Int) != (yn : Int)) = true := by simp; omega
        clear he hs hx
        go_wp2_with fail
        refine (repair_size p Fp gb Fb wn hn xn yn x0 y0 x1 y1 fb fa w12 HP HGb HS.out).mono ?_
        rintro e w13 ⟨rfl, hb⟩
        replace n14 := below_blk hb n14
        replace n15 := below_blk hb n15
        replace hB := below_next hB hb
        clear hb c_0 c_1 c_2 c_3
        go_wp2_with fail
        refine (build_nil _).mono ?_
        rintro e w14 ⟨rfl, hb⟩
        replace n14 := below_blk hb n14
        replace n15 := below_blk hb n15
        replace hB := below_next hB hb
        clear hb
        have k_0 := cells_w n14 0 rfl
        have k_1 := cells_w n14 1 rfl
        go_wp2_with fail
        refine (at_nil 0 cx cy _).mono ?_
        rintro e w15 ⟨rfl, hb⟩
        replace n15 := below_blk hb n15
        replace hB := below_next hB hb
        clear hb k_0 k_1 n14
        go_wp2_with fail
        have nR := blk_new w15 (.cells #[.int .i64 0, .int .i64 0] 39)
        have hb := below_alloc1 w15 (.cells #[.int .i64 0, .int .i64 0] 39)
        replace n15 := below_blk hb n15
        replace hB := below_next hB hb
        clear hb
        refine (size_nil _).mono ?_
        rintro e w16 ⟨rfl, hb⟩
        replace n15 := below_blk hb n15
        replace nR := below_blk hb nR
        replace hB := below_next hB hb
        clear hb
        have k_0 := cells_w nR 0 rfl
        have k_1 := cells_w nR 1 rfl
        go_wp2_with fail
        refine (levels_nil _).mono ?_
        rintro e w17 ⟨rfl, hb⟩
        replace n15 := below_blk hb n15
        replace hB := below_next hB hb
        clear hb k_0 k_1 nR
        have c_0 := cells_w n15 0 rfl
        have c_1 := cells_w n15 1 rfl
        have c_2 := cells_w n15 2 rfl
        have c_3 := cells_w n15 3 rfl
        go_wp2_with fail
        refine (repair_nil _ x0 y0 x1 y1 _).mono ?_
        rintro e w18 ⟨rfl, hb⟩
        replace n15 := below_blk hb n15
        replace hB := below_next hB hb
        clear hb c_0 c_1 c_2 c_3
        have c_0 := cells_w n15 0 rfl
        have c_1 := cells_w n15 1 rfl
        have c_2 := cells_w n15 2 rfl
        have c_3 := cells_w n15 3 rfl
        go_wp2_with fail
        refine (repair_nil2 p x0 y0 x1 y1 _).mono ?_
        rintro e w19 ⟨rfl, hb⟩
        replace hB := below_next hB hb
        clear hb c_0 c_1 c_2 c_3 n15
        go_wp2_with fail
        refine (same_nil _).mono ?_
        rintro e w20 ⟨rfl, hb⟩
        replace hB := below_next hB hb
        clear hb
        go_wp2_with fail
        refine (same_nil1 p _).mono ?_
        rintro e w21 ⟨rfl, hb⟩
        replace hB := below_next hB hb
        clear hb
        go_wp2_with fail
        refine (same_nil2 p _).mono ?_
        rintro e w22 ⟨rfl, hb⟩
        replace hB := below_next hB hb
        clear hb
        go_wp2_with fail
        go_ret
        exact ⟨rfl, hB⟩
      · have h1 : ((wn : Int) != (xn : Int)) = true := by simp; omega
        clear he hs hx
        go_wp2_with fail
        refine (repair_size p Fp gb Fb wn hn xn yn x0 y0 x1 y1 fb fa w12 HP HGb HS.out).mono ?_
        rintro e w13 ⟨rfl, hb⟩
        replace n14 := below_blk hb n14
        replace n15 := below_blk hb n15
        replace hB := below_next hB hb
        clear hb c_0 c_1 c_2 c_3
        go_wp2_with fail
        refine (build_nil _).mono ?_
        rintro e w14 ⟨rfl, hb⟩
        replace n14 := below_blk hb n14
        replace n15 := below_blk hb n15
        replace hB := below_next hB hb
        clear hb
        have k_0 := cells_w n14 0 rfl
        have k_1 := cells_w n14 1 rfl
        go_wp2_with fail
        refine (at_nil 0 cx cy _).mono ?_
        rintro e w15 ⟨rfl, hb⟩
        replace n15 := below_blk hb n15
        replace hB := below_next hB hb
        clear hb k_0 k_1 n14
        go_wp2_with fail
        have nR := blk_new w15 (.cells #[.int .i64 0, .int .i64 0] 39)
        have hb := below_alloc1 w15 (.cells #[.int .i64 0, .int .i64 0] 39)
        replace n15 := below_blk hb n15
        replace hB := below_next hB hb
        clear hb
        refine (size_nil _).mono ?_
        rintro e w16 ⟨rfl, hb⟩
        replace n15 := below_blk hb n15
        replace nR := below_blk hb nR
        replace hB := below_next hB hb
        clear hb
        have k_0 := cells_w nR 0 rfl
        have k_1 := cells_w nR 1 rfl
        go_wp2_with fail
        refine (levels_nil _).mono ?_
        rintro e w17 ⟨rfl, hb⟩
        replace n15 := below_blk hb n15
        replace hB := below_next hB hb
        clear hb k_0 k_1 nR
        have c_0 := cells_w n15 0 rfl
        have c_1 := cells_w n15 1 rfl
        have c_2 := cells_w n15 2 rfl
        have c_3 := cells_w n15 3 rfl
        go_wp2_with fail
        refine (repair_nil _ x0 y0 x1 y1 _).mono ?_
        rintro e w18 ⟨rfl, hb⟩
        replace n15 := below_blk hb n15
        replace hB := below_next hB hb
        clear hb c_0 c_1 c_2 c_3
        have c_0 := cells_w n15 0 rfl
        have c_1 := cells_w n15 1 rfl
        have c_2 := cells_w n15 2 rfl
        have c_3 := cells_w n15 3 rfl
        go_wp2_with fail
        refine (repair_nil2 p x0 y0 x1 y1 _).mono ?_
        rintro e w19 ⟨rfl, hb⟩
        replace hB := below_next hB hb
        clear hb c_0 c_1 c_2 c_3 n15
        go_wp2_with fail
        refine (same_nil _).mono ?_
        rintro e w20 ⟨rfl, hb⟩
        replace hB := below_next hB hb
        clear hb
        go_wp2_with fail
        refine (same_nil1 p _).mono ?_
        rintro e w21 ⟨rfl, hb⟩
        replace hB := below_next hB hb
        clear hb
        go_wp2_with fail
        refine (same_nil2 p _).mono ?_
        rintro e w22 ⟨rfl, hb⟩
        replace hB := below_next hB hb
        clear hb
        go_wp2_with fail
        go_ret
        exact ⟨rfl, hB⟩
end Go.Proofs.Ytgofkgmhpnkchaa

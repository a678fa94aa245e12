/- hachurelaw16.PyrBuilds: the walk. -/
import Derived.Test.YtgofkgmhpnkchaaAwake16
import Derived.Test.YtgofkgmhpnkchaaMade
set_option linter.unusedVariables false
set_option linter.unusedSimpArgs false
namespace Go.Proofs.Ytgofkgmhpnkchaa
open Go.RowKit

set_option maxHeartbeats 4000000 in
set_option maxRecDepth 100000 in
theorem builds_any (w h k x y : Int) (v : Value) (n : Nat) (u : Nat → Int) (W : World) (hv : ArgAt W v n u) :
    Calls Try.prog 3 #[.int .i64 w, .int .i64 h, v, .int .i64 k, .agg #[.int .i64 x, .int .i64 y]] W fun e W' => e = .returned (.bool true) ∧ Below W.heap.size W W' := by
  go_enter Try.func3, Try.ntmps3
  go_wp2_with fail
  have hB := below_alloc1 W (.cells #[.int .i64 x, .int .i64 y] 24)
  have n9 := blk_new W (.cells #[.int .i64 x, .int .i64 y] 24)
  refine (awake16_ok _).mono ?_
  rintro e w2 ⟨rfl, hb⟩
  replace n9 := below_blk hb n9
  replace hB := below_next hB hb
  clear hb
  go_wp2_with fail
  refine (land_any w h 1000 v n u w2 (hv.below hB)).mono ?_
  rintro e w3 ⟨hb, ⟨hland, rfl⟩ | ⟨hno, rfl⟩⟩
  rotate_left
  · replace hB := below_next hB hb
    go_wp2_with fail
    go_ret
    exact ⟨rfl, below_alloc hB _⟩
  obtain ⟨o, cap0, rfl, hn1, hn2⟩ := hv.below hB
  obtain ⟨c1, c2, c3, c4, c5, c6, c7⟩ := hland
  have hm1 := Int.mul_le_mul c1 c2 (by omega) (by omega)
  obtain ⟨ad, rfl, hr⟩ := hn2 (by omega)
  replace hr := hr.below hb
  replace n9 := below_blk hb n9
  replace hB := below_next hB hb
  obtain ⟨wn, rfl⟩ : ∃ wn : Nat, w = wn := ⟨w.toNat, by omega⟩
  obtain ⟨hn, rfl⟩ : ∃ hn : Nat, h = hn := ⟨h.toNat, by omega⟩
  have c8 : n = wn * hn := by have : ((wn * hn : Nat) : Int) = wn * hn := by { push_cast; rfl }; omega
  subst c8
  have HC := Lib.hid c6
  have HM := Lib.hid (fun j hj => mayB_iff.1 (c7 j hj))
  clear hb hv hn2 c6 c7 hm1 c5
  go_wp2_with fail
  have nM := blk_new w3 (.cells #[.int .i64 (wn : Int), .int .i64 (hn : Int), .slice (some ad) (wn * hn) cap0] 27)
  have hb := below_alloc1 w3 (.cells #[.int .i64 (wn : Int), .int .i64 (hn : Int), .slice (some ad) (wn * hn) cap0] 27)
  obtain ⟨w4, hw4⟩ : ∃ w4, w3.alloc (.cells #[.int .i64 (wn : Int), .int .i64 (hn : Int), .slice (some ad) (wn * hn) cap0] 27) = w4 := ⟨_, rfl⟩
  obtain ⟨M, hM⟩ : ∃ M, w3.heap.size = M := ⟨_, rfl⟩
  have hMW : W.heap.size ≤ M := by have := hB.size; omega
  rw [hM] at nM
  rw [hw4] at nM hb
  rw [hM, hw4]
  replace hr := hr.below hb
  replace n9 := below_blk hb n9
  replace hB := below_next hB hb
  clear hb hw4 hM
  have hMlt := blk_lt nM
  have hadW : ad.block < w4.heap.size := by
    have := World.block_lt_of_cell? w4 _ (hr 0 (by have h8 := Nat.mul_le_mul (show 1 ≤ wn by omega) (show 1 ≤ hn by omega); omega))
    rwa [add_block] at this
  refine (made_ok wn hn w4 (by omega) (by omega) (by omega) (by omega) ad cap0 u HM.out hr).mono ?_
  rintro e w5 ⟨g, Fg, rfl, hb, hFg, HG⟩
  replace hr := hr.below hb
  replace n9 := below_blk hb n9
  replace nM := below_blk hb nM
  have hB5 := below_next hB hb
  clear hb
  go_wp2_with fail
  refine (build_ok g Fg wn hn _ w5 HG).mono ?_
  rintro e w6 ⟨p, Fp, rfl, hb, hFp, HP⟩
  have hB6 := below_next hB5 hb
  have HFp : ∀ t, Fg t → ¬ Fp t := fun t h1 h2 => by have := HG.lt t h1; have := hFp t h2; omega
  replace hr := hr.below hb
  replace n9 := below_blk hb n9
  replace nM := below_blk hb nM
  have HG6 := HG.below hb
  have hs6 := hb.size
  clear hb HG hB5
  have i_0 := cells_w nM 0 rfl
  have i_1 := cells_w nM 1 rfl
  have i_2 := cells_w nM 2 rfl
  go_wp2_with fail
  refine (over_ok p Fp ad cap0 (wn * hn) u wn hn w6 HP HC.out hr).mono ?_
  rintro e w7 ⟨rfl, hb⟩
  have hB7 := below_next hB6 hb
  replace hr := hr.below hb
  replace n9 := below_blk hb n9
  replace nM := below_blk hb nM
  have HG7 := HG6.below hb
  have HP7 := HP.below hb
  clear hb HG6 HP hB6 i_0 i_1 i_2
  have j_0 := cells_w n9 0 rfl
  have j_1 := cells_w n9 1 rfl
  go_wp2_with fail
  refine (pyr_At_any p Fp wn hn x y k _ w7 HP7).mono ?_
  rintro e w8 ⟨ra, rb, rc, rfl, hA1, hb⟩
  have hB8 := below_next hB7 (below_next hb (below_alloc1 w8 (.cells #[.int .i64 ra, .int .i64 rb] 39)))
  have hb8 := below_next hb (below_alloc1 w8 (.cells #[.int .i64 ra, .int .i64 rb] 39))
  have nA := blk_new w8 (.cells #[.int .i64 ra, .int .i64 rb] 39)
  replace hr := hr.below hb8
  have n9' := below_blk hb8 n9
  have nM' := below_blk hb8 nM
  have HG8 := HG7.below hb8
  have HP8 := HP7.below hb8
  have la := fun o => cells_w (below_blk (below_next hb (below_alloc1 w8 o)) nM) 0 rfl
  have lb := fun o => cells_w (below_blk (below_next hb (below_alloc1 w8 o)) nM) 1 rfl
  have lc := fun o => cells_w (below_blk (below_next hb (below_alloc1 w8 o)) nM) 2 rfl
  have ma := fun o => cells_w (below_blk (below_next hb (below_alloc1 w8 o)) n9) 0 rfl
  have mb := fun o => cells_w (below_blk (below_next hb (below_alloc1 w8 o)) n9) 1 rfl
  have HFlt : Hid (∀ t, Fg t → t < w8.heap.size) := fun t ht => by have := HG7.lt t ht; have := hb.size; omega
  clear hb8 HG7 HP7 hB7 j_0 j_1
  go_wp2_with fail
  refine (at16_any ad cap0 (wn * hn) u wn hn k x y _ (by omega) (by omega) (by omega) (by omega) HC.out hr).mono ?_
  rintro e w9 ⟨ra2, rb2, rc2, rfl, hA2, hb9⟩
  obtain ⟨rfl, rfl, rfl⟩ := hA1.unique hA2
  have hb10 := below_next hb9 (below_alloc1 w9 (.cells #[.int .i64 ra, .int .i64 rb] 39))
  have nA10 := below_blk hb10 nA
  have nB10 := blk_new w9 (.cells #[.int .i64 ra, .int .i64 rb] 39)
  have nM10 := below_blk hb10 nM'
  have HG10 := HG8.below hb10
  have HP10 := HP8.below hb10
  have hB10 := below_next hB8 hb10
  have hr10 := hr.below hb10
  have hsA : w8.heap.size < w9.heap.size := by have := hb9.size; rw [alloc_size] at this; omega
  clear hb10 hb9 hA1 hA2 hb hr HP8 HG8 nM' n9' nA nM n9 hB8 la lb lc ma mb
  go_wp2_with fail
  refine (grid_All_ok g Fg wn hn _ _ HG10).mono ?_
  rintro e w11 ⟨rfl, hb⟩
  replace nA10 := below_blk hb nA10
  replace nB10 := below_blk hb nB10
  replace nM10 := below_blk hb nM10
  replace HP10 := HP10.below hb
  replace HG10 := HG10.below hb
  replace hB10 := below_next hB10 hb
  replace hr10 := hr10.below hb
  clear hb
  go_wp2_with fail
  refine (grid_Fill_ok g Fg wn hn 0 0 ((wn : Int) - 1) ((hn : Int) - 1) 12345 _ w11 HG10 (by omega) (by omega) (by omega) (by omega) (by omega) (by omega) (by omega) (by omega)).mono ?_
  rintro e w12 ⟨F2, rfl, hM2, _, _⟩
  have nA12 := hM2.blk nA10 (fun ht => by have := HFlt.out _ ht; omega)
  have nB12 := hM2.blk nB10 (fun ht => by have := HFlt.out _ ht; omega)
  have nM12 := hM2.blk nM10 (fun ht => by have := hFg _ ht; omega)
  have HP12 := HP10.mod hM2 (fun t h1 h2 => HFp t h2 h1)
  have hr12 := hr10.mod hM2 (fun ht => by have := hFg _ ht; omega)
  have hB12 := hB10.trans (hM2.below hB10.size (fun t ht => by have := hFg t ht; have := hB.size; omega))
  have HFP := Lib.hid HFp
  clear hM2 nA10 nB10 nM10 HP10 hr10 hB10 HG10 HFp HFlt
  have a_0 := cells_w nA12 0 rfl
  have a_1 := cells_w nA12 1 rfl
  have b_0 := cells_w nB12 0 rfl
  have b_1 := cells_w nB12 1 rfl
  have c_0 := cells_w nM12 0 rfl
  have c_1 := cells_w nM12 1 rfl
  have c_2 := cells_w nM12 2 rfl
  go_wp2_with fail
  refine (over_ok p Fp ad cap0 (wn * hn) u wn hn w12 HP12 HC.out hr12).mono ?_
  rintro e w13 ⟨rfl, hb⟩
  go_wp2_with fail
  go_ret
  exact ⟨rfl, below_next hB12 hb⟩
end Go.Proofs.Ytgofkgmhpnkchaa

/- hachurelaw18.DownLevels: the walk. -/
import Derived.Test.YtgofkgmhpnkchaaRef18
import Derived.Test.YtgofkgmhpnkchaaAwake18
import Derived.Test.YtgofkgmhpnkchaaMade
set_option linter.unusedVariables false
set_option linter.unusedSimpArgs false
namespace Go.Proofs.Ytgofkgmhpnkchaa
open Go.RowKit

theorem level_good (how : Int) (g : Nat) (Fg : Nat → Prop) (w h : Int) (k : Nat) (f : Int → Int → Int) (W : World) (HG : GridAt W g Fg w h f) (hk : k < levs w h) (hmay : MayF f w h) (hh : 0 ≤ how ∧ how ≤ 2) :
    Calls Try.prog 24 #[.pointer (some ⟨g, 0, none⟩), .int .i64 k, .int .i64 how] W (LevelOut how f w h k W) := by
  rcases (by omega : how = 0 ∨ how = 1 ∨ how = 2) with rfl | rfl | rfl
  · exact level_0 g Fg w h k f W HG hk hmay
  · exact level_1 g Fg w h k f W HG hk hmay
  · exact level_2 g Fg w h k f W HG hk hmay

set_option maxHeartbeats 4000000 in
set_option maxRecDepth 100000 in
theorem levels_any (w h k how : Int) (v : Value) (n : Nat) (u : Nat → Int) (W : World) (hv : ArgAt W v n u) :
    Calls Try.prog 5 #[.int .i64 w, .int .i64 h, v, .int .i64 k, .int .i64 how] W fun e W' => e = .returned (.bool true) ∧ Below W.heap.size W W' := by
  go_enter Try.func5, Try.ntmps5
  go_wp2_with fail
  refine (awake18_ok _).mono ?_
  rintro e w2 ⟨rfl, hB⟩
  go_wp2_with fail
  refine (land_any w h 1000 v n u w2 (hv.below hB)).mono ?_
  rintro e w3 ⟨hb, ⟨hland, rfl⟩ | ⟨hno, rfl⟩⟩
  rotate_left
  · replace hB := below_next hB hb
    go_wp2_with fail
    go_ret
    exact ⟨rfl, below_alloc hB _⟩
  obtain ⟨o, cap0, rfl, hn1, hn2⟩ := hv.below hB
  obtain ⟨c1, c2, c3, c4, c5, c6, c7⟩ := hland
  have hm1 := Int.mul_le_mul c1 c2 (by omega) (by omega)
  obtain ⟨ad, rfl, hr⟩ := hn2 (by omega)
  replace hr := hr.below hb
  replace hB := below_next hB hb
  obtain ⟨wn, rfl⟩ : ∃ wn : Nat, w = wn := ⟨w.toNat, by omega⟩
  obtain ⟨hn, rfl⟩ : ∃ hn : Nat, h = hn := ⟨h.toNat, by omega⟩
  have c8 : n = wn * hn := by have : ((wn * hn : Nat) : Int) = wn * hn := by { push_cast; rfl }; omega
  subst c8
  have HC := Lib.hid c6
  have hM := fun j hj => mayB_iff.1 (c7 j hj)
  have hmay : MayF (fun x y => u ((y * (wn : Int) + x).toNat)) wn hn := fun x y b0 b1 b2 b3 => by
    have := idx_lt b0 b1 b2 b3
    exact hM _ (by omega)
  have HM := Lib.hid hM
  have HMAY := Lib.hid hmay
  clear hb hv hn2 c6 c7 hm1 c5 hn1 hM hmay
  obtain ⟨N, hN⟩ : ∃ N, wn * hn = N := ⟨_, rfl⟩
  rw [hN] at hr HC HM ⊢
  have HN := Lib.hid hN
  clear hN
  go_wp2_with fail
  have nM := blk_new w3 (.cells #[.int .i64 (wn : Int), .int .i64 (hn : Int), .slice (some ad) N cap0] 27)
  have hb := below_alloc1 w3 (.cells #[.int .i64 (wn : Int), .int .i64 (hn : Int), .slice (some ad) N cap0] 27)
  obtain ⟨w4, hw4⟩ : ∃ w4, w3.alloc (.cells #[.int .i64 (wn : Int), .int .i64 (hn : Int), .slice (some ad) N cap0] 27) = w4 := ⟨_, rfl⟩
  obtain ⟨M, hM⟩ : ∃ M, w3.heap.size = M := ⟨_, rfl⟩
  rw [hM] at nM
  rw [hw4] at nM hb
  rw [hM, hw4]
  replace hr := hr.below hb
  replace hB := below_next hB hb
  clear hb hw4 hM
  have hm7 := made_ok wn hn w4 (by omega) (by omega) (by omega) (by omega) ad cap0 u (by rw [HN.out]; exact HM.out) (by rw [HN.out]; exact hr)
  rw [HN.out] at hm7
  refine hm7.mono ?_
  clear hm7
  rintro e w5 ⟨g, Fg, rfl, hb, hFg, HG⟩
  replace hr := hr.below hb
  replace nM := below_blk hb nM
  have hB5 := below_next hB hb
  clear hb hB hFg
  go_wp2_with fail
  by_cases hbad : ¬ (0 ≤ k ∧ k < (levs wn hn : Int) ∧ 0 ≤ how ∧ how ≤ 2)
  · refine (level_bad how k g Fg wn hn _ w5 HG hbad).mono ?_
    rintro e w6 ⟨rfl, hb⟩
    replace nM := below_blk hb nM
    have hB6 := below_next hB5 hb
    have HBAD := Lib.hid hbad
    clear hb hbad
    have i_0 := cells_w nM 0 rfl
    have i_1 := cells_w nM 1 rfl
    have i_2 := cells_w nM 2 rfl
    go_wp2_with fail
    refine (ref18_bad how k ad cap0 N wn hn w6 (by omega) (by omega) (by omega) (by omega) HBAD.out).mono ?_
    rintro e w7 ⟨rfl, hb⟩
    have hB7 := below_next hB6 hb
    clear hb
    go_wp2_with fail
    go_ret
    exact ⟨rfl, below_alloc hB7 _⟩
  · have hgood : 0 ≤ k ∧ k < (levs wn hn : Int) ∧ 0 ≤ how ∧ how ≤ 2 := by omega
    obtain ⟨kk, rfl⟩ : ∃ kk : Nat, k = kk := ⟨k.toNat, by omega⟩
    have HGD := Lib.hid hgood
    clear hbad hgood
    refine (level_good how g Fg wn hn kk _ w5 HG (by have := HGD.out; omega) HMAY.out HGD.out.2.2).mono ?_
    rintro e w6 ⟨g2, F2, rfl, hb, hF2, HG2⟩
    replace hr := hr.below hb
    replace nM := below_blk hb nM
    have hB6 := below_next hB5 hb
    have HG6 := HG.below hb
    clear hb HG hF2 hB5
    have i_0 := cells_w nM 0 rfl
    have i_1 := cells_w nM 1 rfl
    have i_2 := cells_w nM 2 rfl
    go_wp2_with fail
    refine (ref18_ok how kk ad cap0 N u wn hn w6 (by omega) (by omega) (by omega) (by omega) HC.out hr HM.out (by have := HGD.out; omega) HGD.out.2.2).mono ?_
    rintro e w7 ⟨q7, n7, cap7, rfl, hn7, hrow7, hb⟩
    have hb8 := below_next hb (below_alloc1 w7 (.cells #[.int .i64 (lw wn kk), .int .i64 (lw hn kk), .slice (some ⟨q7, 0, none⟩) n7 cap7] 27))
    have nM8 := below_blk hb8 nM
    have hB8 := below_next hB6 hb8
    have HR8 := Lib.hid (hr.below hb8)
    have HG8 := Lib.hid (HG6.below hb8)
    have HG28 := Lib.hid (HG2.below hb8)
    have HRW8 := Lib.hid (hrow7.below (below_alloc1 w7 (.cells #[.int .i64 (lw wn kk), .int .i64 (lw hn kk), .slice (some ⟨q7, 0, none⟩) n7 cap7] 27)))
    have HN7 := Lib.hid hn7
    have nQ := blk_new w7 (.cells #[.int .i64 (lw wn kk), .int .i64 (lw hn kk), .slice (some ⟨q7, 0, none⟩) n7 cap7] 27)
    clear hb hb8 hr HG6 HG2 hrow7 hn7 hB6 nM i_0 i_1 i_2
    go_wp2_with fail
    refine (is09_ok g2 F2 _ _ _ ⟨q7, 0, none⟩ n7 cap7 _ HG28.out HN7.out HRW8.out).mono ?_
    rintro e w9 ⟨rfl, hb⟩
    have nM9 := below_blk hb nM8
    have HB9 := Lib.hid (below_next hB8 hb)
    have HG9 := Lib.hid (HG8.out.below hb)
    have HR9 := Lib.hid (HR8.out.below hb)
    clear hb nQ hB8 nM8
    have i_0 := cells_w nM9 0 rfl
    have i_1 := cells_w nM9 1 rfl
    have i_2 := cells_w nM9 2 rfl
    go_wp2_with fail
    refine (is09_ok g Fg wn hn _ ad N cap0 w9 HG9.out HC.out (fun i hi => by
      have hl := lin_at (w := wn) (h := hn) (i := i) (by omega) (by have := HC.out; omega)
      have h8 := HR9.out i hi
      unfold lin
      dsimp only
      rw [hl.2.2.2.2, Int.toNat_natCast]
      exact h8)).mono ?_
    rintro e w10 ⟨rfl, hb⟩
    go_wp2_with fail
    go_ret
    exact ⟨rfl, below_next HB9.out hb⟩
end Go.Proofs.Ytgofkgmhpnkchaa

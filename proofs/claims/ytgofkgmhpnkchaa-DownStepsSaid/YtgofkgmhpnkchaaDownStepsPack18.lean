/- Texts of this claim, joined: Steps18. -/
import Derived.Test.YtgofkgmhpnkchaaDownStepsPack17
/- hachurelaw18.DownSteps: the walk. -/
set_option linter.unusedVariables false
set_option linter.unusedSimpArgs false
namespace Go.Proofs.Ytgofkgmhpnkchaa
open Go.RowKit

theorem levs_one {w h : Int} (w1 : 1 ≤ w) (h1 : 1 ≤ h) {k : Nat} (hk : k + 1 < levs w h) : 1 < levs (lw w k) (lw h k) := by
  have a := (more_levs w1 h1 k).2 hk
  have b := more_levs (lw_bd w1 k).1 (lw_bd h1 k).1 0
  rw [lw0, lw0] at b
  exact b.1 a

set_option maxHeartbeats 4000000 in
set_option maxRecDepth 100000 in
theorem steps18_any (w h k : Int) (v : Value) (n : Nat) (u : Nat → Int) (W : World) (hv : ArgAt W v n u) :
    Calls Try.prog 9 #[.int .i64 w, .int .i64 h, v, .int .i64 k] W fun e W' => e = .returned (.bool true) ∧ Below W.heap.size W W' := by
  go_enter Try.func9, Try.ntmps9
  go_wp2_with fail
  refine (awake18_ok _).mono ?_
  rintro e w2 ⟨rfl, hB⟩
  go_wp2_with fail
  refine (land_any w h 1000 v n u w2 (hv.below hB)).mono ?_
  rintro e w3 ⟨hb, ⟨hland, rfl⟩ | ⟨hno, rfl⟩⟩
  rotate_left
  · replace hB := below_next hB hb
    go_wp2_with fail
    go_ret
    exact ⟨rfl, below_alloc hB _⟩
  obtain ⟨o, cap0, rfl, hn1, hn2⟩ := hv.below hB
  obtain ⟨c1, c2, c3, c4, c5, c6, c7⟩ := hland
  have hm1 := Int.mul_le_mul c1 c2 (by omega) (by omega)
  obtain ⟨ad, rfl, hr⟩ := hn2 (by omega)
  replace hr := hr.below hb
  replace hB := below_next hB hb
  obtain ⟨wn, rfl⟩ : ∃ wn : Nat, w = wn := ⟨w.toNat, by omega⟩
  obtain ⟨hn, rfl⟩ : ∃ hn : Nat, h = hn := ⟨h.toNat, by omega⟩
  have c8 : n = wn * hn := by have : ((wn * hn : Nat) : Int) = wn * hn := by { push_cast; rfl }; omega
  subst c8
  have HC := Lib.hid c6
  have hM := fun j hj => mayB_iff.1 (c7 j hj)
  have hmay : MayF (fun x y => u ((y * (wn : Int) + x).toNat)) wn hn := fun x y b0 b1 b2 b3 => by
    have := idx_lt b0 b1 b2 b3
    exact hM _ (by omega)
  have HM := Lib.hid hM
  have HMAY := Lib.hid hmay
  clear hb hv hn2 c6 c7 hm1 c5 hn1 hM hmay
  obtain ⟨N, hN⟩ : ∃ N, wn * hn = N := ⟨_, rfl⟩
  rw [hN] at hr HC HM ⊢
  have HN := Lib.hid hN
  clear hN
  by_cases hk1 : k < 1
  · have t1 := decide_eq_true hk1
    go_wp2_with fail
    go_ret
    exact ⟨rfl, below_alloc hB _⟩
  have t1 := decide_eq_false hk1
  go_wp2_with fail
  have nM := blk_new w3 (.cells #[.int .i64 (wn : Int), .int .i64 (hn : Int), .slice (some ad) N cap0] 27)
  have hb := below_alloc1 w3 (.cells #[.int .i64 (wn : Int), .int .i64 (hn : Int), .slice (some ad) N cap0] 27)
  obtain ⟨w4, hw4⟩ : ∃ w4, w3.alloc (.cells #[.int .i64 (wn : Int), .int .i64 (hn : Int), .slice (some ad) N cap0] 27) = w4 := ⟨_, rfl⟩
  obtain ⟨M, hM⟩ : ∃ M, w3.heap.size = M := ⟨_, rfl⟩
  rw [hM] at nM
  rw [hw4] at nM hb
  rw [hM, hw4]
  replace hr := hr.below hb
  replace hB := below_next hB hb
  clear hb hw4 hM
  have hLb := levs_bd (w := wn) (h := hn) (by omega) (by omega) (by omega) (by omega)
  have hsz := ref15_sizes_ok wn hn w4 (by omega) (by omega) (by omega) (by omega)
  unfold SizesOut at hsz
  obtain ⟨L, hLe⟩ : ∃ L, levs wn hn = L := ⟨_, rfl⟩
  have HL := Lib.hid hLe
  rw [hLe] at hLb hsz
  have HSZ := Lib.hid hsz
  clear hLe hsz
  refine (HSZ.out).mono ?_
  rintro e w5 ⟨k0, capl, cs, rfl, hcap, hk0, hb, hrow, hcs⟩
  replace hr := hr.below hb
  replace hB := below_next hB hb
  clear hb hrow hcs hcap hk0 nM HSZ
  by_cases hkL : (L : Int) ≤ k
  · have t2 := decide_eq_true hkL
    go_wp2_with fail
    go_ret
    exact ⟨rfl, hB⟩
  have t2 := decide_eq_false hkL
  obtain ⟨kk, rfl⟩ : ∃ kk : Nat, k = kk := ⟨k.toNat, by omega⟩
  obtain ⟨k1, hkk⟩ : ∃ k1 : Nat, kk = k1 + 1 := ⟨kk - 1, by omega⟩
  have wk : wrap64 ((kk : Int) - 1) = (k1 : Int) := by rw [wrap64_id (by omega) (by omega)]; omega

  have HKK := Lib.hid hkk
  have t3 : decide (L ≤ kk) = false := decide_eq_false (by omega)
  have hkl2 : Hid (kk < levs wn hn) := by
    show kk < levs wn hn
    rw [HL.out]; omega
  clear hkk hk1 hkL
  go_wp2_with fail
  have hm7 := made_ok wn hn w5 (by omega) (by omega) (by omega) (by omega) ad cap0 u (by rw [HN.out]; exact HM.out) (by rw [HN.out]; exact hr)
  rw [HN.out] at hm7
  refine hm7.mono ?_
  clear hm7
  rintro e w6 ⟨g, Fg, rfl, hb, hFg, HG0⟩
  have hB6 := below_next hB hb
  obtain ⟨f, hf⟩ : ∃ f : Int → Int → Int, (fun x y => u ((y * (wn : Int) + x).toNat)) = f := ⟨_, rfl⟩
  rw [hf] at HG0
  have hmf := HMAY.out
  rw [hf] at hmf
  have HMF := Lib.hid hmf
  have HG := Lib.hid HG0
  clear hb hB hFg hr HG0 hmf hf HMAY HM
  go_wp2_with fail
  go_loopg [12] 2 (fun q v12 wr => ∃ j : Nat, Hid (j + q = 2) ∧ v12 = .int .i64 (j : Int) ∧ Below w6.heap.size w6 wr)
  case atStart => exact ⟨0, Nat.zero_add _, rfl, Below.refl _ _⟩
  case round =>
    obtain ⟨j, hj, rfl, hbr⟩ := hrel
    cases gk with
    | succ m =>
      have hj2 : j < 2 := by have := hj.out; omega
      have ht : decide (j < 2) = true := decide_eq_true hj2
      have ht2 : decide ((j : Int) < 2) = true := decide_eq_true (by omega)
      have hj01 : Hid ((j : Int) = 0 ∨ (j : Int) = 1) := by
        show (j : Int) = 0 ∨ (j : Int) = 1
        omega
      have hjr : Hid (0 ≤ (j : Int) ∧ (j : Int) ≤ 2) := by
        show 0 ≤ (j : Int) ∧ (j : Int) ≤ 2
        omega
      go_wp2_with fail
      refine (level_good j g Fg wn hn kk f wr (HG.out.below hbr) hkl2.out HMF.out hjr.out).mono ?_
      rintro e wa ⟨ga, Fa, rfl, hba, hFa, HGa⟩
      have hb1 := hbr.trans (hba.mono hbr.size)
      clear hba hFa hbr
      go_wp2_with fail
      refine (level_good j g Fg wn hn k1 f wa (HG.out.below hb1) (by have := HKK.out; have := hkl2.out; omega) HMF.out hjr.out).mono ?_
      rintro e wb ⟨gb, Fb, rfl, hbb, hFb, HGb⟩
      have hb2 := hb1.trans (hbb.mono hb1.size)
      have HGa2 := Lib.hid (HGa.below hbb)
      clear hbb hFb hb1 HGa
      go_wp2_with fail
      refine (level_good j gb Fb (lw wn k1) (lw hn k1) 1 (downF j f wn hn k1) wb HGb (levs_one (by omega) (by omega) (by have := HKK.out; have := hkl2.out; omega)) (down_may HMF.out) hjr.out).mono ?_
      rintro e wc ⟨gc, Fc, rfl, hbc, hFc, HGc⟩
      have hb3 := hb2.trans (hbc.mono hb2.size)
      have HGa3 := Lib.hid (HGa2.out.below hbc)
      have HGc3 := Lib.hid HGc
      clear hbc hFc hb2 HGa2 HGb HGc
      go_wp2_with fail
      refine (grid_same_any ga gc Fa Fc _ _ _ _ _ _ wc HGa3.out HGc3.out).mono ?_
      rintro e wd ⟨r, rfl, hrr, hbd⟩
      have hr9 : r = true := hrr.2 ⟨by rw [lw_lw, ← HKK.out], by rw [lw_lw, ← HKK.out], fun X Y b0 b1 b2 b3 => by
        rw [HKK.out] at b1 b3 ⊢
        exact down_step hj01.out b0 b1 b2 b3⟩
      subst hr9
      have hb4 := hb3.trans (hbd.mono hb3.size)
      clear hbd hrr hb3 HGa3 HGc3
      go_wp2_with fail
      go_roundg m
      case measure => omega
      case rel => exact ⟨j + 1, by have := hj.out; exact (show j + 1 + m = 2 by omega), congrArg (Value.int .i64) (by push_cast; omega), hb4⟩
    | zero =>
      have ej : j = 2 := hj.out
      subst ej
      have hB7 := below_next hB6 hbr
      have hG7 := HG.out.below hbr
      clear hbr HG hB6
      go_wp2_with fail
      refine (level_good 0 g Fg wn hn kk f wr hG7 hkl2.out HMF.out (by omega)).mono ?_
      rintro e wl0 ⟨g0, F0, rfl, hb, hF0, HG0⟩
      have hB70 := below_next hB7 hb
      replace hG7 := hG7.below hb
      replace hB7 := hB70
      clear hb hF0 hB70
      go_wp2_with fail
      refine (level_good 1 g Fg wn hn kk f wl0 hG7 hkl2.out HMF.out (by omega)).mono ?_
      rintro e wl1 ⟨g1, F1, rfl, hb, hF1, HG1⟩
      have hB71 := below_next hB7 hb
      replace HG0 := HG0.below hb
      replace hG7 := hG7.below hb
      replace hB7 := hB71
      clear hb hF1 hB71
      go_wp2_with fail
      refine (level_good 2 g Fg wn hn kk f wl1 hG7 hkl2.out HMF.out (by omega)).mono ?_
      rintro e wl2 ⟨g2, F2, rfl, hb, hF2, HG2⟩
      have hB72 := below_next hB7 hb
      replace HG0 := HG0.below hb
      replace HG1 := HG1.below hb
      replace hG7 := hG7.below hb
      replace hB7 := hB72
      clear hb hF2 hB72
      clear hG7
      have bw := lw_bd (w := wn) (by omega) kk
      have bh := lw_bd (w := hn) (by omega) kk
      obtain ⟨rw, hrw⟩ : ∃ rw : Nat, (rw : Int) = lw wn kk := ⟨(lw wn kk).toNat, by omega⟩
      obtain ⟨rh, hrh⟩ : ∃ rh : Nat, (rh : Int) = lw hn kk := ⟨(lw hn kk).toNat, by omega⟩
      have HRWH := Lib.hid (And.intro hrw hrh)
      have hrr1 : (rw : Int) = lw wn kk - 1 - 0 + 1 := by omega
      have hrr2 : (rh : Int) = lw hn kk - 1 - 0 + 1 := by omega
      have z1 : 0 ≤ lw wn kk - 1 := by omega
      have z2 : lw wn kk - 1 < lw wn kk := by omega
      have z3 : 0 ≤ lw hn kk - 1 := by omega
      have z4 : lw hn kk - 1 < lw hn kk := by omega
      have hmul := Nat.mul_le_mul (show rw ≤ 1024 by omega) (show rh ≤ 1024 by omega)
      clear hrw hrh bw bh
      go_wp2_with fail
      refine (grid_All_ok g0 F0 _ _ _ wl2 HG0).mono ?_
      rintro e wq0 ⟨rfl, hb⟩
      have hB80 := below_next hB7 hb
      replace HG0 := HG0.below hb
      replace HG1 := HG1.below hb
      replace HG2 := HG2.below hb
      clear hb
      go_wp2_with fail
      refine (grid_Values_ok g0 F0 (lw wn kk) (lw hn kk) 0 0 (lw wn kk - 1) (lw hn kk - 1) _ wq0 HG0 (by omega) z1 z2 (by omega) z3 z4 rw rh hrr1 hrr2).mono ?_
      rintro e wv0 ⟨kv0, cv0, cs0, rfl, hcv0, _, hb, hrow0, hcs0⟩
      replace hB7 := below_next hB80 hb
      have hv0 := Lib.hid (RowAt.of_blk hrow0 hcs0)
      replace HG1 := HG1.below hb
      replace HG2 := HG2.below hb
      clear hb hrow0 hcs0 HG0 hB80
      go_wp2_with fail
      refine (grid_All_ok g1 F1 _ _ _ wv0 HG1).mono ?_
      rintro e wq1 ⟨rfl, hb⟩
      have hB81 := below_next hB7 hb
      replace HG1 := HG1.below hb
      replace HG2 := HG2.below hb
      replace hv0 := Lib.hid (hv0.out.below hb)
      clear hb
      go_wp2_with fail
      refine (grid_Values_ok g1 F1 (lw wn kk) (lw hn kk) 0 0 (lw wn kk - 1) (lw hn kk - 1) _ wq1 HG1 (by omega) z1 z2 (by omega) z3 z4 rw rh hrr1 hrr2).mono ?_
      rintro e wv1 ⟨kv1, cv1, cs1, rfl, hcv1, _, hb, hrow1, hcs1⟩
      replace hB7 := below_next hB81 hb
      have hv1 := Lib.hid (RowAt.of_blk hrow1 hcs1)
      replace HG2 := HG2.below hb
      replace hv0 := Lib.hid (hv0.out.below hb)
      clear hb hrow1 hcs1 HG1 hB81
      go_wp2_with fail
      refine (grid_All_ok g2 F2 _ _ _ wv1 HG2).mono ?_
      rintro e wq2 ⟨rfl, hb⟩
      have hB82 := below_next hB7 hb
      replace HG2 := HG2.below hb
      replace hv0 := Lib.hid (hv0.out.below hb)
      replace hv1 := Lib.hid (hv1.out.below hb)
      clear hb
      go_wp2_with fail
      refine (grid_Values_ok g2 F2 (lw wn kk) (lw hn kk) 0 0 (lw wn kk - 1) (lw hn kk - 1) _ wq2 HG2 (by omega) z1 z2 (by omega) z3 z4 rw rh hrr1 hrr2).mono ?_
      rintro e wv2 ⟨kv2, cv2, cs2, rfl, hcv2, _, hb, hrow2, hcs2⟩
      replace hB7 := below_next hB82 hb
      have hv2 := Lib.hid (RowAt.of_blk hrow2 hcs2)
      replace hv0 := Lib.hid (hv0.out.below hb)
      replace hv1 := Lib.hid (hv1.out.below hb)
      clear hb hrow2 hcs2 HG2 hB82
      clear z1 z2 z3 z4 hrr1 hrr2
      have hmid : Hid (∀ i, i < rw * rh → rowG (downF 0 f wn hn kk) 0 0 rw i ≤ rowG (downF 2 f wn hn kk) 0 0 rw i ∧ rowG (downF 2 f wn hn kk) 0 0 rw i ≤ rowG (downF 1 f wn hn kk) 0 0 rw i) := by
        intro i hi
        have hp : 0 < rw := by
          rcases Nat.eq_zero_or_pos rw with e | e
          · rw [e, Nat.zero_mul] at hi; omega
          · exact e
        have a1 := Nat.mod_lt i hp
        have a2 : i / rw < rh := Nat.div_lt_of_lt_mul hi
        have e1 := HRWH.out.1
        have e2 := HRWH.out.2
        unfold rowG
        generalize i % rw = I at *
        generalize i / rw = J at *
        exact down_mean (by omega) (by omega) (by omega) (by omega)
      obtain ⟨Q, hQ⟩ : ∃ Q, rw * rh = Q := ⟨_, rfl⟩
      rw [hQ] at hmid hv0 hv1 hv2 hmul hcv0 hcv1 hcv2 ⊢
      obtain ⟨X, hX⟩ : ∃ X, rowG (downF 0 f wn hn kk) 0 0 rw = X := ⟨_, rfl⟩
      obtain ⟨Y, hY⟩ : ∃ Y, rowG (downF 1 f wn hn kk) 0 0 rw = Y := ⟨_, rfl⟩
      obtain ⟨Z, hZ⟩ : ∃ Z, rowG (downF 2 f wn hn kk) 0 0 rw = Z := ⟨_, rfl⟩
      rw [hX, hY, hZ] at hmid
      rw [hX] at hv0
      rw [hY] at hv1
      rw [hZ] at hv2
      clear hX hY hZ hQ
      go_wp2_with fail
      go_loopg [31] Q (fun q v31 wr => ∃ j : Nat, Hid (j + q = Q) ∧ v31 = .int .i64 (j : Int) ∧ Below wv2.heap.size wv2 wr)
      case atStart => exact ⟨0, Nat.zero_add _, rfl, Below.refl _ _⟩
      case round =>
        obtain ⟨i, hi, rfl, hbr⟩ := hrel
        cases gk with
        | zero =>
          have ei : i = Q := hi.out
          have ht : decide (i < Q) = false := decide_eq_false (by omega)
          have ht2 : decide ((i : Int) < (Q : Int)) = false := decide_eq_false (by omega)
          go_wp2_with fail
          go_ret
          exact ⟨rfl, below_next hB7 hbr⟩
        | succ m =>
          have hiq : i < Q := by have := hi.out; omega
          have ht : decide (i < Q) = true := decide_eq_true hiq
          have ht2 : decide ((i : Int) < (Q : Int)) = true := decide_eq_true (by omega)
          have hiq2 : (i : Int) < (Q : Int) := by omega
          have c0 := (hv0.out.below hbr) i hiq
          have c1 := (hv1.out.below hbr) i hiq
          have c2 := (hv2.out.below hbr) i hiq
          rw [add_plain] at c0 c1 c2
          have q0 := fun d os => cell_regrown c0 d os
          have q1 := fun d os => cell_regrown c1 d os
          have q2 := fun d os => cell_regrown c2 d os
          have hm := hmid.out i hiq
          have t3 : decide (Z i < X i) = false := decide_eq_false (by omega)
          have t4 : decide (Y i < Z i) = false := decide_eq_false (by omega)
          clear hm c0 c1 c2
          go_wp2_with fail
          refine wp_quiet (by kernel_rfl) (by kernel_rfl) ?_
          repeat (go_big_quiet_step ((first | fail)))
          refine wpQuiet_nil ?_
          intro w11 hb11
          have hb12 := hbr.trans (hb11.mono hbr.size)
          clear q0 q1 q2
          go_wp2_with fail
          go_roundg m
          case measure => omega
          case rel => exact ⟨i + 1, by have := hi.out; exact (show i + 1 + m = Q by omega), congrArg (Value.int .i64) (by push_cast; omega), hb12⟩
end Go.Proofs.Ytgofkgmhpnkchaa

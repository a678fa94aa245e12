/- hachurelaw16.PyrParts: the walk. -/
import Derived.Test.YtgfcffaoiladmaaAwake16
import Derived.Test.YtgfcffaoiladmaaMade
import Derived.Test.YtgfcffaoiladmaaHas07
set_option linter.unusedVariables false
set_option linter.unusedSimpArgs false
namespace Go.Proofs.Ytgfcffaoiladmaa
open Go.RowKit

theorem PyrAt.lt {W : World} {p : Nat} {F : Nat → Prop} {w h : Int} {f : Int → Int → Int} (H : PyrAt W p F w h f) : ∀ k, F k → k < W.heap.size := by
  obtain ⟨A, cap, ps, s, H⟩ := H
  exact H.lt
/-- A model's values grow. -/
def GrowSt (w9 : World) (D : Nat) (w h : Int) (g : Nat → Int) (j : Nat) (wr : World) : Prop :=
  ∃ vj, wr.heap[D]? = some (.cells #[.int .i64 w, .int .i64 h, vj] 27 (0, 0)) ∧ Hid (wr.ownsRow w9.heap.size 2 1 vj j (vals g j)) ∧ Mod (fun k => k = D) w9 wr

set_option maxHeartbeats 4000000 in
set_option maxRecDepth 100000 in
theorem parts_any (w h x0 y0 x1 y1 : Int) (v v2 : Value) (n n2 : Nat) (u u2 : Nat → Int) (W : World) (hv : ArgAt W v n u) (hv2 : ArgAt W v2 n2 u2) :
    Calls Try.prog 3 #[.int .i64 w, .int .i64 h, v, v2, .agg #[.int .i64 x0, .int .i64 y0, .int .i64 x1, .int .i64 y1]] W fun e W' => e = .returned (.bool true) ∧ Below W.heap.size W W' := by
  go_enter Try.func3, Try.ntmps3
  go_wp2_with fail
  have hB := below_alloc1 W (.cells #[.int .i64 x0, .int .i64 y0, .int .i64 x1, .int .i64 y1] 24)
  have n9 := blk_new W (.cells #[.int .i64 x0, .int .i64 y0, .int .i64 x1, .int .i64 y1] 24)
  refine (awake16_ok _).mono ?_
  rintro e w2 ⟨rfl, hb⟩
  replace n9 := below_blk hb n9
  replace hB := below_next hB hb
  clear hb
  go_wp2_with fail
  refine (land_any w h 1000 v n u w2 (hv.below hB)).mono ?_
  rintro e w3 ⟨hb, ⟨hland, rfl⟩ | ⟨hno, rfl⟩⟩
  rotate_left
  · replace hB := below_next hB hb
    obtain ⟨o2, cap2, rfl, hn3, hn4⟩ := hv2
    have hv2 : ArgAt W (.slice o2 n2 cap2) n2 u2 := ⟨o2, cap2, rfl, hn3, hn4⟩
    go_wp2_with fail
    refine (land_any w h 1000 (.slice o2 n2 cap2) n2 u2 _ (hv2.below (below_alloc hB _))).mono ?_
    rintro e w4 ⟨hb4, ⟨_, rfl⟩ | ⟨_, rfl⟩⟩
    · go_wp2_with fail
      go_ret
      exact ⟨rfl, below_alloc (below_next (below_alloc hB _) hb4) _⟩
    · go_wp2_with fail
      go_ret
      exact ⟨rfl, below_alloc (below_next (below_alloc hB _) hb4) _⟩
  replace hB := below_next hB hb
  replace n9 := below_blk hb n9
  obtain ⟨o, cap0, rfl, hn1, hn2⟩ := hv.below hB
  obtain ⟨c1, c2, c3, c4, c5, c6, c7⟩ := hland
  have hm1 := Int.mul_le_mul c1 c2 (by omega) (by omega)
  obtain ⟨ad, rfl, hr⟩ := hn2 (by omega)
  obtain ⟨wn, rfl⟩ : ∃ wn : Nat, w = wn := ⟨w.toNat, by omega⟩
  obtain ⟨hn, rfl⟩ : ∃ hn : Nat, h = hn := ⟨h.toNat, by omega⟩
  have c8 : n = wn * hn := by have : ((wn * hn : Nat) : Int) = wn * hn := by { push_cast; rfl }; omega
  subst c8
  have HC := Lib.hid c6
  have HM := Lib.hid (fun j hj => mayB_iff.1 (c7 j hj))
  clear hb hv hn2 c6 c7 c5
  go_wp2_with fail
  have nM := blk_new w3 (.cells #[.int .i64 (wn : Int), .int .i64 (hn : Int), .slice (some ad) (wn * hn) cap0] 27)
  have hb := below_alloc1 w3 (.cells #[.int .i64 (wn : Int), .int .i64 (hn : Int), .slice (some ad) (wn * hn) cap0] 27)
  obtain ⟨w4, hw4⟩ : ∃ w4, w3.alloc (.cells #[.int .i64 (wn : Int), .int .i64 (hn : Int), .slice (some ad) (wn * hn) cap0] 27) = w4 := ⟨_, rfl⟩
  obtain ⟨M, hM⟩ : ∃ M, w3.heap.size = M := ⟨_, rfl⟩
  have hMW : W.heap.size ≤ M := by have := hB.size; omega
  rw [hM] at nM
  rw [hw4] at nM hb
  rw [hM, hw4]
  replace hr := hr.below hb
  replace n9 := below_blk hb n9
  replace hB := below_next hB hb
  clear hb hw4 hM
  refine (land_any wn hn 1000 v2 n2 u2 w4 (hv2.below hB)).mono ?_
  rintro e w5 ⟨hb, ⟨hland, rfl⟩ | ⟨hno, rfl⟩⟩
  rotate_left
  · replace hB := below_next hB hb
    go_wp2_with fail
    go_ret
    exact ⟨rfl, below_alloc hB _⟩
  replace hB := below_next hB hb
  replace n9 := below_blk hb n9
  replace nM := below_blk hb nM
  replace hr := hr.below hb
  obtain ⟨o2, cap2, rfl, hn3, hn4⟩ := hv2.below hB
  obtain ⟨d1, d2, d3, d4, d5, c6, c7⟩ := hland
  obtain ⟨ad2, rfl, hr2⟩ := hn4 (by omega)
  have c8 : n2 = wn * hn := by have : ((wn * hn : Nat) : Int) = wn * hn := by { push_cast; rfl }; omega
  subst c8
  have HM2 := Lib.hid (fun j hj => mayB_iff.1 (c7 j hj))
  clear hb hv2 hn4 c6 c7 hn3 d1 d2 d3 d4 d5 hm1
  have ka := fun o => cells_w (below_blk (below_alloc1 w5 o) n9) 0 rfl
  have kb := fun o => cells_w (below_blk (below_alloc1 w5 o) n9) 1 rfl
  have kc := fun o => cells_w (below_blk (below_alloc1 w5 o) n9) 2 rfl
  have kd := fun o => cells_w (below_blk (below_alloc1 w5 o) n9) 3 rfl
  go_wp2_with fail
  clear ka kb kc kd
  have hb := below_alloc1 w5 (.cells #[.int .i64 (wn : Int), .int .i64 (hn : Int), .slice (some ad2) (wn * hn) cap2] 27)
  refine (within07_any x0 y0 x1 y1 wn hn _ (by omega) (by omega) (by omega) (by omega)).mono ?_
  rintro e w6 ⟨rfl, hb6⟩
  replace hb := below_next hb hb6
  replace hB := below_next hB hb
  replace n9 := below_blk hb n9
  replace nM := below_blk hb nM
  replace hr := hr.below hb
  replace hr2 := hr2.below hb
  clear hb hb6
  by_cases hwi : withinC x0 y0 x1 y1 wn hn = 0
  rotate_left
  · have hwb : (withinC x0 y0 x1 y1 wn hn != 0) = true := by simp [hwi]
    clear hwi
    go_wp2_with fail
    go_ret
    exact ⟨rfl, hB⟩
  have hwr := withinC_ok.1 hwi
  obtain ⟨a0, a1, a2, a3, a4, a5⟩ := hwr
  rw [hwi]
  clear hwi
  go_wp2_with fail
  obtain ⟨N, hN⟩ : ∃ N, wn * hn = N := ⟨_, rfl⟩
  rw [hN] at hr hr2 HC HM HM2 nM ⊢
  have HN := Lib.hid hN
  clear hN
  have hN1 : 1 ≤ N := by have h8 := Nat.mul_le_mul (show 1 ≤ wn by omega) (show 1 ≤ hn by omega); have := HN.out; omega
  have hN2 : N ≤ 1048576 := by have h8 := Nat.mul_le_mul (show wn ≤ 1024 by omega) (show hn ≤ 1024 by omega); have := HN.out; omega
  have hadW : ad.block < w6.heap.size := by
    have := World.block_lt_of_cell? w6 _ (hr 0 (by omega))
    rwa [add_block] at this
  have had2W : ad2.block < w6.heap.size := by
    have := World.block_lt_of_cell? w6 _ (hr2 0 (by omega))
    rwa [add_block] at this
  have hMlt := blk_lt nM
  have hm7 := made_ok wn hn w6 (by omega) (by omega) (by omega) (by omega) ad cap0 u (by rw [HN.out]; exact HM.out) (by rw [HN.out]; exact hr)
  rw [HN.out] at hm7
  refine hm7.mono ?_
  clear hm7
  rintro e w7 ⟨ga, Fa, rfl, hb, hFa, HGa⟩
  replace hr := hr.below hb
  replace hr2 := hr2.below hb
  replace n9 := below_blk hb n9
  replace nM := below_blk hb nM
  replace hB := below_next hB hb
  have hs7 := hb.size
  clear hb
  go_wp2_with fail
  have hm8 := made_ok wn hn w7 (by omega) (by omega) (by omega) (by omega) ad2 cap2 u2 (by rw [HN.out]; exact HM2.out) (by rw [HN.out]; exact hr2)
  rw [HN.out] at hm8
  refine hm8.mono ?_
  clear hm8
  rintro e w8 ⟨gb, Fb, rfl, hb, hFb, HGb⟩
  replace hr := hr.below hb
  replace hr2 := hr2.below hb
  replace n9 := below_blk hb n9
  replace nM := below_blk hb nM
  replace hB := below_next hB hb
  replace HGa := HGa.below hb
  have hs8 := hb.size
  clear hb
  go_wp2_with fail
  refine (build_ok ga Fa wn hn _ w8 HGa).mono ?_
  rintro e w9 ⟨p, Fp, rfl, hb, hFp, HP⟩
  replace hr := hr.below hb
  replace hr2 := hr2.below hb
  replace n9 := below_blk hb n9
  replace nM := below_blk hb nM
  replace hB := below_next hB hb
  replace HGb := HGb.below hb
  have hs9 := hb.size
  clear hb
  have k_0 := cells_w n9 0 rfl
  have k_1 := cells_w n9 1 rfl
  have k_2 := cells_w n9 2 rfl
  have k_3 := cells_w n9 3 rfl
  go_wp2_with fail
  refine (repair_ok p Fp gb Fb wn hn x0 y0 x1 y1 _ _ w9 HP HGb a0 a1 a2 a3 a4 a5).mono ?_
  rintro e w10 ⟨rfl, hM10, HP10⟩
  replace n9 := hM10.blk n9 (fun ht => by have := hFp _ ht; omega)
  replace nM := hM10.blk nM (fun ht => by have := hFp _ ht; omega)
  replace hr := hr.mod hM10 (fun ht => by have := hFp _ ht; omega)
  replace hr2 := hr2.mod hM10 (fun ht => by have := hFp _ ht; omega)
  have hB10 := hB.trans (hM10.below hB.size (fun t ht => by have := hFp t ht; have := hB.size; omega))
  have hs10 := hM10.size
  clear k_0 k_1 k_2 k_3 hM10 HP HGa HGb hB
  go_wp2_with fail
  obtain ⟨D, hD⟩ : ∃ D, w10.heap.size = D := ⟨_, rfl⟩
  have nD := blk_new w10 (.cells #[.int .i64 (wn : Int), .int .i64 (hn : Int), .slice none 0 0] 27)
  have hb11 := below_alloc1 w10 (.cells #[.int .i64 (wn : Int), .int .i64 (hn : Int), .slice none 0 0] 27)
  obtain ⟨w11, hw11⟩ : ∃ w11, w10.alloc (.cells #[.int .i64 (wn : Int), .int .i64 (hn : Int), .slice none 0 0] 27) = w11 := ⟨_, rfl⟩
  rw [hD, hw11] at nD
  rw [hw11] at hb11
  rw [hD, hw11]
  have hDlt := blk_lt nD
  have HP11 := Lib.hid (HP10.below hb11)
  have hB11 := below_next hB10 hb11
  have HB11 := Lib.hid hB11
  replace n9 := below_blk hb11 n9
  replace nM := below_blk hb11 nM
  have hr11 := hr.below hb11
  have hr211 := hr2.below hb11
  have HR1 := Lib.hid hr11
  have HR2 := Lib.hid hr211
  have hFpD : ∀ t, Fp t → t ≠ D := fun t ht => by have := HP10.lt t ht; omega
  have HFPD := Lib.hid hFpD
  obtain ⟨mx, hmx⟩ : ∃ mx, mixF x0 y0 x1 y1 (fun x y => u2 ((y * (wn : Int) + x).toNat)) (fun x y => u ((y * (wn : Int) + x).toNat)) = mx := ⟨_, rfl⟩
  rw [hmx] at HP11
  have HMX := Lib.hid hmx
  have hDW : W.heap.size ≤ D := by have := hB10.size; omega
  clear hw11
  have hw11 : W.heap.size ≤ w11.heap.size := by have := hB11.size; omega
  have wm : wrap64 ((wn : Int) * (hn : Int)) = (N : Int) := by rw [← HC.out, wrap64_id (by omega) (by omega)]
  have HWM := Lib.hid wm
  clear wm
  have hne1 : ad.block ≠ D := by omega
  have hne2 : ad2.block ≠ D := by omega
  have hne3 : W.heap.size ≠ D := by have := blk_lt n9; omega
  have hne4 : M ≠ D := by omega
  have HNE := Lib.hid (And.intro hne1 (And.intro hne2 (And.intro hne3 hne4)))
  clear hmx hFpD hr hr2 hr11 hr211 HP10 hB10 hb11 hD hB11 hne1 hne2 hne3 hne4 hFa hFb hFp hs7 hs8 hs9 hs10 hadW had2W hMlt hMW hn1
  go_loopg [22] N (fun q v22 wr => ∃ i : Nat, Hid (i + q = N) ∧ v22 = .int .i64 (i : Int) ∧ GrowSt w11 D wn hn (lin mx wn) i wr)
  case atStart => exact ⟨0, Nat.zero_add _, rfl, _, nD, World.ownsRow_nil w11 w11.heap.size 2 1, Mod.refl _ _⟩
  case round =>
    obtain ⟨i, hi, rfl, vj, nr, hown, hM⟩ := hrel
    cases gk with
    | zero =>
      have ht : decide (i < N) = false := decide_eq_false (by have := hi.out; omega)
      have ht2 : decide ((i : Int) < wrap64 ((wn : Int) * (hn : Int))) = false := by rw [HWM.out]; exact decide_eq_false (by have := hi.out; omega)
      obtain ⟨k9, cap9, cs9, hv9, hc1, hc2, hc3, hc4⟩ := own_row hown.out (by have := hi.out; omega)
      subst hv9
      have ei : i = N := hi.out
      subst ei
      have hrow9 : RowAt wr ⟨k9, 0, none⟩ i (lin mx wn) := RowAt.of_blk hc3 (fun j hj => hc4 j _ (vals_get _ hj))
      have HRW := Lib.hid hrow9
      have HPr : PyrAt wr p Fp wn hn (fun x y => lin mx wn ((y * (wn : Int) + x).toNat)) := (HP11.out.mod hM (fun t h1 h2 => HFPD.out t h1 h2)).congr (fun x y b0 b1 b2 b3 => lin_idx b0 b1 b2)
      have HPR := Lib.hid HPr
      have hBr := HB11.out.trans (hM.below hw11 (fun t ht => by omega))
      clear hc1 hc2 hc3 hc4 hrow9 HPr
      have k_0 := cells_w nr 0 rfl
      have k_1 := cells_w nr 1 rfl
      have k_2 := cells_w nr 2 rfl
      go_wp2_with fail
      refine (over_ok p Fp ⟨k9, 0, none⟩ cap9 i (lin mx wn) wn hn wr HPR.out HC.out HRW.out).mono ?_
      rintro e w12 ⟨rfl, hb⟩
      go_wp2_with fail
      go_ret
      exact ⟨rfl, below_next hBr hb⟩
    | succ q =>
      have hlt : i < N := by have := hi.out; omega
      have hlti : (i : Int) < (N : Int) := by omega
      have ht : decide (i < N) = true := decide_eq_true hlt
      have ht2 : decide ((i : Int) < wrap64 ((wn : Int) * (hn : Int))) = true := by rw [HWM.out]; exact decide_eq_true hlti
      have r9 := hM.blk n9 HNE.out.2.2.1
      have hlin := lin_at (w := wn) (h := hn) (i := i) (by omega) (by rw [← HC.out]; omega)
      have hgi : lin mx wn i = if inR x0 y0 x1 y1 ((i : Int) % (wn : Int)) ((i : Int) / (wn : Int)) then u2 i else u i := by
        unfold lin
        rw [← HMX.out]
        unfold mixF
        dsimp only
        rw [hlin.2.2.2.2, Int.toNat_natCast]
      have HGI := Lib.hid hgi
      have u3 : IntKind.i64.wrap ((i : Int) / (wn : Int)) = (i : Int) / (wn : Int) := IntWalk.i64_in _ (by omega)
      clear hgi hlin
      have k_0 := cells_q r9 0 rfl
      have k_1 := cells_q r9 1 rfl
      have k_2 := cells_q r9 2 rfl
      have k_3 := cells_q r9 3 rfl
      go_wp2_with fail
      by_cases hin : inR x0 y0 x1 y1 ((i : Int) % (wn : Int)) ((i : Int) / (wn : Int))
      · have HIN := Lib.hid hin
        have HGV : Hid (lin mx wn i = u2 i) := by have h8 := HGI.out; rw [if_pos hin] at h8; exact h8
        clear hin HGI
        refine wp_quiet (by kernel_rfl) (by kernel_rfl) ?_
        repeat (go_big_quiet_step ((first | (go_at_call 16; exact Calls.quiet (has07_in x0 y0 x1 y1 _ _ _ a0 a1 (by omega) a3 a4 (by omega) HIN.out)))))
        refine wpQuiet_nil ?_
        intro w5' hb5
        clear k_0 k_1 k_2 k_3
        have hM5 := hM.then_below hb5
        have n5 := below_blk hb5 nr
        have hown5 := own_below hown.out hb5
        have cP := cells_w n5 2 rfl
        have cP1 := fun o => cell_alloc (o := o) cP
        have cR1 := (HR1.out.mod hM5 HNE.out.1) i hlt
        have cR2 := (HR2.out.mod hM5 HNE.out.2.1) i hlt
        have nM5 := hM5.blk nM HNE.out.2.2.2
        have cM := cells_w nM5 2 rfl
        have HOW := Lib.hid hown5
        have HN5 := Lib.hid n5
        have HM5 := Lib.hid hM5
        have hs5 := hM5.size
        have HOP : Hid (∀ k, vj.ownBlock = some k → k ≠ D) := fun k hk e => by have := (hown5.lt k hk).1; omega
        clear hown5 n5 hM5 hown hM nr r9 hb5
        go_wp2_with fail
        go_region_law
          (first | (refine step_append_own_new w11.heap.size rfl (.tmp 108) (.tmp 113) 22 2 _ 1 8 rfl Try.underlying22 info_int64 rfl (by omega) _ i _ [.int .i64 (u2 i)] rfl _ rfl (by first | exact blk_new_at (by simp) | exact blk_drew (blk_new_at (by simp))) rfl (by intro t ht; simp at ht; subst ht; rfl) (own_below HOW.out (by repeat (first | exact Below.refl _ _ | refine below_drew1 ?_ | refine below_alloc ?_ _))) (by simp; omega) (by omega) (by omega) ?_; rintro k8 cap8 w8' h8; have HN8 : Hid (w8'.heap[D]? = some (.cells #[.int .i64 (wn : Int), .int .i64 (hn : Int), vj] 27 (0, 0))) := h8.out.2.1.blk (by repeat (first | exact HN5.out | refine blk_drew ?_ | refine below_blk (below_alloc1 _ _) ?_)) (fun e => HOP.out D e rfl); have cP8 := cells_w HN8.out 2 rfl; have zP8 := blk_frozen HN8.out 2; have HO8 : Hid (w8'.ownsRow w11.heap.size 2 1 (.slice (some ⟨k8, 0, none⟩) (i + 1) cap8) (i + 1) (vals (lin mx wn) i ++ [.int .i64 (u2 i)])) := h8.out.1; have HM8 : Hid (Mod (fun k => vj.ownBlock = some k) w5' w8') := (Mod.of_below (by repeat (first | exact Below.refl _ _ | refine below_drew1 ?_ | refine below_alloc ?_ _))).trans h8.out.2.1 (fun _ x => .inl x); clear h8))
        all_goals
          clear cP cP1 cR1 cR2 cM cP8 zP8
          go_wp2_with fail
          go_roundg q
          case measure => omega
          case rel =>
            have hset : Mod (fun k => k = D) w8' (w8'.setCell ⟨D, 2, none⟩ (.slice (some ⟨k8, 0, none⟩) (i + 1) cap8)) := (Mod.refl (fun k => k = D) w8').setCell (p := ⟨D, 2, none⟩) (.inl rfl) _
            refine ⟨i + 1, by have := hi.out; exact (show i + 1 + q = N by omega), by first | rfl | (exact congrArg (Value.int .i64) (by push_cast; omega)), _, by simpa using blk_set HN8.out 2 (.slice (some ⟨k8, 0, none⟩) (i + 1) cap8), ?_, (HM5.out.trans HM8.out (fun k hk => .inr (HOW.out.lt k hk).1)).trans hset (fun k hk => .inl hk)⟩
            rw [vals_succ, HGV.out]
            exact own_mod HO8.out hset (fun k hk => by omega)
      · have HIN := Lib.hid hin
        have HGV : Hid (lin mx wn i = u i) := by have h8 := HGI.out; rw [if_neg hin] at h8; exact h8
        clear hin HGI
        refine wp_quiet (by kernel_rfl) (by kernel_rfl) ?_
        repeat (go_big_quiet_step ((first | (go_at_call 16; exact Calls.quiet (has07_out x0 y0 x1 y1 _ _ _ a0 a1 (by omega) a3 a4 (by omega) HIN.out)))))
        refine wpQuiet_nil ?_
        intro w5' hb5
        clear k_0 k_1 k_2 k_3
        have hM5 := hM.then_below hb5
        have n5 := below_blk hb5 nr
        have hown5 := own_below hown.out hb5
        have cP := cells_w n5 2 rfl
        have cP1 := fun o => cell_alloc (o := o) cP
        have cR1 := (HR1.out.mod hM5 HNE.out.1) i hlt
        have cR2 := (HR2.out.mod hM5 HNE.out.2.1) i hlt
        have nM5 := hM5.blk nM HNE.out.2.2.2
        have cM := cells_w nM5 2 rfl
        have HOW := Lib.hid hown5
        have HN5 := Lib.hid n5
        have HM5 := Lib.hid hM5
        have hs5 := hM5.size
        have HOP : Hid (∀ k, vj.ownBlock = some k → k ≠ D) := fun k hk e => by have := (hown5.lt k hk).1; omega
        clear hown5 n5 hM5 hown hM nr r9 hb5
        go_wp2_with fail
        go_region_law
          (first | (refine step_append_own_new w11.heap.size rfl (.tmp 117) (.tmp 123) 22 2 _ 1 8 rfl Try.underlying22 info_int64 rfl (by omega) _ i _ [.int .i64 (u i)] rfl _ rfl (by first | exact blk_new_at (by simp) | exact blk_drew (blk_new_at (by simp))) rfl (by intro t ht; simp at ht; subst ht; rfl) (own_below HOW.out (by repeat (first | exact Below.refl _ _ | refine below_drew1 ?_ | refine below_alloc ?_ _))) (by simp; omega) (by omega) (by omega) ?_; rintro k8 cap8 w8' h8; have HN8 : Hid (w8'.heap[D]? = some (.cells #[.int .i64 (wn : Int), .int .i64 (hn : Int), vj] 27 (0, 0))) := h8.out.2.1.blk (by repeat (first | exact HN5.out | refine blk_drew ?_ | refine below_blk (below_alloc1 _ _) ?_)) (fun e => HOP.out D e rfl); have cP8 := cells_w HN8.out 2 rfl; have zP8 := blk_frozen HN8.out 2; have HO8 : Hid (w8'.ownsRow w11.heap.size 2 1 (.slice (some ⟨k8, 0, none⟩) (i + 1) cap8) (i + 1) (vals (lin mx wn) i ++ [.int .i64 (u i)])) := h8.out.1; have HM8 : Hid (Mod (fun k => vj.ownBlock = some k) w5' w8') := (Mod.of_below (by repeat (first | exact Below.refl _ _ | refine below_drew1 ?_ | refine below_alloc ?_ _))).trans h8.out.2.1 (fun _ x => .inl x); clear h8))
        all_goals
          clear cP cP1 cR1 cR2 cM cP8 zP8
          go_wp2_with fail
          go_roundg q
          case measure => omega
          case rel =>
            have hset : Mod (fun k => k = D) w8' (w8'.setCell ⟨D, 2, none⟩ (.slice (some ⟨k8, 0, none⟩) (i + 1) cap8)) := (Mod.refl (fun k => k = D) w8').setCell (p := ⟨D, 2, none⟩) (.inl rfl) _
            refine ⟨i + 1, by have := hi.out; exact (show i + 1 + q = N by omega), by first | rfl | (exact congrArg (Value.int .i64) (by push_cast; omega)), _, by simpa using blk_set HN8.out 2 (.slice (some ⟨k8, 0, none⟩) (i + 1) cap8), ?_, (HM5.out.trans HM8.out (fun k hk => .inr (HOW.out.lt k hk).1)).trans hset (fun k hk => .inl hk)⟩
            rw [vals_succ, HGV.out]
            exact own_mod HO8.out hset (fun k hk => by omega)
end Go.Proofs.Ytgfcffaoiladmaa

/- hachurelaw16.PyrRepairs: the walk. -/
import Derived.Test.YtgfcffaoiladmaaAwake16
import Derived.Test.YtgfcffaoiladmaaMade
import Derived.Test.YtgfcffaoiladmaaPasteAny
import Derived.Test.YtgfcffaoiladmaaPyrSameOk
set_option linter.unusedVariables false
set_option linter.unusedSimpArgs false
namespace Go.Proofs.Ytgfcffaoiladmaa
open Go.RowKit

theorem PyrAt.lt' {W : World} {p : Nat} {F : Nat → Prop} {w h : Int} {f : Int → Int → Int} (H : PyrAt W p F w h f) : ∀ k, F k → k < W.heap.size := by
  obtain ⟨A, cap, ps, s, H⟩ := H
  exact H.lt
theorem ArgAt.block {W : World} {v : Value} {n : Nat} {u : Nat → Int} (H : ArgAt W v n u) (hn : 0 < n) : ∀ ad m c, v = .slice (some ad) m c → ad.block < W.heap.size := by
  intro ad m c e
  obtain ⟨o, cap, e2, _, h2⟩ := H
  obtain ⟨ad2, rfl, hr⟩ := h2 hn
  rw [e2] at e
  obtain ⟨h3, _, _⟩ := Value.slice.inj e
  have h4 : ad2 = ad := Option.some.inj h3
  have := World.block_lt_of_cell? W _ (hr 0 hn)
  rw [add_block, h4] at this
  exact this

theorem ArgAt.mod {S : Nat → Prop} {W W' : World} {v : Value} {n : Nat} {u : Nat → Int} (H : ArgAt W v n u) (hm : Mod S W W') (hn : 0 < n → ∀ ad m c, v = .slice (some ad) m c → ¬ S ad.block) : ArgAt W' v n u := by
  obtain ⟨o, cap, rfl, h1, h2⟩ := H
  exact ⟨o, cap, rfl, h1, fun h => by obtain ⟨ad, rfl, hr⟩ := h2 h; exact ⟨ad, rfl, hr.mod hm (hn h ad _ _ rfl)⟩⟩

set_option maxHeartbeats 4000000 in
set_option maxRecDepth 100000 in
theorem repairs_any (w h x0 y0 x1 y1 s0 t0 s1 t1 : Int) (v v2 : Value) (n n2 : Nat) (u u2 : Nat → Int) (W : World) (hv : ArgAt W v n u) (hv2 : ArgAt W v2 n2 u2) :
    Calls Try.prog 5 #[.int .i64 w, .int .i64 h, v, .agg #[.int .i64 x0, .int .i64 y0, .int .i64 x1, .int .i64 y1], v2, .agg #[.int .i64 s0, .int .i64 t0, .int .i64 s1, .int .i64 t1]] W fun e W' => e = .returned (.bool true) ∧ Below W.heap.size W W' := by
  have hv2' := hv2
  obtain ⟨o2, cap2, rfl, hn3, _⟩ := hv2'
  go_enter Try.func5, Try.ntmps5
  go_wp2_with fail
  have n9 := below_blk (below_alloc1 _ (.cells #[.int .i64 s0, .int .i64 t0, .int .i64 s1, .int .i64 t1] 24)) (blk_new W (.cells #[.int .i64 x0, .int .i64 y0, .int .i64 x1, .int .i64 y1] 24))
  have n11 := blk_new2 W (.cells #[.int .i64 x0, .int .i64 y0, .int .i64 x1, .int .i64 y1] 24) (.cells #[.int .i64 s0, .int .i64 t0, .int .i64 s1, .int .i64 t1] 24)
  have hB := below_alloc (below_alloc1 W (.cells #[.int .i64 x0, .int .i64 y0, .int .i64 x1, .int .i64 y1] 24)) (.cells #[.int .i64 s0, .int .i64 t0, .int .i64 s1, .int .i64 t1] 24)
  refine (awake16_ok _).mono ?_
  rintro e w2 ⟨rfl, hb⟩
  replace n9 := below_blk hb n9
  replace n11 := below_blk hb n11
  replace hB := below_next hB hb
  clear hb
  go_wp2_with fail
  refine (land_any w h 1000 v n u w2 (hv.below hB)).mono ?_
  rintro e w3 ⟨hb, ⟨hland, rfl⟩ | ⟨hno, rfl⟩⟩
  rotate_left
  · replace hB := below_next hB hb
    go_wp2_with fail
    go_ret
    exact ⟨rfl, below_alloc hB _⟩
  replace hB := below_next hB hb
  replace n9 := below_blk hb n9
  replace n11 := below_blk hb n11
  obtain ⟨o, cap0, rfl, hn1, hn2⟩ := hv.below hB
  obtain ⟨c1, c2, c3, c4, c5, c6, c7⟩ := hland
  have hm1 := Int.mul_le_mul c1 c2 (by omega) (by omega)
  obtain ⟨ad, rfl, hr⟩ := hn2 (by omega)
  obtain ⟨wn, rfl⟩ : ∃ wn : Nat, w = wn := ⟨w.toNat, by omega⟩
  obtain ⟨hn, rfl⟩ : ∃ hn : Nat, h = hn := ⟨h.toNat, by omega⟩
  have c8 : n = wn * hn := by have : ((wn * hn : Nat) : Int) = wn * hn := by { push_cast; rfl }; omega
  subst c8
  have HC := Lib.hid c6
  have HM := Lib.hid (fun j hj => mayB_iff.1 (c7 j hj))
  clear hb hv hn2 c6 c7 c5 hm1 hn1
  obtain ⟨N, hN⟩ : ∃ N, wn * hn = N := ⟨_, rfl⟩
  rw [hN] at hr HC HM ⊢
  have HN := Lib.hid hN
  clear hN
  by_cases hlong : 1500 < n2
  · have hd := decide_eq_true hlong
    have hd2 : decide ((1500 : Int) < (n2 : Int)) = true := decide_eq_true (by omega)
    go_wp2_with fail
    go_ret
    exact ⟨rfl, below_alloc hB _⟩
  have hd := decide_eq_false hlong
  have hd2 : decide ((1500 : Int) < (n2 : Int)) = false := decide_eq_false (by omega)
  go_wp2_with fail
  clear hd hd2
  have nM := blk_new w3 (.cells #[.int .i64 (wn : Int), .int .i64 (hn : Int), .slice (some ad) N cap0] 27)
  have hb := below_alloc1 w3 (.cells #[.int .i64 (wn : Int), .int .i64 (hn : Int), .slice (some ad) N cap0] 27)
  obtain ⟨w4, hw4⟩ : ∃ w4, w3.alloc (.cells #[.int .i64 (wn : Int), .int .i64 (hn : Int), .slice (some ad) N cap0] 27) = w4 := ⟨_, rfl⟩
  obtain ⟨M, hM⟩ : ∃ M, w3.heap.size = M := ⟨_, rfl⟩
  rw [hM] at nM
  rw [hw4] at nM hb
  rw [hM, hw4]
  replace hr := hr.below hb
  replace n9 := below_blk hb n9
  replace n11 := below_blk hb n11
  replace hB := below_next hB hb
  clear hb hw4 hM
  obtain ⟨E, hE⟩ : ∃ E, W.heap.size = E := ⟨_, rfl⟩
  have HE := Lib.hid hE
  rw [hE] at n9 n11 ⊢
  have hEw : E ≤ w4.heap.size := by have := hB.size; omega
  clear hE
  have hm7 := made_ok wn hn w4 (by omega) (by omega) (by omega) (by omega) ad cap0 u (by rw [HN.out]; exact HM.out) (by rw [HN.out]; exact hr)
  rw [HN.out] at hm7
  refine hm7.mono ?_
  clear hm7
  rintro e w5 ⟨g, Fg, rfl, hb, hFg, HG⟩
  have hA5 := Lib.hid (fun hn : 0 < n2 => (hv2.below hB).block hn)
  have l9 := blk_lt n9
  have l11 := blk_lt n11
  have lM := blk_lt nM
  have lad : ad.block < w4.heap.size := by
    have := World.block_lt_of_cell? w4 _ (hr 0 (by have h8 := Nat.mul_le_mul (show 1 ≤ wn by omega) (show 1 ≤ hn by omega); have := HN.out; omega))
    rwa [add_block] at this
  have HL4 := Lib.hid (And.intro l9 (And.intro l11 (And.intro lM lad)))
  have HFG := Lib.hid hFg
  replace hr := hr.below hb
  replace n9 := below_blk hb n9
  replace n11 := below_blk hb n11
  replace nM := below_blk hb nM
  have hB5 := below_next hB hb
  have hv5 := hv2.below hB5
  have hs5 := hb.size
  clear hb hB hFg l9 l11 lM lad hv2
  go_wp2_with fail
  refine (build_ok g Fg wn hn _ w5 HG).mono ?_
  rintro e w6 ⟨p, Fp, rfl, hb, hFp, HP⟩
  have HDIS : Hid (∀ t, Fg t → ¬ Fp t) := fun t h1 h2 => by have := HG.lt t h1; have := hFp t h2; omega
  have HFPG := Lib.hid (fun t (ht : Fp t) => Nat.le_trans hs5 (hFp t ht))
  replace hr := hr.below hb
  replace n9 := below_blk hb n9
  replace n11 := below_blk hb n11
  replace nM := below_blk hb nM
  have HG6 := HG.below hb
  have hB6 := below_next hB5 hb
  have hv6 := hv5.below hb
  have hs6 := Nat.le_trans hs5 hb.size
  clear hb HG hB5 hv5 hFp hs5
  have i_0 := cells_w n11 0 rfl
  have i_1 := cells_w n11 1 rfl
  have i_2 := cells_w n11 2 rfl
  have i_3 := cells_w n11 3 rfl
  go_wp2_with fail
  refine (repair_self p Fp g Fg wn hn s0 t0 s1 t1 _ w6 HP HG6).mono ?_
  rintro e w7 ⟨rfl, hM7, HP7⟩
  have hNF : ∀ b, b < w4.heap.size → ¬ Fp b := fun b hb ht => by have := HFPG.out b ht; omega
  replace n9 := hM7.blk n9 (hNF _ HL4.out.1)
  replace nM := hM7.blk nM (hNF _ HL4.out.2.2.1)
  replace n11 := hM7.blk n11 (hNF _ HL4.out.2.1)
  replace hr := hr.mod hM7 (hNF _ HL4.out.2.2.2)
  have hv7 := hv6.mod hM7 (fun h0 ad m c e => hNF _ (hA5.out h0 ad m c e))
  have HG7 := HG6.mod hM7 (fun t ht => HDIS.out t ht)
  have hEW := HE.out
  have hB7 := hB6.trans (hM7.below hB6.size (fun t ht => by have := HFPG.out t ht; omega))
  have hs7 := Nat.le_trans hs6 hM7.size
  have HNF := Lib.hid hNF
  clear hM7 hB6 hv6 HG6 HP i_0 i_1 i_2 i_3 hs6 hEW hNF
  have i_0 := cells_w n11 0 rfl
  have i_1 := cells_w n11 1 rfl
  have i_2 := cells_w n11 2 rfl
  have i_3 := cells_w n11 3 rfl
  go_wp2_with fail
  refine (within07_any s0 t0 s1 t1 wn hn w7 (by omega) (by omega) (by omega) (by omega)).mono ?_
  rintro e w8 ⟨rfl, hb⟩
  replace hr := hr.below hb
  replace n9 := below_blk hb n9
  replace nM := below_blk hb nM
  have HG8 := HG7.below hb
  have HP8 := HP7.below hb
  have hv8 := hv7.below hb
  have hB8 := below_next hB7 hb
  have hs8 := Nat.le_trans hs7 hb.size
  clear hb HG7 HP7 hv7 hB7 hs7 i_0 i_1 i_2 i_3 n11
  have j_0 := cells_w nM 0 rfl
  have j_1 := cells_w nM 1 rfl
  have j_2 := cells_w nM 2 rfl
  go_wp2_with fail
  refine (over_ok p Fp ad cap0 N u wn hn w8 HP8 HC.out hr).mono ?_
  rintro e w9 ⟨rfl, hb⟩
  replace hr := hr.below hb
  replace n9 := below_blk hb n9
  have HG9 := HG8.below hb
  have HP9 := HP8.below hb
  have hv9 := hv8.below hb
  have hB9 := below_next hB8 hb
  have hs9 := Nat.le_trans hs8 hb.size
  clear hb HG8 HP8 hv8 hB8 hs8 j_0 j_1 j_2 nM
  have i_0 := cells_w n9 0 rfl
  have i_1 := cells_w n9 1 rfl
  have i_2 := cells_w n9 2 rfl
  have i_3 := cells_w n9 3 rfl
  go_wp2_with fail
  refine (paste_any g Fg wn hn x0 y0 x1 y1 _ (.slice o2 n2 cap2) n2 u2 w9 HG9 hv9 (fun h0 t ht ad m c e => by have h1 := hA5.out h0 ad m c e; have h2 := HFG.out t ht; omega)).mono ?_
  rintro e w10 (⟨c, hc, rfl, hb⟩ | ⟨rfl, hrect, rw, rh, hrw, hrh, hnn, hu2, F2, hM10, hF2, HG10⟩)
  · have hcb : (c != 0) = true := by simp [hc]
    clear hc
    go_wp2_with fail
    go_ret
    exact ⟨rfl, below_next hB9 hb⟩
  obtain ⟨a0, a1, a2, a3, a4, a5⟩ := hrect
  have HDIS2 : Hid (∀ t, F2 t → ¬ Fp t) := fun t h1 h2 => by
    rcases hF2 t h1 with h3 | h3
    · exact HDIS.out t h3 h2
    · have := HP9.lt' t h2; omega
  have HP10 := HP9.mod hM10 (fun t h1 h2 => HDIS.out t h2 h1)
  have hB10 := hB9.trans (hM10.below hB9.size (fun t ht => by have := HFG.out t ht; have := HE.out; omega))
  replace n9 := hM10.blk n9 (fun ht => by have := HFG.out _ ht; have := HL4.out.1; omega)
  have hs10 := Nat.le_trans hs9 hM10.size
  clear hM10 hF2 HP9 hB9 hs9 HG9 hv9 hr hu2 i_0 i_1 i_2 i_3 hnn
  obtain ⟨pf, hpf⟩ : ∃ pf, pasteF (fun x y => u ((y * (wn : Int) + x).toNat)) x0 y0 x1 y1 rw u2 = pf := ⟨_, rfl⟩
  rw [hpf] at HG10
  have HPF := Lib.hid hpf
  clear hpf
  have i_0 := cells_w n9 0 rfl
  have i_1 := cells_w n9 1 rfl
  have i_2 := cells_w n9 2 rfl
  have i_3 := cells_w n9 3 rfl
  go_wp2_with fail
  refine (repair_ok p Fp g F2 wn hn x0 y0 x1 y1 pf _ w10 HP10 HG10 a0 a1 a2 a3 a4 a5).mono ?_
  rintro e w11 ⟨rfl, hM11, HP11'⟩
  have HP11 : PyrAt w11 p Fp wn hn pf := HP11'.congr (fun x y _ _ _ _ => by
    by_cases hin : inR x0 y0 x1 y1 x y
    · rw [mix_in hin]
    · rw [mix_out hin, ← HPF.out]
      unfold pasteF
      rw [if_neg hin])
  have HG11 := HG10.mod hM11 (fun t ht => HDIS2.out t ht)
  have hB11 := hB10.trans (hM11.below hB10.size (fun t ht => by have := HFPG.out t ht; have := HE.out; omega))
  clear hM11 HP11' HP10 HG10 hB10 hs10 n9 i_0 i_1 i_2 i_3
  go_wp2_with fail
  refine (build_ok g F2 wn hn pf w11 HG11).mono ?_
  rintro e w12 ⟨q, Fq, rfl, hb, hFq, HQ⟩
  have HG12 := HG11.below hb
  have HP12 := HP11.below hb
  have hB12 := below_next hB11 hb
  clear hb HG11 HP11 hB11 hFq
  go_wp2_with fail
  obtain ⟨D, hD⟩ : ∃ D, w12.heap.size = D := ⟨_, rfl⟩
  have nD := blk_new w12 (.cells #[.int .i64 (wn : Int), .int .i64 (hn : Int), .slice none 0 0] 27)
  have hb13 := below_alloc1 w12 (.cells #[.int .i64 (wn : Int), .int .i64 (hn : Int), .slice none 0 0] 27)
  have HPD : Hid (∀ t, Fp t → ¬ t = D) := fun t ht e => by have := HP12.lt' t ht; omega
  have HQD : Hid (∀ t, Fq t → ¬ t = D) := fun t ht e => by have := HQ.lt' t ht; omega
  have hED : E ≤ D := by have := hB12.size; have := HE.out; omega
  have HG13 := HG12.below hb13
  have hB13 := below_next hB12 hb13
  have HP13 := HP12.below hb13
  have HQ13 := HQ.below hb13
  obtain ⟨w13, hw13⟩ : ∃ w13, w12.alloc (.cells #[.int .i64 (wn : Int), .int .i64 (hn : Int), .slice none 0 0] 27) = w13 := ⟨_, rfl⟩
  rw [hD, hw13] at nD
  rw [hw13] at HG13 hB13 HP13 HQ13
  rw [hD, hw13]
  clear hD hw13 hb13 HP12 HQ HG12 hB12
  refine (grid_All_ok g F2 wn hn pf w13 HG13).mono ?_
  rintro e w14 ⟨rfl, hb⟩
  replace nD := below_blk hb nD
  have HG14 := HG13.below hb
  have HP14 := HP13.below hb
  have HQ14 := HQ13.below hb
  have hB14 := below_next hB13 hb
  clear hb HG13 HP13 HQ13 hB13
  go_wp2_with fail
  have hval := grid_Values_ok g F2 wn hn 0 0 ((wn : Int) - 1) ((hn : Int) - 1) pf w14 HG14 (by omega) (by omega) (by omega) (by omega) (by omega) (by omega) wn hn (by omega) (by omega)
  rw [HN.out] at hval
  refine hval.mono ?_
  clear hval
  rintro e w15 ⟨k5, cap5, cs5, rfl, hcap5, hk5, hb, hrow5, hcs5⟩
  have hr5 : RowAt w15 ⟨k5, 0, none⟩ N (lin pf wn) := RowAt.of_blk hrow5 (fun i hi => by
    rw [hcs5 i hi]
    show some (Value.int .i64 (pf (0 + ((i % wn : Nat) : Int)) (0 + ((i / wn : Nat) : Int)))) = some (Value.int .i64 (pf ((i : Int) % wn) ((i : Int) / wn)))
    rw [Int.zero_add, Int.zero_add, Int.natCast_emod, Int.natCast_ediv])
  have lD := blk_lt nD
  have hkD : k5 ≠ D := by omega
  replace nD := below_blk hb nD
  have HP15 := HP14.below hb
  have HQ15 := HQ14.below hb
  have hB15 := below_next hB14 hb
  have hset : Mod (fun t => t = D) w15 (w15.setCell ⟨D, 2, none⟩ (.slice (some ⟨k5, 0, none⟩) N cap5)) := (Mod.refl (fun t => t = D) w15).setCell (p := ⟨D, 2, none⟩) (.inl rfl) _
  have HP16 := Lib.hid (HP15.mod hset HPD.out)
  have HQ16 := Lib.hid (HQ15.mod hset HQD.out)
  have HR16 := Lib.hid (hr5.mod hset hkD)
  have hB16 := Lib.hid (hB15.trans (hset.below hB15.size (fun t ht => by have := HE.out; omega)))
  have nD16 := blk_set nD 2 (.slice (some ⟨k5, 0, none⟩) N cap5)
  have HND := Lib.hid nD16
  have i_0 := cells_w nD 0 rfl
  have i_1 := cells_w nD 1 rfl
  have i_2 := cells_w nD 2 rfl
  have z_0 := blk_frozen nD 0
  have z_1 := blk_frozen nD 1
  have z_2 := blk_frozen nD 2
  clear hb hrow5 hcs5 hcap5 hk5 hr5 HP15 HQ15 hB15 HP14 HQ14 HG14 hB14 hset nD16 lD hkD
  go_wp2_with fail
  refine (pyr_same_ok p q Fp Fq wn hn pf _ HP16.out HQ16.out).mono ?_
  rintro e w17 ⟨rfl, hb⟩
  have n17 := below_blk hb HND.out
  have HP17 : PyrAt w17 p Fp wn hn (fun x y => lin pf wn ((y * (wn : Int) + x).toNat)) := (HP16.out.below hb).congr (fun x y b0 b1 b2 b3 => lin_idx b0 b1 b2)
  have HPP := Lib.hid HP17
  have HR17 := Lib.hid (HR16.out.below hb)
  have hB17 := Lib.hid (below_next hB16.out hb)
  clear hb HP17 i_0 i_1 i_2 z_0 z_1 z_2 nD
  have i_0 := cells_w n17 0 rfl
  have i_1 := cells_w n17 1 rfl
  have i_2 := cells_w n17 2 rfl
  go_wp2_with fail
  refine (over_ok p Fp ⟨k5, 0, none⟩ cap5 N (lin pf wn) wn hn w17 HPP.out HC.out HR17.out).mono ?_
  rintro e w18 ⟨rfl, hb⟩
  go_wp2_with fail
  go_ret
  exact ⟨rfl, below_next hB17.out hb⟩
end Go.Proofs.Ytgfcffaoiladmaa
